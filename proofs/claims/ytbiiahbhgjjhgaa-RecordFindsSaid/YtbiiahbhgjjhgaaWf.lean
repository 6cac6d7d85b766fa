/- The walks of little and put. Conditions: the number is not negative, at most 8 bytes; put's row is the caller's own. -/
import Derived.Test.YtbiiahbhgjjhgaaWe
namespace Go.Proofs.Ytbiiahbhgjjhgaa
open Go.RowKit
theorem info5b : (Try.prog.info? 5).map (fun i => (i.zero, i.size, i.bytes)) = some (some (.int .u8 0), 1, 1) := by kernel_rfl
theorem u8s_len (l : List Nat) : (u8s l).length = l.length := by simp [u8s]
theorem u8s_snoc (l : List Nat) (x : Nat) : u8s (l ++ [x]) = u8s l ++ [.int .u8 (x : Int)] := by simp [u8s]
theorem u8s_append (l m : List Nat) : u8s (l ++ m) = u8s l ++ u8s m := by simp [u8s]
theorem u8s_one (l : List Nat) : ∀ u ∈ u8s l, u.oneCell' = true := by
  intro u hu
  obtain ⟨x, _, rfl⟩ := List.mem_map.1 hu
  rfl
theorem le_step (n i : Nat) : u8s (le n i) ++ (#[Value.int .u8 ((n / 256 ^ i : Nat) % 256 : Int)] : Array Value).toList = u8s (le n (i + 1)) := by
  rw [le_succ, u8s_snoc]
  rfl
theorem le_step2 (l : List Nat) (n i : Nat) : u8s (l ++ le n i) ++ (#[Value.int .u8 ((n : Int) / 2 ^ (8 * i) % 256)] : Array Value).toList = u8s (l ++ le n (i + 1)) := by
  rw [le_succ, ← List.append_assoc, u8s_snoc]
  have : (2 : Int) ^ (8 * i) = ((256 ^ i : Nat) : Int) := by rw [Int.pow_mul, Int.natCast_pow]; rfl
  rw [this]
  rfl
set_option maxHeartbeats 400000 in
theorem little_any (n k : Nat) (w : World) (hn : n < 9223372036854775808) (hk : k ≤ 8) :
    Calls Try.prog 25 #[.int .i64 n, .int .i64 k] w fun e w' => (∃ v, e = .returned v ∧ w'.ownsRow w.heap.size 5 1 v k (u8s (le n k))) ∧ Below w.heap.size w w' := by
  obtain ⟨i0, hi0, hz0, hz1, hz2⟩ := info_parts info5b
  have HI := Lib.hid (And.intro hi0 (And.intro hz0 (And.intro hz1 hz2)))
  clear hi0 hz0 hz1 hz2
  go_enter Try.func25, Try.ntmps25
  go_wp2
  go_loopw [0, 5, 7] (fun m v i wr => ∃ j : Nat, j ≤ k ∧ i = .int .i64 j ∧ m = .int .i64 (n / 256 ^ j : Nat) ∧ wr.ownsRow w.heap.size 5 1 v j (u8s (le n j)) ∧ Below w.heap.size w wr) (fun _ _ i _ => k - (intOf i).toNat)
  case atStart => exact ⟨0, by omega, rfl, by simp, by simpa [u8s, le] using World.ownsRow_nil w w.heap.size 5 1, Below.refl _ _⟩
  case round =>
    obtain ⟨j, hj, rfl, rfl, hown, hb⟩ := hrel
    have HO := Lib.hid hown
    have HS := Lib.hid (le_step n j)
    have HD : Hid (n / 256 ^ j / 256 = n / 256 ^ (j + 1)) := by show _ = _; rw [Nat.div_div_eq_div_mul, Nat.pow_succ]
    have hlt' : n / 256 ^ j < 9223372036854775808 := Nat.lt_of_le_of_lt (Nat.div_le_self _ _) hn
    clear hown
    generalize n / 256 ^ j = m at *
    by_cases hlt : j < k
    · go_wp2_with (at_builtin; refine wpList_append_elem wr rfl (.tmp 9) (.tmp 12) _ rfl w.heap.size 5 i0 _ 1 1 Try.underlying25 HI.out.1 HI.out.2.1 HI.out.2.2.1 HI.out.2.2.2 rfl (by omega) u5 j (u8s (le n j)) #[.int .u8 ((m : Int) % 256)] rfl rfl rfl HO.out (by simp [Value.oneCell']) (by simp only [maxLen]; omega) (by omega) hb.size ?_; intro v2 w2 hown2 hb2)
      rw [HS.out] at hown2
      go_roundw
      case rel => exact ⟨j + 1, by omega, by go_num, by rw [← HD.out]; go_num, hown2, hb.trans hb2⟩
      case measure => simp [intOf]; omega
    · obtain rfl : j = k := by omega
      go_wp2
      go_ret
      exact ⟨⟨_, rfl, HO.out⟩, hb⟩
set_option maxHeartbeats 400000 in
theorem put_any (v : Value) (base : Nat) (l : List Nat) (n k : Nat) (w : World) (hown : w.ownsRow base 5 1 v l.length (u8s l)) (hbase : base ≤ w.heap.size) (hl : l.length ≤ 100000) (hk : k ≤ 8) :
    Calls Try.prog 27 #[v, .int .i64 n, .int .i64 k] w fun e w' => (∃ v, e = .returned v ∧ w'.ownsRow base 5 1 v (l.length + k) (u8s (l ++ le n k))) ∧ Below base w w' := by
  obtain ⟨i0, hi0, hz0, hz1, hz2⟩ := info_parts info5b
  have HI := Lib.hid (And.intro hi0 (And.intro hz0 (And.intro hz1 hz2)))
  clear hi0 hz0 hz1 hz2
  have HW := Lib.hid hown
  clear hown
  go_enter Try.func27, Try.ntmps27
  go_wp2
  go_loopw [0, 7] (fun v i wr => ∃ j : Nat, j ≤ k ∧ i = .int .i64 j ∧ wr.ownsRow base 5 1 v (l.length + j) (u8s (l ++ le n j)) ∧ Below base w wr) (fun _ i _ => k - (intOf i).toNat)
  case atStart => exact ⟨0, by omega, rfl, by simpa [le] using HW.out, Below.refl _ _⟩
  case round =>
    obtain ⟨j, hj, rfl, hown, hb⟩ := hrel
    have HO := Lib.hid hown
    have HS := Lib.hid (le_step2 l n j)
    clear hown
    have hbs := hb.size
    by_cases hlt : j < k
    · go_wp2_with (at_builtin; refine wpList_append_elem wr rfl (.tmp 13) (.tmp 19) _ rfl base 5 i0 _ 1 1 Try.underlying25 HI.out.1 HI.out.2.1 HI.out.2.2.1 HI.out.2.2.2 rfl (by omega) u0 (l.length + j) (u8s (l ++ le n j)) #[.int .u8 ((n : Int) / 2 ^ (8 * j) % 256)] rfl rfl rfl HO.out (by simp [Value.oneCell']) (by simp only [maxLen]; omega) (by omega) (by omega) ?_; intro v2 w2 hown2 hb2)
      rw [HS.out] at hown2
      go_roundw
      case rel => exact ⟨j + 1, by omega, by go_num, hown2, hb.trans hb2⟩
      case measure => simp [intOf]; omega
    · obtain rfl : j = k := by omega
      go_wp2
      go_ret
      exact ⟨⟨_, rfl, HO.out⟩, hb⟩
end Go.Proofs.Ytbiiahbhgjjhgaa
