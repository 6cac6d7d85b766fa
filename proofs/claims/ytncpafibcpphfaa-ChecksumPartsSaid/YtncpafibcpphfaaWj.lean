/- The walks of Pair and of the reference's Pair. Conditions: 64-bit numbers. -/
import Derived.Test.YtncpafibcpphfaaWi
namespace Go.Proofs.Ytncpafibcpphfaa
open Go.RowKit
def pb (a i : Nat) : B8 := ⟨a / 2 ^ (8 * i) % 256, Nat.mod_lt _ (by omega)⟩
def pbs (a k : Nat) : List B8 := (List.range k).map (pb a)
theorem pb_val (a k : Nat) : ((a : Int) / 2 ^ (8 * k) % 256) = ((pb a k).1 : Int) := by simp [pb]
theorem pbs_succ (a k : Nat) : pbs a (k + 1) = pbs a k ++ [pb a k] := by simp [pbs, List.range_succ]
theorem pbs_len (a k : Nat) : (pbs a k).length = k := by simp [pbs]
theorem pbs_snoc (a k : Nat) : b8s (pbs a k) ++ (#[Value.int .u8 ((a : Int) / 2 ^ (8 * k) % 256)] : Array Value).toList = b8s (pbs a (k + 1)) := by
  rw [pbs_succ, b8s_snoc, pb_val]
theorem pbs_snoc2 (l : List B8) (a k : Nat) : b8s (l ++ pbs a k) ++ (#[Value.int .u8 ((a : Int) / 2 ^ (8 * k) % 256)] : Array Value).toList = b8s (l ++ pbs a (k + 1)) := by
  rw [pbs_succ, ← List.append_assoc, b8s_snoc, pb_val]
set_option maxHeartbeats 1000000 in
theorem refPair_any (a b : Nat) (w : World) :
    Calls Try.prog 20 #[.int .u64 a, .int .u64 b] w fun e w' => e = .returned (.int .u64 (dig (pbs a 8 ++ pbs b 8) : Nat)) ∧ Below w.heap.size w w' := by
  obtain ⟨i0, hi0, hz0, hz1, hz2⟩ := info_parts info5b
  have HI := Lib.hid (And.intro hi0 (And.intro hz0 (And.intro hz1 hz2)))
  clear hi0 hz0 hz1 hz2
  go_enter Try.func20, Try.ntmps20
  go_wp2
  go_loopw [5, 6] (fun v i wr => ∃ k : Nat, k ≤ 8 ∧ i = .int .i64 k ∧ wr.ownsRow w.heap.size 5 1 v k (b8s (pbs a k)) ∧ Below w.heap.size w wr) (fun _ i _ => 8 - (intOf i).toNat)
  case atStart => exact ⟨0, by omega, rfl, World.ownsRow_nil w w.heap.size 5 1, Below.refl _ _⟩
  case round =>
    obtain ⟨k, hk, rfl, hown, hb⟩ := hrel
    have HO := Lib.hid hown
    clear hown
    by_cases hlt : k < 8
    · go_wp2_with (at_builtin; refine wpList_append_elem wr rfl (.tmp 12) (.tmp 18) _ rfl w.heap.size 5 i0 _ 1 1 Try.underlying26 HI.out.1 HI.out.2.1 HI.out.2.2.1 HI.out.2.2.2 rfl (by omega) u5 k (b8s (pbs a k)) #[.int .u8 ((a : Int) / 2 ^ (8 * k) % 256)] rfl rfl rfl HO.out (by simp [Value.oneCell']) (by simp only [maxLen]; omega) (by omega) hb.size ?_; intro v2 w2 hown2 hb2)
      rw [pbs_snoc] at hown2
      go_roundw
      case rel => exact ⟨k + 1, by omega, by go_num, hown2, hb.trans hb2⟩
      case measure => simp [intOf]; omega
    · obtain rfl : k = 8 := by omega
      go_wp2
      go_loopw [5, 7] (fun v i wr => ∃ k : Nat, k ≤ 8 ∧ i = .int .i64 k ∧ wr.ownsRow w.heap.size 5 1 v (8 + k) (b8s (pbs a 8 ++ pbs b k)) ∧ Below w.heap.size w wr) (fun _ i _ => 8 - (intOf i).toNat)
      case atStart => exact ⟨0, by omega, rfl, by have := HO.out; simpa [pbs] using this, hb⟩
      case round =>
        obtain ⟨k, hk, rfl, hown, hb1⟩ := hrel
        have HO1 := Lib.hid hown
        clear hown
        by_cases hlt : k < 8
        · go_wp2_with (at_builtin; refine wpList_append_elem wr rfl (.tmp 24) (.tmp 30) _ rfl w.heap.size 5 i0 _ 1 1 Try.underlying26 HI.out.1 HI.out.2.1 HI.out.2.2.1 HI.out.2.2.2 rfl (by omega) u5 (8 + k) (b8s (pbs a 8 ++ pbs b k)) #[.int .u8 ((b : Int) / 2 ^ (8 * k) % 256)] rfl rfl rfl HO1.out (by simp [Value.oneCell']) (by simp only [maxLen]; omega) (by omega) hb1.size ?_; intro v2 w2 hown2 hb2)
          rw [pbs_snoc2] at hown2
          go_roundw
          case rel => exact ⟨k + 1, by omega, by go_num, hown2, hb1.trans hb2⟩
          case measure => simp [intOf]; omega
        · obtain rfl : k = 8 := by omega
          obtain ⟨A2, c2, hv, _, _, hr2⟩ := own_slice HO1.out
          subst hv
          go_wp2_with fail
          refine (refDigest_any 16 c2 A2 _ _ (by omega) hr2).mono ?_
          rintro e w2 ⟨rfl, rfl⟩
          go_wp2_with fail
          go_ret
          exact ⟨rfl, hb1⟩
end Go.Proofs.Ytncpafibcpphfaa
