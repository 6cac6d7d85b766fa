/- The walk of the law ChecksumParts. No condition. -/
import Derived.Test.YtncpafibcpphfaaLd
namespace Go.Proofs.Ytncpafibcpphfaa
open Go.RowKit
theorem b8s_one (l : List B8) : ∀ u ∈ b8s l, u.oneCell' = true := by
  intro u hu
  obtain ⟨x, _, rfl⟩ := List.mem_map.1 hu
  rfl
theorem b8s_take (l : List B8) (k : Nat) : b8s (l.take k) = (b8s l).take k := by unfold b8s; rw [List.map_take]
theorem b8s_drop (l : List B8) (k : Nat) : b8s (l.drop k) = (b8s l).drop k := by unfold b8s; rw [List.map_drop]
/-- the first k bytes of a pair -/
def pre16 (a b k : Nat) : List B8 := (pbs a 8 ++ pbs b 8).take k
theorem pre16_full (a b : Nat) : pre16 a b 16 = pbs a 8 ++ pbs b 8 := by unfold pre16; rw [List.take_of_length_le (by simp [pbs_len])]
theorem pre16_lo (a b k : Nat) (hk : k < 8) : b8s (pre16 a b k) ++ (#[Value.int .u8 ((a : Int) / 2 ^ (8 * (k % 8)) % 256)] : Array Value).toList = b8s (pre16 a b (k + 1)) := by
  have h : ∀ j, j ≤ 8 → pre16 a b j = pbs a j := by
    intro j hj
    unfold pre16
    rw [List.take_append_of_le_length (by rw [pbs_len]; exact hj)]
    unfold pbs
    rw [← List.map_take, List.take_range, Nat.min_eq_left hj]
  rw [h k (by omega), h (k + 1) (by omega), show k % 8 = k by omega, pbs_snoc]
theorem pre16_hi (a b k : Nat) (hk : 8 ≤ k) (hk2 : k < 16) : b8s (pre16 a b k) ++ (#[Value.int .u8 ((b : Int) / 2 ^ (8 * (k % 8)) % 256)] : Array Value).toList = b8s (pre16 a b (k + 1)) := by
  have h : ∀ j, 8 ≤ j → j ≤ 16 → pre16 a b j = pbs a 8 ++ pbs b (j - 8) := by
    intro j h1 h2
    unfold pre16
    rw [List.take_append, List.take_of_length_le (by rw [pbs_len]; exact h1), pbs_len]
    unfold pbs
    rw [← List.map_take, List.take_range, Nat.min_eq_left (by omega)]
  rw [h k hk (by omega), h (k + 1) (by omega) (by omega), show k + 1 - 8 = (k - 8) + 1 by omega, show k % 8 = k - 8 by omega, pbs_snoc2]
set_option maxHeartbeats 1000000 in
theorem parts_near (w : World) (A : Option Addr) (n c a b : Nat) (l : List B8) (hx : Reads w w.heap.size 8 A n (b8s l)) (hnc : n ≤ c) (hn : n ≤ 300) :
    Calls Try.prog 9 #[.slice A n c, .int .u64 a, .int .u64 b] w fun e w' => e = .returned (.bool true) ∧ Below w.heap.size w w' := by
  have hl : l.length = n * 8 := by have := hx.1; rw [b8s_len] at this; omega
  have HL := Lib.hid hl
  clear hl
  obtain ⟨i0, hi0, hz0, hz1, hz2⟩ := info_parts info5b
  have HI := Lib.hid (And.intro hi0 (And.intro hz0 (And.intro hz1 hz2)))
  clear hi0 hz0 hz1 hz2
  go_enter Try.func9, Try.ntmps9
  go_wp2_with fail
  go_loopw [7, 9] (fun v i wr => ∃ k : Nat, k ≤ n ∧ i = .int .i64 k ∧ wr.ownsRow w.heap.size 5 1 v (k * 8) (b8s (l.take (k * 8))) ∧ Below w.heap.size w wr) (fun _ i _ => n - (intOf i).toNat)
  case atStart => exact ⟨0, by omega, rfl, by simpa [b8s] using World.ownsRow_nil w w.heap.size 5 1, Below.refl _ _⟩
  case round =>
    obtain ⟨k, hk, rfl, hown, hb⟩ := hrel
    have HO := Lib.hid hown
    clear hown
    by_cases hlt : k < n
    · obtain ⟨bb, off, rfl, hbb, hc⟩ := (hx.below hb).plain (by omega) (by omega)
      have HC := Lib.hid hc
      clear hc
      have hr := reads_sub hbb HC.out (k * 8) 8 (by rw [b8s_len, HL.out]; omega)
      have hnx : b8s (l.take (k * 8)) ++ ((b8s l).drop (k * 8)).take 8 = b8s (l.take ((k + 1) * 8)) := by
        rw [← b8s_drop, ← b8s_take, ← b8s_append, show (k + 1) * 8 = k * 8 + 8 by omega, List.take_add]
      have h1 : ∀ u ∈ ((b8s l).drop (k * 8)).take 8, u.oneCell' = true := fun u hu => b8s_one l u (List.mem_of_mem_drop (List.mem_of_mem_take hu))
      have HN := Lib.hid hnx
      have HR := Lib.hid hr
      have H1 := Lib.hid h1
      clear hnx hr h1
      go_wp2_with (at_builtin; refine wpList_append_any _ rfl (.tmp 22) (.tmp 26) _ rfl w.heap.size 5 i0 _ 1 1 Try.underlying26 HI.out.1 HI.out.2.1 HI.out.2.2.1 HI.out.2.2.2 rfl (by omega) u7 (k * 8) (b8s (l.take (k * 8))) rfl HO.out w.heap.size _ 8 8 (((b8s l).drop (k * 8)).take 8) rfl HR.out H1.out (by simp only [maxLen]; omega) (by omega) hb.size ?_; intro v2 w2 hown2 hg2 _)
      have hb2 : Below w.heap.size w w2 := hb.grown hg2 hb.size (own_block_ge HO.out)
      have hown3 : w2.ownsRow w.heap.size 5 1 v2 ((k + 1) * 8) (b8s (l.take ((k + 1) * 8))) := by
        rw [show (k + 1) * 8 = k * 8 + 8 by omega]
        rw [HN.out, show (k + 1) * 8 = k * 8 + 8 by omega] at hown2
        exact hown2
      go_roundw
      case rel => exact ⟨k + 1, by omega, by go_num, hown3, hb2⟩
      case measure => simp [intOf]; omega
    · have hkn : k = n := by omega
      subst hkn
      have hall : b8s (l.take (k * 8)) = b8s l := by rw [List.take_of_length_le (by rw [HL.out]; exact Nat.le_refl _)]
      have hown : wr.ownsRow w.heap.size 5 1 u7 (k * 8) (b8s l) := by rw [← hall]; exact HO.out
      clear hall HO
      obtain ⟨A2, c2, rfl, _, _, hr2⟩ := own_slice hown
      have HR2 := Lib.hid hr2
      clear hown hr2
      obtain ⟨wo, rfl⟩ : ∃ wo : World, wo = wr := ⟨_, rfl⟩
      have hwo := hb.size
      go_wp2
      go_loopw [8, 10] (fun v i wr => ∃ j : Nat, j ≤ 16 ∧ i = .int .i64 j ∧ wr.ownsRow wo.heap.size 5 1 v j (b8s (pre16 a b j)) ∧ Below wo.heap.size wo wr) (fun _ i _ => 16 - (intOf i).toNat)
      case atStart => exact ⟨0, by omega, rfl, by simpa [pre16, b8s] using World.ownsRow_nil wo wo.heap.size 5 1, Below.refl _ _⟩
      case round =>
        obtain ⟨j, hj, rfl, hown, hb1⟩ := hrel
        have HO := Lib.hid hown
        clear hown
        by_cases hlt : j < 16
        · by_cases h8 : j < 8
          · have hm' : ¬ (8 : Int) ≤ j := by omega
            go_wp2_with (at_builtin; refine wpList_append_elem wr rfl (.tmp 36) (.tmp 43) _ rfl wo.heap.size 5 i0 _ 1 1 Try.underlying26 HI.out.1 HI.out.2.1 HI.out.2.2.1 HI.out.2.2.2 rfl (by omega) u8 j (b8s (pre16 a b j)) #[.int .u8 ((a : Int) / 2 ^ (8 * (j % 8)) % 256)] rfl rfl rfl HO.out (by simp [Value.oneCell']) (by simp only [maxLen]; omega) (by omega) hb1.size ?_; intro v2 w2 hown2 hb2)
            rw [pre16_lo a b j h8] at hown2
            go_roundw
            case rel => exact ⟨j + 1, by omega, by go_num, hown2, hb1.trans hb2⟩
            case measure => simp [intOf]; omega
          · have hm' : (8 : Int) ≤ j := by omega
            go_wp2_with (at_builtin; refine wpList_append_elem wr rfl (.tmp 36) (.tmp 43) _ rfl wo.heap.size 5 i0 _ 1 1 Try.underlying26 HI.out.1 HI.out.2.1 HI.out.2.2.1 HI.out.2.2.2 rfl (by omega) u8 j (b8s (pre16 a b j)) #[.int .u8 ((b : Int) / 2 ^ (8 * (j % 8)) % 256)] rfl rfl rfl HO.out (by simp [Value.oneCell']) (by simp only [maxLen]; omega) (by omega) hb1.size ?_; intro v2 w2 hown2 hb2)
            rw [pre16_hi a b j (by omega) hlt] at hown2
            go_roundw
            case rel => exact ⟨j + 1, by omega, by go_num, hown2, hb1.trans hb2⟩
            case measure => simp [intOf]; omega
        · obtain rfl : j = 16 := by omega
          have hown := HO.out
          rw [pre16_full] at hown
          obtain ⟨A3, c3, rfl, _, _, hr3⟩ := own_slice hown
          have HR3 := Lib.hid hr3
          clear hown hr3 HO
          have hbw := hb.trans (hb1.mono hwo)
          go_wp2_with fail
          refine (awake_any _).mono ?_
          rintro e w1 ⟨rfl, hc1⟩
          have hd1 := hbw.trans (hc1.mono hbw.size)
          go_wp2_with fail
          refine (Sectors_any _ _ _ l _ (by omega) (hx.up hd1)).mono ?_
          rintro e w2 ⟨rfl, hc2⟩
          have he2 : Below wo.heap.size wo w2 := hb1.trans ((hc1.mono hb1.size).trans (hc2.mono (Nat.le_trans hb1.size hc1.size)))
          go_wp2_with fail
          refine (Digest_any _ _ _ l _ (by omega) (HR2.out.up he2)).mono ?_
          rintro e w3 ⟨rfl, hc3⟩
          go_wp2_with fail
          refine (Pair_any _ _ _).mono ?_
          rintro e w4 ⟨rfl, hc4⟩
          have he4 : Below wr.heap.size wr w4 := hc1.trans ((hc2.mono hc1.size).trans ((hc3.mono (Nat.le_trans hc1.size hc2.size)).trans (hc4.mono (Nat.le_trans hc1.size (Nat.le_trans hc2.size hc3.size)))))
          go_wp2_with fail
          refine (Digest_any _ _ _ _ _ (by omega) (HR3.out.up he4)).mono ?_
          rintro e w5 ⟨rfl, hc5⟩
          go_wp2_with fail
          go_ret
          exact ⟨rfl, hbw.trans ((he4.trans (hc5.mono he4.size)).mono hbw.size)⟩
theorem walkChecksumParts (w : World) (v0 v1 v2 : Value) (h0 : Arg37 w v0) (h1 : Arg34 w v1) (h2 : Arg34 w v2) :
    Calls Try.prog 9 #[v0, v1, v2] w fun e w' => e = .returned (.bool true) ∧ Below w.heap.size w w' := by
  obtain ⟨A, n, c, l, rfl, hx, hnc, hcm⟩ := h0
  obtain ⟨a, rfl, _⟩ := h1
  obtain ⟨b, rfl, _⟩ := h2
  by_cases hf : 300 < n
  · have h63 : n ≤ 9223372036854775807 := by unfold maxLen at hcm; omega
    go_enter Try.func9, Try.ntmps9
    go_wp2_with fail
    refine (awake_any _).mono ?_
    rintro e w1 ⟨rfl, hb1⟩
    go_wp2_with fail
    go_ret
    exact ⟨rfl, hb1⟩
  · exact parts_near w A n c a b l hx hnc (by omega)
end Go.Proofs.Ytncpafibcpphfaa
