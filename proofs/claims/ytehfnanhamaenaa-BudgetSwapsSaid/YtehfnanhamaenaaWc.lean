/- The walk of the reference's Check. Condition: the slice is no longer than a slice may be. -/
import Derived.Test.YtehfnanhamaenaaWb
namespace Go.Proofs.Ytehfnanhamaenaa
open Go.RowKit
theorem chkB_zero {b : Bk} {i : Int} (h : chkB b i = 0) : -1 ≤ b.par ∧ b.par < i ∧ 0 ≤ b.rate ∧ b.rate ≤ 1073741824 ∧ 0 ≤ b.burst ∧ b.burst ≤ 1073741824 ∧ 0 ≤ b.tok ∧ b.tok ≤ b.burst := by
  unfold chkB at h
  split at h
  · omega
  · split at h
    · omega
    · omega
set_option maxHeartbeats 2000000 in
theorem refCheck_any (t : Int) (A : Option Addr) (n c : Nat) (l : List Bk) (w : World) (hR : RdB w A n l) (hn : n ≤ 9223372036854775807) :
    Calls Try.prog 16 #[budV t A n c] w fun e w' => e = .returned (.int .i64 (checkL t l)) ∧ Below w.heap.size w w' := by
  have hB0 : Below w.heap.size w (w.alloc (.cells #[.int .i64 t, .slice A n c] 24)) := (Below.refl _ w).alloc (Nat.le_refl _) _
  have hK := Blk.new w 24 #[.int .i64 t, .slice A n c]
  have hs1 : w.heap.size < (w.alloc (.cells #[.int .i64 t, .slice A n c] 24)).heap.size := by simp
  have hlen := hR.len
  unfold checkL
  rw [hlen]
  have HL := Lib.hid hlen
  have HK := Lib.hid hK
  clear hlen hK
  by_cases c1 : 64 < n
  · rw [if_pos c1]
    go_enter Try.func16, Try.ntmps16
    go_wp2
    go_ret
    exact ⟨rfl, hB0⟩
  · rw [if_neg c1]
    by_cases c2 : t < 0
    · rw [if_pos (.inl c2)]
      go_enter Try.func16, Try.ntmps16
      go_wp2
      go_ret
      exact ⟨rfl, hB0⟩
    · by_cases c3 : 1073741824 < t
      · rw [if_pos (.inr c3)]
        go_enter Try.func16, Try.ntmps16
        go_wp2
        go_ret
        exact ⟨rfl, hB0⟩
      · rw [if_neg (by omega)]
        go_enter Try.func16, Try.ntmps16
        go_wp2
        generalize (w.alloc (.cells #[.int .i64 t, .slice A n c] 24)) = W0 at *
        go_loopw [3] (fun i wr => ∃ k : Nat, k ≤ n ∧ i = .int .i64 k ∧ firstE l 0 = firstE (l.drop k) k ∧ Below W0.heap.size W0 wr) (fun i _ => n - (intOf i).toNat)
        case atStart => exact ⟨0, by omega, rfl, rfl, Below.refl _ _⟩
        case round =>
          obtain ⟨k, hk, rfl, hf, hb0⟩ := hrel
          have hb := hB0.trans (hb0.mono (Nat.le_of_lt hs1))
          have HF := Lib.hid hf
          clear hf
          have hK := HK.out.below hb0 hs1
          have k1 : wr.cell? ⟨w.heap.size, 1, none⟩ = some (.slice A n c) := hK.cell 1
          clear hK
          have hsr := hb0.size
          by_cases hlt : k < n
          · obtain ⟨b, off, rfl, hbb, hc⟩ := (hR.up hb).cells (by omega)
            have hkl : k < l.length := by rw [HL.out]; exact hlt
            obtain ⟨d0, d1, d2, d3⟩ := hc k hkl
            have HS := Lib.hid (firstE_drop l k hkl)
            clear hc
            by_cases c4 : chkB l[k] k = 0
            · have HC := Lib.hid c4
              have z := chkB_zero c4
              clear c4
              obtain ⟨⟨p, r, u, q⟩, hbk⟩ : ∃ bk, bk = l[k] := ⟨_, rfl⟩
              rw [← hbk] at HS HC d0 d1 d2 d3 z
              dsimp only at d0 d1 d2 d3 z
              obtain ⟨z1, z2, z3, z4, z5, z6, z7, z8⟩ := z
              clear hbk
              go_wp2
              go_roundw
              case rel => exact ⟨k + 1, by omega, by go_num, by rw [HF.out, HS.out, if_pos HC.out], hb0.alloc hb0.size _⟩
              case measure => simp [intOf]; omega
            · have HC := Lib.hid c4
              clear c4
              obtain ⟨⟨p, r, u, q⟩, hbk⟩ : ∃ bk, bk = l[k] := ⟨_, rfl⟩
              rw [← hbk] at HS HC d0 d1 d2 d3
              dsimp only at d0 d1 d2 d3
              clear hbk
              go_wp2
              all_goals first
                | (go_ret
                   refine ⟨ret_int ?_, hb.alloc hb.size _⟩
                   rw [HF.out, HS.out, if_neg HC.out]
                   unfold chkB
                   dsimp only
                   (repeat' split) <;> omega)
                | (exfalso
                   refine HC.out ?_
                   unfold chkB
                   dsimp only
                   (repeat' split) <;> omega)
          · have hkn : k = n := by omega
            have h0 : firstE l 0 = 0 := by
              rw [HF.out, List.drop_of_length_le (by rw [HL.out]; omega)]
              rfl
            have H0 := Lib.hid h0
            clear h0
            go_wp2
            go_ret
            exact ⟨ret_int H0.out.symm, hb⟩
end Go.Proofs.Ytehfnanhamaenaa
