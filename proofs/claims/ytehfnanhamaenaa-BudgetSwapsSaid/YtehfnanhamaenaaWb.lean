/- The walks of Check, of the program and of the reference. Condition: the slice is no longer than a slice may be. -/
import Derived.Test.YtehfnanhamaenaaWa
namespace Go.Proofs.Ytehfnanhamaenaa
open Go.RowKit
/-- a budget's value: its time and its buckets -/
abbrev budV (t : Int) (A : Option Addr) (n c : Nat) : Value := .agg #[.int .i64 t, .slice A n c]
def RdB (w : World) (A : Option Addr) (n : Nat) (l : List Bk) : Prop := Reads w w.heap.size 4 A n (encBs l)
theorem RdB.len {w : World} {A : Option Addr} {n : Nat} {l : List Bk} (h : RdB w A n l) : l.length = n := by
  have := h.1
  rw [encBs_len] at this
  omega
theorem RdB.up {w w' : World} {A : Option Addr} {n : Nat} {l : List Bk} (h : RdB w A n l) (hb : Below w.heap.size w w') : RdB w' A n l := Reads.up h hb
theorem RdB.cells {w : World} {A : Option Addr} {n : Nat} {l : List Bk} (h : RdB w A n l) (hn : 0 < n) : ∃ b off, A = some ⟨b, off, none⟩ ∧ b < w.heap.size ∧
    ∀ k, (hk : k < l.length) → w.cell? ⟨b, off + k * 4, none⟩ = some (.int .i64 l[k].par) ∧ w.cell? ⟨b, off + k * 4 + 1, none⟩ = some (.int .i64 l[k].rate) ∧ w.cell? ⟨b, off + k * 4 + 2, none⟩ = some (.int .i64 l[k].burst) ∧ w.cell? ⟨b, off + k * 4 + 3, none⟩ = some (.int .i64 l[k].tok) := by
  obtain ⟨b, off, e, hb, hc⟩ := Reads.plain h hn (by omega)
  refine ⟨b, off, e, hb, fun k hk => ⟨?_, ?_, ?_, ?_⟩⟩
  · exact hc (k * 4 + 0) _ (by rw [encBs_at l k 0 hk (by omega)]; rfl)
  · rw [Nat.add_assoc]; exact hc (k * 4 + 1) _ (by rw [encBs_at l k 1 hk (by omega)]; rfl)
  · rw [Nat.add_assoc]; exact hc (k * 4 + 2) _ (by rw [encBs_at l k 2 hk (by omega)]; rfl)
  · rw [Nat.add_assoc]; exact hc (k * 4 + 3) _ (by rw [encBs_at l k 3 hk (by omega)]; rfl)
set_option maxHeartbeats 1000000 in
theorem Check_any (t : Int) (A : Option Addr) (n c : Nat) (l : List Bk) (w : World) (hR : RdB w A n l) (hn : n ≤ 9223372036854775807) :
    Calls Try.prog 15 #[budV t A n c] w fun e w' => e = .returned (.int .i64 (checkL t l)) ∧ Below w.heap.size w w' := by
  have hB0 : Below w.heap.size w (w.alloc (.cells #[.int .i64 t, .slice A n c] 24)) := (Below.refl _ w).alloc (Nat.le_refl _) _
  have hlen := hR.len
  unfold checkL
  rw [hlen]
  have HL := Lib.hid hlen
  clear hlen
  by_cases c1 : 64 < n
  · rw [if_pos c1]
    go_enter Try.func15, Try.ntmps15
    go_wp2
    go_ret
    exact ⟨rfl, hB0⟩
  · rw [if_neg c1]
    by_cases c2 : t < 0
    · rw [if_pos (.inl c2)]
      go_enter Try.func15, Try.ntmps15
      go_wp2
      go_ret
      exact ⟨rfl, hB0⟩
    · by_cases c3 : 1073741824 < t
      · rw [if_pos (.inr c3)]
        go_enter Try.func15, Try.ntmps15
        go_wp2
        go_ret
        exact ⟨rfl, hB0⟩
      · rw [if_neg (by omega)]
        go_enter Try.func15, Try.ntmps15
        go_wp2
        go_loopw [23] (fun i wr => ∃ k : Nat, k ≤ n ∧ i = .int .i64 k ∧ firstE l 0 = firstE (l.drop k) k ∧ Below w.heap.size w wr) (fun i _ => n - (intOf i).toNat)
        case atStart => exact ⟨0, by omega, rfl, rfl, hB0⟩
        case round =>
          obtain ⟨k, hk, rfl, hf, hb⟩ := hrel
          have HF := Lib.hid hf
          clear hf
          by_cases hlt : k < n
          · obtain ⟨b, off, rfl, hbb, hc⟩ := (hR.up hb).cells (by omega)
            have hkl : k < l.length := by rw [HL.out]; exact hlt
            obtain ⟨d0, d1, d2, d3⟩ := hc k hkl
            have HS := Lib.hid (firstE_drop l k hkl)
            clear hc
            by_cases c4 : chkB l[k] k = 0
            · have HC := Lib.hid c4
              clear c4
              generalize l[k] = bk at *
              go_wp2_with (go_at_call 29; refine (bucket_any bk k _).mono ?_; rintro e w1 ⟨rfl, hb1⟩; rw [HC.out])
              go_roundw
              case rel => exact ⟨k + 1, by omega, by go_num, by rw [HF.out, HS.out, if_pos HC.out], (hb.alloc hb.size _).trans (hb1.mono (by simp; exact Nat.le_succ_of_le hb.size))⟩
              case measure => simp [intOf]; omega
            · have HC := Lib.hid c4
              have hne : (chkB l[k] k != 0) = true := by rw [bne_iff_ne]; exact c4
              clear c4
              generalize l[k] = bk at *
              go_wp2_with (go_at_call 29; refine (bucket_any bk k _).mono ?_; rintro e w1 ⟨rfl, hb1⟩)
              go_ret
              exact ⟨ret_int (by rw [HF.out, HS.out, if_neg HC.out]), (hb.alloc hb.size _).trans (hb1.mono (by simp; exact Nat.le_succ_of_le hb.size))⟩
          · have hkn : k = n := by omega
            have h0 : firstE l 0 = 0 := by
              rw [HF.out, List.drop_of_length_le (by rw [HL.out]; omega)]
              rfl
            have H0 := Lib.hid h0
            clear h0
            go_wp2
            go_ret
            exact ⟨ret_int H0.out.symm, hb⟩
end Go.Proofs.Ytehfnanhamaenaa
