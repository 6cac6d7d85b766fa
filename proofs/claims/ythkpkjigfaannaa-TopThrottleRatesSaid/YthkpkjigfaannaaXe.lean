/- The walk of the planner's bound. Condition: at most 5000 cycles, numbers up to 100000. -/
import Derived.Test.YthkpkjigfaannaaXa
import Derived.Deep.CutRange
namespace Go.Proofs.Ythkpkjigfaannaa
open Go.RowKit
/-- the bound behind k cycles, and the last close -/
def bndF (cl ap : List Int) : Nat → Int × Int
  | 0 => (0, 0)
  | k + 1 => (max (if k = 0 ∨ ap.getD (k - 1) 0 < ap.getD k 0 then max (bndF cl ap k).1 (ap.getD k 0 - 1 - (bndF cl ap k).2) else (bndF cl ap k).1) (ap.getD k 0 - cl.getD k 0), cl.getD k 0)
theorem bndF_range {cl ap : List Int} (hc : ∀ k, 0 ≤ cl.getD k 0 ∧ cl.getD k 0 ≤ 100000) (ha : ∀ k, 0 ≤ ap.getD k 0 ∧ ap.getD k 0 ≤ 100000) : ∀ k, (0 ≤ (bndF cl ap k).1 ∧ (bndF cl ap k).1 ≤ 100000) ∧ 0 ≤ (bndF cl ap k).2 ∧ (bndF cl ap k).2 ≤ 100000
  | 0 => ⟨⟨Int.le_refl _, by show (0 : Int) ≤ _; omega⟩, Int.le_refl _, by show (0 : Int) ≤ _; omega⟩
  | k + 1 => by
    obtain ⟨⟨h1, h2⟩, h3, h4⟩ := bndF_range hc ha k
    have h5 := hc k
    have h6 := ha k
    refine ⟨?_, h5⟩
    rw [bndF]
    dsimp only
    split <;> omega
set_option maxRecDepth 100000 in
set_option maxHeartbeats 2000000 in
theorem pbound_any (A0 A3 : Option Addr) (m c0 c3 : Nat) (v1 v2 v4 : Value) (cl ap : List Int) (w : World) (hR0 : RdI w A0 m cl) (hR3 : RdI w A3 m ap) (hm : m ≤ 5000) (hc : ∀ k, 0 ≤ cl.getD k 0 ∧ cl.getD k 0 ≤ 100000) (ha : ∀ k, 0 ≤ ap.getD k 0 ∧ ap.getD k 0 ≤ 100000) :
    Calls Try.prog 54 #[.agg #[.slice A0 m c0, v1, v2, .slice A3 m c3, v4]] w fun e w' => e = .returned (.int .i64 (bndF cl ap m).1) ∧ Below w.heap.size w w' := by
  have hl0 := hR0.len
  have hl3 := hR3.len
  obtain ⟨g0, f0, hg0, hc0⟩ := hR0.cells
  obtain ⟨g3, f3, hg3, hc3⟩ := hR3.cells
  have HL := Lib.hid (And.intro hl0 hl3)
  have HC := Lib.hid (And.intro hg0 (And.intro hc0 (And.intro hg3 hc3)))
  have HB := Lib.hid (bndF_range hc ha)
  have HR := Lib.hid (And.intro hc ha)
  clear hl0 hl3 hg0 hg3 hc0 hc3 hR0 hR3 hc ha
  go_enter Try.func54, Try.ntmps54
  go_wp2_with fail
  obtain ⟨W, hW⟩ : ∃ W, w.alloc (.cells #[.slice A0 m c0, v1, v2, .slice A3 m c3, v4] 61) = W := ⟨_, rfl⟩
  have hb : Below w.heap.size w W := by rw [← hW]; exact (Below.refl _ w).alloc (Nat.le_refl _) _
  have hK : Blk W w.heap.size 61 #[.slice A0 m c0, v1, v2, .slice A3 m c3, v4] := by rw [← hW]; exact Blk.new _ _ _
  have e0 : W.cell? ⟨w.heap.size, 0, none⟩ = some (.slice A0 m c0) := hK.cell 0
  have e3 : W.cell? ⟨w.heap.size, 3, none⟩ = some (.slice A3 m c3) := hK.cell 3
  rw [hW]
  have HBW := Lib.hid hb
  clear hW hK hb
  go_loopw [3, 4, 5, 6, 10] (fun t3 t4 t5 t6 t10 wr => ∃ k : Nat, k ≤ m ∧ t10 = .int .i64 k ∧ t3 = .int .i64 (bndF cl ap k).1 ∧ t4 = .int .i64 (bndF cl ap k).2 ∧ wr = W) (fun _ _ _ _ i _ => m - (intOf i).toNat)
  case atStart => exact ⟨0, by omega, rfl, rfl, rfl, rfl⟩
  case round =>
    obtain ⟨k, hk, rfl, rfl, rfl, rfl⟩ := hrel
    obtain ⟨⟨b0, b1⟩, b2, b3⟩ := HB.out k
    by_cases hlt : k < m
    · have ik : (k : Int) < m := by omega
      obtain ⟨hl0, hl3⟩ := HL.out
      obtain ⟨h1, h2, h3, h4⟩ := HC.out
      obtain ⟨rfl, q0⟩ := h1 (by omega)
      obtain ⟨rfl, q3⟩ := h3 (by omega)
      have d0 := (HBW.out.cell (p := ⟨g0, f0 + k, none⟩) q0).trans (h2 k (by omega))
      have d3 := (HBW.out.cell (p := ⟨g3, f3 + k, none⟩) q3).trans (h4 k (by omega))
      have hE := Lib.hid (show bndF cl ap (k + 1) = (max (if k = 0 ∨ ap.getD (k - 1) 0 < ap.getD k 0 then max (bndF cl ap k).1 (ap.getD k 0 - 1 - (bndF cl ap k).2) else (bndF cl ap k).1) (ap.getD k 0 - cl.getD k 0), cl.getD k 0) from rfl)
      obtain ⟨⟨rc0, rc1⟩, ra0, ra1⟩ := And.intro (HR.out.1 k) (HR.out.2 k)
      generalize (bndF cl ap k).1 = o at *
      generalize (bndF cl ap k).2 = c at *
      obtain ⟨o1, ho1⟩ : ∃ o1, (if k = 0 ∨ ap.getD (k - 1) 0 < ap.getD k 0 then max o (ap.getD k 0 - 1 - c) else o) = o1 := ⟨_, rfl⟩
      have ho1b : 0 ≤ o1 ∧ o1 ≤ 100000 := by rw [← ho1]; split <;> omega
      obtain ⟨ho10, ho11⟩ := ho1b
      rw [ho1] at hE
      have HO := Lib.hid ho1
      have HP : Hid (0 < k → wr.cell? ⟨g3, f3 + (k - 1), none⟩ = some (.int .i64 (ap.getD (k - 1) 0)) ∧ 0 ≤ ap.getD (k - 1) 0 ∧ ap.getD (k - 1) 0 ≤ 100000) := Lib.hid fun h => ⟨(HBW.out.cell (p := ⟨g3, f3 + (k - 1), none⟩) q3).trans (h4 (k - 1) (by omega)), HR.out.2 (k - 1)⟩
      clear h1 h2 h3 h4 hl0 hl3 ho1
      generalize ap.getD k 0 = a at *
      generalize cl.getD k 0 = e at *
      go_upto_region 5 with fail
      go_cut [26] from 11 to 43 (fun s26 wx => s26 = .bool (decide (k = 0 ∨ ap.getD (k - 1) 0 < a)) ∧ wx = wr)
      case first =>
        rcases Nat.eq_zero_or_pos k with hk0 | hk0
        · subst hk0
          go_wp2_with fail
          go_meet
          exact ⟨by simp, rfl⟩
        · obtain ⟨d4, x0, x1⟩ := HP.out hk0
          have hki : ¬ (k : Int) = 0 := by omega
          have hkb : ((k : Int) == 0) = false := by rw [beq_eq_false_iff_ne]; omega
          have hkw : IntKind.i64.wrap ((k : Int) - 1) = (k : Int) - 1 := IntWalk.i64_in _ (by omega)
          have hkn : ((k : Int) - 1).toNat = k - 1 := by omega
          generalize ap.getD (k - 1) 0 = a' at *
          by_cases hx : a' < a
          · go_wp2_with fail
            go_meet
            exact ⟨by rw [decide_eq_true (Or.inr hx)], rfl⟩
          · go_wp2_with fail
            go_meet
            exact ⟨by rw [decide_eq_false (by omega)], rfl⟩
      case rest =>
        obtain ⟨rfl, rfl⟩ := hcut
        go_upto_if 26 with fail
        go_cut [3] from 11 to 43 (fun s3 wx => s3 = .int .i64 o1 ∧ wx = wc)
        case first =>
          by_cases hp : k = 0 ∨ ap.getD (k - 1) 0 < a
          · have ho := HO.out
            rw [if_pos hp] at ho
            rw [decide_eq_true hp]
            have HO2 := Lib.hid ho
            clear ho
            rcases Int.lt_trichotomy o (a - 1 - c) with hx | hx | hx
            · go_wp2_with fail
              go_meet
              exact ⟨by rw [← HO2.out, Int.max_eq_right (by omega)], rfl⟩
            · go_wp2_with fail
              go_meet
              exact ⟨by rw [← HO2.out, Int.max_eq_right (by omega)], rfl⟩
            · go_wp2_with fail
              go_meet
              exact ⟨by rw [← HO2.out, Int.max_eq_left (by omega)], rfl⟩
          · have ho := HO.out
            rw [if_neg hp] at ho
            rw [decide_eq_false hp]
            have HO2 := Lib.hid ho
            clear ho
            go_wp2_with fail
            go_meet
            exact ⟨by rw [← HO2.out], rfl⟩
        case rest =>
          obtain ⟨rfl, rfl⟩ := hcut
          clear HP HO
          rcases Int.lt_trichotomy o1 (a - e) with hx | hx | hx
          · have HM := Lib.hid (Int.max_eq_right (show o1 ≤ a - e by omega))
            go_wp2_with fail
            go_roundw
            case rel => exact ⟨k + 1, by omega, by go_num, by rw [hE.out]; show _ = Value.int .i64 (max o1 (a - e)); rw [HM.out], by rw [hE.out], trivial⟩
            case measure => simp [intOf]; omega
          · have HM := Lib.hid (Int.max_eq_right (show o1 ≤ a - e by omega))
            go_wp2_with fail
            go_roundw
            case rel => exact ⟨k + 1, by omega, by go_num, by rw [hE.out]; show _ = Value.int .i64 (max o1 (a - e)); rw [HM.out], by rw [hE.out], trivial⟩
            case measure => simp [intOf]; omega
          · have HM := Lib.hid (Int.max_eq_left (show a - e ≤ o1 by omega))
            go_wp2_with fail
            go_roundw
            case rel => exact ⟨k + 1, by omega, by go_num, by rw [hE.out]; show _ = Value.int .i64 (max o1 (a - e)); rw [HM.out], by rw [hE.out], trivial⟩
            case measure => simp [intOf]; omega
    · have ik : ¬ (k : Int) < m := by omega
      obtain rfl : k = m := by omega
      go_wp2_with fail
      go_ret
      exact ⟨rfl, HBW.out⟩
end Go.Proofs.Ythkpkjigfaannaa
