/- The walks of the references CheckLineage, EpochOf, End; Same. Condition: at most 1000 spans. -/
import Derived.Test.YtnhemndpnjhbfaaWo
namespace Go.Proofs.Ytnhemndpnjhbfaa
open Go.RowKit Go.Shelf
theorem chk2 {p s : Span} (h : s.e < 1 ∨ 1073741824 < s.e ∨ s.f < 1 ∨ 1073741824 < s.f ∨ s.t < 1 ∨ 1073741824 < s.t) : chkS p s = 2 := by
  unfold chkS
  rw [if_neg]
  simp only [inB, Bool.and_eq_true, decide_eq_true_eq]
  omega
theorem chk_in {p s : Span} (h : ¬(s.e < 1 ∨ 1073741824 < s.e ∨ s.f < 1 ∨ 1073741824 < s.f ∨ s.t < 1 ∨ 1073741824 < s.t)) : chkS p s = if s.f ≤ s.t then (if s.f = p.t + 1 then (if p.e < s.e then 0 else 13) else 15) else 3 := by
  unfold chkS
  rw [if_pos]
  simp only [inB, Bool.and_eq_true, decide_eq_true_eq]
  omega
theorem lin_ret {l : List Span} {k : Nat} {c : Int} (hlin : lineageE l = linE (prevS l k) (l.drop k)) (h : k < l.length) (hc : chkS (prevS l k) (atS l k) = c) (h0 : c ≠ 0) : lineageE l = c := by
  rw [hlin, linE_drop l k h, hc, if_neg h0]
theorem lin_go {l : List Span} {k : Nat} (hlin : lineageE l = linE (prevS l k) (l.drop k)) (h : k < l.length) (hc : chkS (prevS l k) (atS l k) = 0) : lineageE l = linE (prevS l (k + 1)) (l.drop (k + 1)) := by
  rw [hlin, linE_drop l k h, if_pos hc]
set_option maxRecDepth 100000 in
set_option maxHeartbeats 2000000 in
theorem refCheckLineage_any (A : Option Addr) (n c : Nat) (l : List Span) (w : World) (hR : RdS w A n l) (hl : n ≤ 1000) :
    Calls Try.prog 24 #[.slice A n c] w fun e w' => e = .returned (.int .i64 (lineageE l)) ∧ Below w.heap.size w w' := by
  have hlen := hR.len
  subst hlen
  obtain ⟨g, off, hg, hc⟩ := hR.cells
  have HG := Lib.hid hg
  have HC := Lib.hid hc
  clear hg hc hR
  go_enter Try.func24, Try.ntmps24
  go_wp2
  go_loopw [3] (fun i wr => ∃ k : Nat, k ≤ l.length ∧ i = .int .i64 k ∧ lineageE l = linE (prevS l k) (l.drop k) ∧ 0 ≤ (prevS l k).t ∧ (prevS l k).t ≤ 1073741824 ∧ Below w.heap.size w wr) (fun i _ => l.length - (intOf i).toNat)
  case atStart => exact ⟨0, by omega, rfl, rfl, (by show (0:Int) ≤ 0; omega), (by show (0:Int) ≤ 1073741824; omega), Below.refl _ _⟩
  case round =>
    obtain ⟨k, hk, rfl, hlin, ht0, ht1, hb⟩ := hrel
    by_cases hlt : k < l.length
    · obtain ⟨rfl, hgw⟩ := HG.out (by omega)
      have i0 : (k : Int) < l.length := by omega
      obtain ⟨d0, d1, d2⟩ := HC.out k hlt
      replace d0 := (hb.cell (p := ⟨g, off + k * 3, none⟩) hgw).trans d0
      replace d1 := (hb.cell (p := ⟨g, off + k * 3 + 1, none⟩) hgw).trans d1
      replace d2 := (hb.cell (p := ⟨g, off + k * 3 + 2, none⟩) hgw).trans d2
      have HR := Lib.hid (fun (c : Int) (hc : chkS (prevS l k) (atS l k) = c) (h0 : c ≠ 0) => lin_ret hlin hlt hc h0)
      have HN := Lib.hid (fun (hc : chkS (prevS l k) (atS l k) = 0) => lin_go hlin hlt hc)
      have HP := Lib.hid (prevS_succ l k)
      have hbs := hb.size
      have HB := Lib.hid (hb.alloc hb.size (.cells #[.int .i64 (atS l k).e, .int .i64 (atS l k).f, .int .i64 (atS l k).t] 68))
      by_cases c2 : (atS l k).e < 1 ∨ 1073741824 < (atS l k).e ∨ (atS l k).f < 1 ∨ 1073741824 < (atS l k).f ∨ (atS l k).t < 1 ∨ 1073741824 < (atS l k).t
      · have H2 := Lib.hid (HR.out 2 (chk2 c2) (by omega))
        clear hlin hb
        generalize atS l k = s at *
        have HX := Lib.hid c2
        clear c2
        go_wp2
        all_goals first | (go_ret; exact ⟨ret_int H2.out.symm, HB.out⟩) | (exfalso; have := HX.out; omega)
      · have HE := Lib.hid (chk_in (p := prevS l k) c2)
        have HRr := Lib.hid (fun (c : Int) (hc : (if (atS l k).f ≤ (atS l k).t then (if (atS l k).f = (prevS l k).t + 1 then (if (prevS l k).e < (atS l k).e then 0 else 13) else 15) else 3) = c) (h0 : c ≠ 0) => HR.out c (HE.out.trans hc) h0)
        have HNn := Lib.hid (fun (hc : (if (atS l k).f ≤ (atS l k).t then (if (atS l k).f = (prevS l k).t + 1 then (if (prevS l k).e < (atS l k).e then 0 else 13) else 15) else 3) = 0) => HN.out (HE.out.trans hc))
        simp only [not_or, Int.not_lt] at c2
        obtain ⟨x0, x1, x2, x3, x4, x5⟩ := c2
        by_cases hk0 : k = 0
        · subst hk0
          have hpt : (prevS l 0).t = 0 := rfl
          have hpe : (prevS l 0).e = 0 := rfl
          rw [hpt, hpe] at HRr HNn
          clear hlin hb hpt hpe HR HN HE ht0 ht1
          generalize atS l 0 = s at *
          simp only [Nat.zero_mul, Nat.add_zero] at d0 d1 d2
          go_wp2
          all_goals first
            | (go_ret; refine ⟨ret_int (HRr.out _ ?_ (by omega)).symm, HB.out⟩; (repeat' split) <;> first | rfl | (exfalso; first | omega | (rename_i hbq _ _ _; simp at hbq; omega) | (simp_all; done) | (simp_all; omega)))
            | exact ⟨⟨0 + 1, by omega, by go_num, HNn.out (by (repeat' split) <;> first | rfl | (exfalso; first | omega | (rename_i hbq _ _ _; simp at hbq; omega) | (simp_all; done) | (simp_all; omega))), (by rw [HP.out]; omega), (by rw [HP.out]; omega), HB.out⟩, by simp [intOf]; omega⟩
        · obtain ⟨j, rfl⟩ : ∃ j, k = j + 1 := ⟨k - 1, by omega⟩
          obtain ⟨e0, e1, e2⟩ := HC.out j (by omega)
          replace e0 := (hb.cell (p := ⟨g, off + j * 3, none⟩) hgw).trans e0
          replace e2 := (hb.cell (p := ⟨g, off + j * 3 + 2, none⟩) hgw).trans e2
          rw [prevS_succ] at HRr HNn ht0 ht1
          clear hlin hb HR HN HE e1
          generalize atS l (j + 1) = s at *
          generalize atS l j = p at *
          have hgr : g < wr.heap.size := Nat.lt_of_lt_of_le hgw hbs
          have j0 : (j : Int) < l.length := by omega
          have j2 : j < l.length := by omega
          have jw2 : IntKind.i64.wrap (j : Int) = j := IntWalk.i64_in _ (by omega)
          have jn : ((j : Int)).toNat = j := by omega
          have jz : ¬ ((j : Int) < 0) := by omega
          have jw : IntKind.i64.wrap ((j : Int) + 1 - 1) = j := by rw [IntWalk.i64_in _ (by omega)]; omega
          go_wp2
          all_goals first
            | (go_ret; refine ⟨ret_int (HRr.out _ ?_ (by omega)).symm, HB.out⟩; (repeat' split) <;> first | rfl | (exfalso; first | omega | (rename_i hbq _ _ _; simp at hbq; omega) | (simp_all; done) | (simp_all; omega)))
            | (go_quiet (fail)
               go_wp2
               all_goals first
                 | (go_ret; refine ⟨ret_int (HRr.out _ ?_ (by omega)).symm, below_drewN HB.out _⟩; (repeat' split) <;> first | rfl | (exfalso; first | omega | (rename_i hbq _ _ _; simp at hbq; omega) | (simp_all; done) | (simp_all; omega)))
                 | (go_roundw
                    case rel => exact ⟨j + 1 + 1, by omega, by go_num, HNn.out (by (repeat' split) <;> first | rfl | (exfalso; first | omega | (rename_i hbq _ _ _; simp at hbq; omega) | (simp_all; done) | (simp_all; omega))), (by rw [HP.out]; omega), (by rw [HP.out]; omega), below_drewN HB.out _⟩
                    case measure => simp [intOf]; omega))
    · have hkm : k = l.length := by omega
      subst hkm
      rw [List.drop_length] at hlin
      have HX := Lib.hid hlin
      clear hlin
      go_wp2
      go_ret
      exact ⟨ret_int HX.out.symm, hb⟩
end Go.Proofs.Ytnhemndpnjhbfaa
