/- The walks of the planner's Check and Plan, with a period of one, one capacity and no delays. Condition: at most 40 cycles, each of at most 60 sectors. -/
import Derived.Test.YthkpkjigfaannaaXg
import Derived.Deep.RegionHeld3
namespace Go.Proofs.Ythkpkjigfaannaa
open Go.RowKit
theorem badP_none {l : List Int} (h : ∀ x ∈ l, 0 ≤ x ∧ x ≤ 4096) : l.any badP = false := by
  rw [List.any_eq_false]
  intro x hx
  have := h x hx
  simp [badP, betwB, this.1, this.2]
set_option maxRecDepth 100000 in
set_option maxHeartbeats 2000000 in
theorem pcheck_any (A A1 : Option Addr) (m c c1 : Nat) (r : Int) (ws : List Int) (w : World) (hR : RdI w A m ws) (hR1 : RdI w A1 1 [r]) (hm : m ≤ 40) (hw : ∀ x ∈ ws, 0 ≤ x ∧ x ≤ 60) (hr : 1 ≤ r ∧ r ≤ 4096) :
    Calls Try.prog 40 #[.agg #[.slice A m c, .slice A1 1 c1, .int .i64 1, .int .i64 0, .int .i64 0]] w fun e w' => e = .returned (.int .i64 0) ∧ Below w.heap.size w w' := by
  have hb1 : ws.any badP = false := badP_none fun x hx => ⟨(hw x hx).1, by have := (hw x hx).2; omega⟩
  have hb2 : [r].any badP = false := badP_none fun x hx => by simp at hx; subst hx; omega
  obtain ⟨W, hW⟩ : ∃ W, w.alloc (.cells #[.slice A m c, .slice A1 1 c1, .int .i64 1, .int .i64 0, .int .i64 0] 65) = W := ⟨_, rfl⟩
  have hb : Below w.heap.size w W := by rw [← hW]; exact (Below.refl _ w).alloc (Nat.le_refl _) _
  have hK : Blk W w.heap.size 65 #[.slice A m c, .slice A1 1 c1, .int .i64 1, .int .i64 0, .int .i64 0] := by rw [← hW]; exact Blk.new _ _ _
  have hS1 := fun c9 => sectors_any A m c9 ws W (hR.up hb) (by omega)
  have hS2 := fun c9 => sectors_any A1 1 c9 [r] W (hR1.up hb) (by omega)
  rw [hb1] at hS1
  rw [hb2] at hS2
  have H1 := Lib.hid hS1
  have HB1 := Lib.hid (fun w9 => pbetween_any 1 1 4096 w9)
  have HB2 := Lib.hid (fun w9 => pbetween_any 0 0 1073741824 w9)
  rw [show betwB 1 1 4096 = true by decide] at HB1
  rw [show betwB 0 0 1073741824 = true by decide] at HB2
  have H2 := Lib.hid hS2
  have HB := Lib.hid hb
  have HW := Lib.hid hW
  have e0 := hK.cell 0
  have e1 := hK.cell 1
  have e2 := hK.cell 2
  have e3 := hK.cell 3
  have e4 := hK.cell 4
  clear hb1 hb2 hS1 hS2 hb hW hK hR hR1 hw
  go_enter Try.func40, Try.ntmps40
  go_upto_region 1 with fail
  rw [HW.out]
  go_wp2_with fail
  refine (HB1.out _).mono ?_
  rintro e w9 ⟨rfl, rfl⟩
  go_wp2_with fail
  refine (H1.out _).mono ?_
  rintro e w9 ⟨rfl, rfl⟩
  go_wp2_with fail
  refine (H2.out _).mono ?_
  rintro e w9 ⟨rfl, rfl⟩
  go_wp2_with fail
  refine (HB1.out _).mono ?_
  rintro e w9 ⟨rfl, rfl⟩
  go_wp2_with fail
  refine (HB2.out _).mono ?_
  rintro e w9 ⟨rfl, rfl⟩
  go_wp2_with fail
  refine (HB2.out _).mono ?_
  rintro e w9 ⟨rfl, rfl⟩
  go_wp2_with fail
  go_ret
  exact ⟨rfl, HB.out⟩
theorem tr5 {w' : World} {g : Nat} {t : TypeId} {v0 v1 v2 v3 v4 : Value} (k : Blk w' g t #[v0, v1, v2, v3, v4]) :
    w'.cell? ⟨g, 0, none⟩ = some v0 ∧ w'.cell? ⟨g, 1, none⟩ = some v1 ∧ w'.cell? ⟨g, 2, none⟩ = some v2 ∧ w'.cell? ⟨g, 3, none⟩ = some v3 ∧ w'.cell? ⟨g, 4, none⟩ = some v4 :=
  ⟨k.cell 0, k.cell 1, k.cell 2, k.cell 3, k.cell 4⟩
theorem fr5 {w' : World} {g : Nat} {t : TypeId} {cs : Array Value} (k : Blk w' g t cs) :
    w'.frozen? ⟨g, 0, none⟩ = false ∧ w'.frozen? ⟨g, 1, none⟩ = false ∧ w'.frozen? ⟨g, 2, none⟩ = false ∧ w'.frozen? ⟨g, 3, none⟩ = false ∧ w'.frozen? ⟨g, 4, none⟩ = false :=
  ⟨k.frozen 0, k.frozen 1, k.frozen 2, k.frozen 3, k.frozen 4⟩
set_option maxRecDepth 100000 in
set_option maxHeartbeats 2000000 in
theorem Plan_any (A A1 : Option Addr) (m c c1 : Nat) (r : Int) (ws : List Int) (w : World) (hR : RdI w A m ws) (hR1 : RdI w A1 1 [r]) (hcm : m ≤ c) (hm : m ≤ 40) (hw : ∀ x ∈ ws, 0 ≤ x ∧ x ≤ 60) (hr : 1 ≤ r ∧ r ≤ 4096) :
    Calls Try.prog 26 #[.agg #[.slice A m c, .slice A1 1 c1, .int .i64 1, .int .i64 0, .int .i64 0]] w fun e w' => (∃ v, PlanV (boundP ws r m) v ∧ e = .returned (.tuple #[v, .int .i64 0])) ∧ Below w.heap.size w w' := by
  have HCh := Lib.hid (fun w9 (h9 : Below w.heap.size w w9) => pcheck_any A A1 m c c1 r ws w9 (hR.up h9) (hR1.up h9) hm hw hr)
  have HPl := Lib.hid (fun w9 g (h9 : Below w.heap.size w w9) (hC : CarI w9 g r) => plan_any A m c g (.slice A1 1 c1) r ws w9 (hR.up h9) hcm hm (getD_range hw) hr hC)
  have HNc := Lib.hid (fun w9 (h9 : Below w.heap.size w w9) => newCarrier_any A1 c1 r w9 (hR1.up h9) (by omega))
  clear hR hR1 hw
  go_enter Try.func26, Try.ntmps26
  go_wp2_with fail
  obtain ⟨W, hW⟩ : ∃ W, ((w.alloc (.cells #[.slice A m c, .slice A1 1 c1, .int .i64 1, .int .i64 0, .int .i64 0] 65)).alloc (.cells #[.slice none 0 0, .slice none 0 0, .slice none 0 0, .slice none 0 0, .int .i64 0] 61)) = W := ⟨_, rfl⟩
  have hb : Below w.heap.size w W := by rw [← hW]; exact ((Below.refl _ w).alloc (Nat.le_refl _) _).alloc (by simp) _
  have hs : W.heap.size = w.heap.size + 2 := by rw [← hW]; simp
  have hT : Blk W w.heap.size 65 #[.slice A m c, .slice A1 1 c1, .int .i64 1, .int .i64 0, .int .i64 0] := by rw [← hW]; exact (Blk.new w 65 _).alloc _
  have hP : Blk W (w.heap.size + 1) 61 #[.slice none 0 0, .slice none 0 0, .slice none 0 0, .slice none 0 0, .int .i64 0] := by
    have h := Blk.new (w.alloc (.cells #[.slice A m c, .slice A1 1 c1, .int .i64 1, .int .i64 0, .int .i64 0] 65)) 61 #[.slice none 0 0, .slice none 0 0, .slice none 0 0, .slice none 0 0, .int .i64 0]
    simp only [World.size_alloc] at h
    rw [← hW]
    exact h
  rw [hW]
  refine (HCh.out _ hb).mono ?_
  rintro e w1 ⟨rfl, hb1⟩
  replace hT := hT.below hb1 hT.lt
  replace hP := hP.below hb1 hP.lt
  have hb0 : Below w.heap.size w w1 := hb.trans (hb1.mono (by omega))
  have HB0 := Lib.hid hb0
  have HT := Lib.hid hT
  have HP := Lib.hid hP
  obtain ⟨e0, e1, e2, e3, e4⟩ := tr5 hT
  have lt := hT.lt
  have lp := hP.lt
  clear hT hP hb0 hb1 hb hW hs HCh
  go_upto_region 4 with fail
  go_region_held3 (fun w' => w'.cell? ⟨w.heap.size, 0, none⟩ = some (.slice A m c) ∧ w'.cell? ⟨w.heap.size, 1, none⟩ = some (.slice A1 1 c1) ∧ w'.cell? ⟨w.heap.size, 2, none⟩ = some (.int .i64 1) ∧ w'.cell? ⟨w.heap.size, 3, none⟩ = some (.int .i64 0) ∧ w'.cell? ⟨w.heap.size, 4, none⟩ = some (.int .i64 0))
    (first
      | ((with_reducible (show World.cell? (World.setCell _ _ _) _ = _ ∧ _)); exact tr5 (Blk.far5 (HT.out.below (((Below.refl _ w1).drew.trans hbA).trans (hbB.mono hbA.size)) HT.out.lt) (by omega)))
      | exact tr5 (HT.out.below (Below.refl _ w1).drew HT.out.lt)
      | exact tr5 (HT.out.below ((Below.refl _ w1).drew.trans hbA) HT.out.lt)
      | exact tr5 (HT.out.below (((Below.refl _ w1).drew.trans hbA).trans (hbB.mono hbA.size)) HT.out.lt))
    (first
      | (go_at_call 42; refine (HNc.out _ (HB0.out.trans ((Below.refl _ w1).drew.mono HB0.out.size))).mono ?_; rintro e wA ⟨gA, rfl, hgA, hcA, hbA⟩)
      | (go_at_call 41; refine (HPl.out _ _ (HB0.out.trans (((Below.refl _ w1).drew.trans hbA).mono HB0.out.size)) hcA).mono ?_; rintro e wB ⟨⟨_, ⟨a0, n0, c0, a1, n1, c1, a2, n2, c2, a3, n3, c3, rfl⟩, rfl⟩, hbB⟩; have hP9 := HP.out.below (((Below.refl _ w1).drew.trans hbA).trans (hbB.mono hbA.size)) HP.out.lt; have hq9 := tr5 hP9; obtain ⟨q0, q1, q2, q3, q4⟩ := hq9; have hy9 := fr5 hP9; obtain ⟨y0, y1, y2, y3, y4⟩ := hy9; have lp9 := hP9.lt; have HP9 := Lib.hid hP9; clear hP9))
  have hb9 := HB0.out.trans ((((Below.refl _ w1).drew.trans hbA).trans (hbB.mono hbA.size)).mono HB0.out.size)
  have HB9 := Lib.hid hb9
  clear hb9 hbA hbB q0 q1 q2 q3 q4 y0 y1 y2 y3 y4
  go_wp2_with fail
  refine bodyPost_ret (results_cell_tmp rfl _ _ _ _ _ _ rfl (set5 HP9.out) Try.underlying61 rfl info61) rfl ⟨⟨_, ⟨_, _, _, _, _, _, _, _, _, _, _, _, rfl⟩, rfl⟩, ?_⟩
  exact bel5 HB9.out (by omega)
end Go.Proofs.Ythkpkjigfaannaa
