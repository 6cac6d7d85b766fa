/- The walks of Next, Cut, Restore of the link and of the reference. Condition: at most 4000 flights. -/
import Derived.Test.YtjaoppopfeonhaaWp
import Derived.Test.YtjaoppopfeonhaaWh
namespace Go.Proofs.Ytjaoppopfeonhaa
open Go.RowKit
set_option linter.unusedSimpArgs false in
set_option linter.unusedVariables false in
set_option maxRecDepth 100000 in
set_option maxHeartbeats 1000000 in
theorem Next_any (mi ma ra : Int) (dn : Bool) (id nx : Int) (A : Option Addr) (m c : Nat) (l : List Ev) (w : World) (hR : Evs w A m l) (hm : m ≤ 4000) (hmc : m ≤ c) :
    Calls Try.prog 25 #[.agg (lkC mi ma ra dn id nx A m c)] w fun e w' => e = .returned (.tuple #[.int .i64 (nextM ⟨mi, ma, ra, dn, id, nx, l.map Ev.em⟩).1, .bool (nextM ⟨mi, ma, ra, dn, id, nx, l.map Ev.em⟩).2]) ∧ Below w.heap.size w w' := by
  unfold lkC
  have hlen := hR.count
  have hb0 : Below w.heap.size w (w.alloc (.cells #[.int .i64 mi, .int .i64 ma, .int .i64 ra, .bool dn, .int .i64 id, .int .i64 nx, .slice A m c] 26)) := (Below.refl _ _).alloc (Nat.le_refl _) _
  have g0 := Blk.new w 26 #[.int .i64 mi, .int .i64 ma, .int .i64 ra, .bool dn, .int .i64 id, .int .i64 nx, .slice A m c]
  have hs0 : w.heap.size + 1 ≤ (w.alloc (.cells #[.int .i64 mi, .int .i64 ma, .int .i64 ra, .bool dn, .int .i64 id, .int .i64 nx, .slice A m c] 26)).heap.size := by simp
  obtain ⟨R, hRR⟩ : ∃ R, nextM ⟨mi, ma, ra, dn, id, nx, l.map Ev.em⟩ = R := ⟨_, rfl⟩
  rw [hRR]
  unfold nextM at hRR
  have HR := Lib.hid hRR
  clear hRR
  have HX := Lib.hid (And.intro hR hlen)
  clear hR hlen
  go_enter Try.func25, Try.ntmps25
  go_upto_region 1 with fail
  generalize (w.alloc (.cells #[.int .i64 mi, .int .i64 ma, .int .i64 ra, .bool dn, .int .i64 id, .int .i64 nx, .slice A m c] 26)) = V at *
  have c0 : V.cell? ⟨w.heap.size, 0, none⟩ = some (.int .i64 mi) := g0.cell 0
  have c1 : V.cell? ⟨w.heap.size, 1, none⟩ = some (.int .i64 ma) := g0.cell 1
  have c2 : V.cell? ⟨w.heap.size, 2, none⟩ = some (.int .i64 ra) := g0.cell 2
  have c3 : V.cell? ⟨w.heap.size, 3, none⟩ = some (.bool dn) := g0.cell 3
  have c4 : V.cell? ⟨w.heap.size, 4, none⟩ = some (.int .i64 id) := g0.cell 4
  have c5 : V.cell? ⟨w.heap.size, 5, none⟩ = some (.int .i64 nx) := g0.cell 5
  have c6 : V.cell? ⟨w.heap.size, 6, none⟩ = some (.slice A m c) := g0.cell 6
  go_wp2_with fail
  refine (Check_any mi ma ra dn id nx A m c l V (HX.out.1.up hb0) (by omega) hmc).mono ?_
  rintro e w1 ⟨rfl, hb1⟩
  have G0 := g0.below hb1 (by omega)
  have HB := Lib.hid (And.intro (hb0.trans (hb1.mono hb0.size)) G0)
  clear c0 c1 c2 c3 c4 c5 c6 g0 hb0 hb1 hs0
  have q6 : w1.cell? ⟨w.heap.size, 6, none⟩ = some (.slice A m c) := G0.cell 6
  clear G0
  obtain ⟨r, hr⟩ : ∃ r, chkL ⟨mi, ma, ra, dn, id, nx, l.map Ev.em⟩ = r := ⟨_, rfl⟩
  rw [hr]
  by_cases hr0 : r = 0
  rotate_left 1
  · have hr1 : ((r : Int) != 0) = true := by rw [bne_iff_ne]; omega
    have hRR : R = (0, false) := by rw [← HR.out, if_pos (by rw [hr]; exact hr0)]
    subst hRR
    have HR0 := Lib.hid hr0
    clear hr0 HR hr
    go_wp2_with fail
    exact bodyPost_ret (results_tmp2 (p := 2) (q := 3) rfl _ _) rfl ⟨rfl, HB.out.1⟩
  subst hr0
  have hrr := HR.out
  rw [if_neg (by rw [hr]; simp)] at hrr
  clear HR hr
  rcases Nat.eq_zero_or_pos m with hm0 | hm0
  · subst hm0
    have hl0 : l = [] := List.eq_nil_of_length_eq_zero HX.out.2
    subst hl0
    have hRR : R = (0, false) := by rw [← hrr]; rfl
    subst hRR
    clear hrr
    go_wp2_with fail
    exact bodyPost_ret (results_tmp2 (p := 2) (q := 3) rfl _ _) rfl ⟨rfl, HB.out.1⟩
  · obtain ⟨b, off, hB, hbw, hc⟩ := (HX.out.1.up HB.out.1).cells hm0
    have hl0 : 0 < l.length := by have := HX.out.2; omega
    have d0 := (hc 0 l[0] (List.getElem?_eq_getElem hl0)).1
    have hRR : R = (l[0].t, true) := by
      rw [← hrr]
      cases l with
      | nil => simp at hl0
      | cons e l => rfl
    clear hc hrr
    generalize l[0] = ev at *
    obtain ⟨xt, xn, xA, xc, xp⟩ := ev
    dsimp only at d0 hRR
    subst hRR
    subst hB
    have d0' : w1.cell? ⟨b, off, none⟩ = some (.int .i64 xt) := by simpa using d0
    have hm1 : (0 : Int) < m := by omega
    have hm2 : ((m : Int) == 0) = false := by rw [beq_eq_false_iff_ne]; omega
    clear d0
    go_wp2_with fail
    exact bodyPost_ret (results_tmp2 (p := 2) (q := 3) rfl _ _) rfl ⟨rfl, HB.out.1⟩
set_option linter.unusedSimpArgs false in
set_option linter.unusedVariables false in
set_option maxRecDepth 100000 in
set_option maxHeartbeats 1000000 in
theorem refNext_any (mi ma ra : Int) (dn : Bool) (id nx : Int) (A : Option Addr) (m c : Nat) (l : List Ev) (w : World) (hR : Evs w A m l) (hm : m ≤ 4000) (hmc : m ≤ c) :
    Calls Try.prog 28 #[.agg (lkC mi ma ra dn id nx A m c)] w fun e w' => e = .returned (.tuple #[.int .i64 (nextM ⟨mi, ma, ra, dn, id, nx, l.map Ev.em⟩).1, .bool (nextM ⟨mi, ma, ra, dn, id, nx, l.map Ev.em⟩).2]) ∧ Below w.heap.size w w' := by
  unfold lkC
  have hlen := hR.count
  have hb0 : Below w.heap.size w (w.alloc (.cells #[.int .i64 mi, .int .i64 ma, .int .i64 ra, .bool dn, .int .i64 id, .int .i64 nx, .slice A m c] 26)) := (Below.refl _ _).alloc (Nat.le_refl _) _
  have g0 := Blk.new w 26 #[.int .i64 mi, .int .i64 ma, .int .i64 ra, .bool dn, .int .i64 id, .int .i64 nx, .slice A m c]
  have hs0 : w.heap.size + 1 ≤ (w.alloc (.cells #[.int .i64 mi, .int .i64 ma, .int .i64 ra, .bool dn, .int .i64 id, .int .i64 nx, .slice A m c] 26)).heap.size := by simp
  obtain ⟨R, hRR⟩ : ∃ R, nextM ⟨mi, ma, ra, dn, id, nx, l.map Ev.em⟩ = R := ⟨_, rfl⟩
  rw [hRR]
  unfold nextM at hRR
  have HR := Lib.hid hRR
  clear hRR
  have HX := Lib.hid (And.intro hR hlen)
  clear hR hlen
  go_enter Try.func28, Try.ntmps28
  go_upto_region 1 with fail
  generalize (w.alloc (.cells #[.int .i64 mi, .int .i64 ma, .int .i64 ra, .bool dn, .int .i64 id, .int .i64 nx, .slice A m c] 26)) = V at *
  have c0 : V.cell? ⟨w.heap.size, 0, none⟩ = some (.int .i64 mi) := g0.cell 0
  have c1 : V.cell? ⟨w.heap.size, 1, none⟩ = some (.int .i64 ma) := g0.cell 1
  have c2 : V.cell? ⟨w.heap.size, 2, none⟩ = some (.int .i64 ra) := g0.cell 2
  have c3 : V.cell? ⟨w.heap.size, 3, none⟩ = some (.bool dn) := g0.cell 3
  have c4 : V.cell? ⟨w.heap.size, 4, none⟩ = some (.int .i64 id) := g0.cell 4
  have c5 : V.cell? ⟨w.heap.size, 5, none⟩ = some (.int .i64 nx) := g0.cell 5
  have c6 : V.cell? ⟨w.heap.size, 6, none⟩ = some (.slice A m c) := g0.cell 6
  go_wp2_with fail
  refine (refCheck_any mi ma ra dn id nx A m c l V (HX.out.1.up hb0) (by omega)).mono ?_
  rintro e w1 ⟨rfl, hb1⟩
  have G0 := g0.below hb1 (by omega)
  have HB := Lib.hid (And.intro (hb0.trans (hb1.mono hb0.size)) G0)
  clear c0 c1 c2 c3 c4 c5 c6 g0 hb0 hb1 hs0
  have q6 : w1.cell? ⟨w.heap.size, 6, none⟩ = some (.slice A m c) := G0.cell 6
  clear G0
  obtain ⟨r, hr⟩ : ∃ r, chkL ⟨mi, ma, ra, dn, id, nx, l.map Ev.em⟩ = r := ⟨_, rfl⟩
  rw [hr]
  by_cases hr0 : r = 0
  rotate_left 1
  · have hr1 : ((r : Int) != 0) = true := by rw [bne_iff_ne]; omega
    have hRR : R = (0, false) := by rw [← HR.out, if_pos (by rw [hr]; exact hr0)]
    subst hRR
    have HR0 := Lib.hid hr0
    clear hr0 HR hr
    go_wp2_with fail
    exact bodyPost_ret (results_tmp2 (p := 2) (q := 3) rfl _ _) rfl ⟨rfl, HB.out.1⟩
  subst hr0
  have hrr := HR.out
  rw [if_neg (by rw [hr]; simp)] at hrr
  clear HR hr
  rcases Nat.eq_zero_or_pos m with hm0 | hm0
  · subst hm0
    have hl0 : l = [] := List.eq_nil_of_length_eq_zero HX.out.2
    subst hl0
    have hRR : R = (0, false) := by rw [← hrr]; rfl
    subst hRR
    clear hrr
    go_wp2_with fail
    exact bodyPost_ret (results_tmp2 (p := 2) (q := 3) rfl _ _) rfl ⟨rfl, HB.out.1⟩
  · obtain ⟨b, off, hB, hbw, hc⟩ := (HX.out.1.up HB.out.1).cells hm0
    have hl0 : 0 < l.length := by have := HX.out.2; omega
    have d0 := (hc 0 l[0] (List.getElem?_eq_getElem hl0)).1
    have hRR : R = (l[0].t, true) := by
      rw [← hrr]
      cases l with
      | nil => simp at hl0
      | cons e l => rfl
    clear hc hrr
    generalize l[0] = ev at *
    obtain ⟨xt, xn, xA, xc, xp⟩ := ev
    dsimp only at d0 hRR
    subst hRR
    subst hB
    have d0' : w1.cell? ⟨b, off, none⟩ = some (.int .i64 xt) := by simpa using d0
    have hm1 : (0 : Int) < m := by omega
    have hm2 : ((m : Int) == 0) = false := by rw [beq_eq_false_iff_ne]; omega
    clear d0
    go_wp2_with fail
    exact bodyPost_ret (results_tmp2 (p := 2) (q := 3) rfl _ _) rfl ⟨rfl, HB.out.1⟩
end Go.Proofs.Ytjaoppopfeonhaa
