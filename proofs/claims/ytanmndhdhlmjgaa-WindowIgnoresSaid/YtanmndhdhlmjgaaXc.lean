/- The walks of due's closures again and room, and of due. Conditions: small. -/
import Derived.Test.YtanmndhdhlmjgaaXa
import Derived.Test.YtanmndhdhlmjgaaVa
import Derived.Laws.EntriesVeiled
namespace Go.Proofs.Ytanmndhdhlmjgaa
open Go.RowKit
set_option maxRecDepth 100000 in
set_option maxHeartbeats 2000000 in
set_option linter.unusedSimpArgs false in
theorem again_any (now tmo : Int) (o : Om) (g x p1 p3 B : Nat) (w : World) (hn : 0 ≤ now ∧ now ≤ 1073741824) (ht : 0 ≤ o.time ∧ o.time ≤ 1073741824)
    (hc3 : Blk w p3 3 #[.int .i64 now]) (hc1 : Blk w p1 96 #[.pointer (some ⟨B, 0, none⟩)]) (hB : w.cell? ⟨B, 2, none⟩ = some (.int .i64 tmo))
    (d1 : w.cell? ⟨g, x + 1, none⟩ = some (.int .i64 o.time)) (d2 : w.cell? ⟨g, x + 2, none⟩ = some (.int .i64 o.cnt)) (d3 : w.cell? ⟨g, x + 3, none⟩ = some (.bool o.ak)) :
    Calls Try.prog 77 #[.pointer (some ⟨g, x, none⟩), .pointer (some ⟨p3, 0, none⟩), .pointer (some ⟨p1, 0, none⟩)] w fun e w' => e = .returned (.bool (again now tmo o)) ∧ Below w.heap.size w w' := by
  have e3 : w.cell? ⟨p3, 0, none⟩ = some (.int .i64 now) := hc3.cell 0
  have e1 : w.cell? ⟨p1, 0, none⟩ = some (.pointer (some ⟨B, 0, none⟩)) := hc1.cell 0
  have l3 := hc3.lt
  have l1 := hc1.lt
  clear hc3 hc1
  obtain ⟨sq, tm, ct, ak, pp⟩ := o
  dsimp only at ht d1 d2 d3 ⊢
  have kw : IntKind.i64.wrap (now - tm) = now - tm := by rw [IntWalk.i64_in _ (by omega)]
  cases ak with
  | true =>
    go_enter Try.func77, Try.ntmps77
    go_upto_region 1 with fail
    refine wp_region_lexP [(0, 1), (1, 1), (2, 1), (3, 1), (4, 1), (5, 1), (6, 1), (7, 1), (12, 1), (8, 1), (13, 1), (9, 1), (14, 1), (10, 1), (15, 1), (11, 1), (16, 1), (17, 1), (18, 1), (19, 1), (20, 1), (21, 1), (22, 1), (23, 1), (24, 1), (25, 1)] [] (fun w9 => w9.cell? ⟨g, x + 1, none⟩ = some (.int .i64 tm) ∧ w9.cell? ⟨g, x + 2, none⟩ = some (.int .i64 ct) ∧ w9.cell? ⟨g, x + 3, none⟩ = some (.bool true) ∧ w9.cell? ⟨p3, 0, none⟩ = some (.int .i64 now) ∧ w9.cell? ⟨p1, 0, none⟩ = some (.pointer (some ⟨B, 0, none⟩)) ∧ w9.cell? ⟨B, 2, none⟩ = some (.int .i64 tmo)) (by kernel_rfl) (by kernel_rfl) (by kernel_rfl) (by kernel_rfl) (by kernel_rfl) ⟨d1, d2, d3, e3, e1, hB⟩ ?_
    repeat ((first | (refine lexP_read rfl (by rfl) (by first | exact wanted_none rfl | exact wanted_some (b := true) (c := true) rfl rfl rfl | exact wanted_some (b := false) (c := false) rfl rfl rfl) (by intro w9 hS9; (try dsimp only at hS9); go_simp <;> with_reducible rfl) ?_) | (refine lexP_skip rfl (fun _ => trivial) (by first | exact wanted_some (b := true) (c := false) rfl rfl rfl | exact wanted_some (b := false) (c := true) rfl rfl rfl) ?_) | (refine lexP_builtin rfl (fun _ => trivial) (by first | exact wanted_none rfl | exact wanted_some (b := true) (c := true) rfl rfl rfl | exact wanted_some (b := false) (c := false) rfl rfl rfl) (by intro w9 hS9; (try dsimp only at hS9); go_simp <;> with_reducible rfl) ?_)); (try simp only [Act.put, List.getElem_toArray, List.getElem_cons_succ, List.getElem_cons_zero, List.setIfInBounds_toArray, List.set_cons_zero, List.set_cons_succ]))
    refine lexP_nil (panQ_normal ?_)
    go_wp2_with fail
    go_ret
    exact ⟨ret_bool (by rfl), (Below.refl _ w).drew⟩
  | false =>
    by_cases h1 : tmo ≤ now - tm
    rotate_left 1
    · have k1 : decide (tmo ≤ now - tm) = false := decide_eq_false h1
      have HM : Hid (again now tmo ⟨sq, tm, ct, false, pp⟩ = false) := by show _ = _; unfold again; dsimp only; rw [k1]; rfl
      clear h1
      go_enter Try.func77, Try.ntmps77
      go_upto_region 1 with fail
      refine wp_region_lexP [(0, 1), (1, 1), (2, 1), (3, 1), (4, 1), (5, 1), (6, 1), (7, 1), (12, 1), (8, 1), (13, 1), (9, 1), (14, 1), (10, 1), (15, 1), (11, 1), (16, 1), (17, 1), (18, 1), (19, 1), (20, 1), (21, 1), (22, 1), (23, 1), (24, 1), (25, 1)] [] (fun w9 => w9.cell? ⟨g, x + 1, none⟩ = some (.int .i64 tm) ∧ w9.cell? ⟨g, x + 2, none⟩ = some (.int .i64 ct) ∧ w9.cell? ⟨g, x + 3, none⟩ = some (.bool false) ∧ w9.cell? ⟨p3, 0, none⟩ = some (.int .i64 now) ∧ w9.cell? ⟨p1, 0, none⟩ = some (.pointer (some ⟨B, 0, none⟩)) ∧ w9.cell? ⟨B, 2, none⟩ = some (.int .i64 tmo)) (by kernel_rfl) (by kernel_rfl) (by kernel_rfl) (by kernel_rfl) (by kernel_rfl) ⟨d1, d2, d3, e3, e1, hB⟩ ?_
      repeat ((first | (refine lexP_read rfl (by rfl) (by first | exact wanted_none rfl | exact wanted_some (b := true) (c := true) rfl rfl rfl | exact wanted_some (b := false) (c := false) rfl rfl rfl) (by intro w9 hS9; (try dsimp only at hS9); go_simp <;> with_reducible rfl) ?_) | (refine lexP_skip rfl (fun _ => trivial) (by first | exact wanted_some (b := true) (c := false) rfl rfl rfl | exact wanted_some (b := false) (c := true) rfl rfl rfl) ?_) | (refine lexP_builtin rfl (fun _ => trivial) (by first | exact wanted_none rfl | exact wanted_some (b := true) (c := true) rfl rfl rfl | exact wanted_some (b := false) (c := false) rfl rfl rfl) (by intro w9 hS9; (try dsimp only at hS9); go_simp <;> with_reducible rfl) ?_)); (try simp only [Act.put, List.getElem_toArray, List.getElem_cons_succ, List.getElem_cons_zero, List.setIfInBounds_toArray, List.set_cons_zero, List.set_cons_succ]))
      refine lexP_nil (panQ_normal ?_)
      go_wp2_with fail
      go_ret
      exact ⟨ret_bool (by rw [HM.out]), (Below.refl _ w).drew⟩
    have k1 : decide (tmo ≤ now - tm) = true := decide_eq_true h1
    by_cases h2 : ct < 1073741824
    · have k2 : decide (ct < 1073741824) = true := decide_eq_true h2
      have HM : Hid (again now tmo ⟨sq, tm, ct, false, pp⟩ = true) := by show _ = _; unfold again; dsimp only; rw [k1, k2]; rfl
      clear h1 h2
      go_enter Try.func77, Try.ntmps77
      go_upto_region 1 with fail
      refine wp_region_lexP [(0, 1), (1, 1), (2, 1), (3, 1), (4, 1), (5, 1), (6, 1), (7, 1), (12, 1), (8, 1), (13, 1), (9, 1), (14, 1), (10, 1), (15, 1), (11, 1), (16, 1), (17, 1), (18, 1), (19, 1), (20, 1), (21, 1), (22, 1), (23, 1), (24, 1), (25, 1)] [] (fun w9 => w9.cell? ⟨g, x + 1, none⟩ = some (.int .i64 tm) ∧ w9.cell? ⟨g, x + 2, none⟩ = some (.int .i64 ct) ∧ w9.cell? ⟨g, x + 3, none⟩ = some (.bool false) ∧ w9.cell? ⟨p3, 0, none⟩ = some (.int .i64 now) ∧ w9.cell? ⟨p1, 0, none⟩ = some (.pointer (some ⟨B, 0, none⟩)) ∧ w9.cell? ⟨B, 2, none⟩ = some (.int .i64 tmo)) (by kernel_rfl) (by kernel_rfl) (by kernel_rfl) (by kernel_rfl) (by kernel_rfl) ⟨d1, d2, d3, e3, e1, hB⟩ ?_
      repeat ((first | (refine lexP_read rfl (by rfl) (by first | exact wanted_none rfl | exact wanted_some (b := true) (c := true) rfl rfl rfl | exact wanted_some (b := false) (c := false) rfl rfl rfl) (by intro w9 hS9; (try dsimp only at hS9); go_simp <;> with_reducible rfl) ?_) | (refine lexP_skip rfl (fun _ => trivial) (by first | exact wanted_some (b := true) (c := false) rfl rfl rfl | exact wanted_some (b := false) (c := true) rfl rfl rfl) ?_) | (refine lexP_builtin rfl (fun _ => trivial) (by first | exact wanted_none rfl | exact wanted_some (b := true) (c := true) rfl rfl rfl | exact wanted_some (b := false) (c := false) rfl rfl rfl) (by intro w9 hS9; (try dsimp only at hS9); go_simp <;> with_reducible rfl) ?_)); (try simp only [Act.put, List.getElem_toArray, List.getElem_cons_succ, List.getElem_cons_zero, List.setIfInBounds_toArray, List.set_cons_zero, List.set_cons_succ]))
      refine lexP_nil (panQ_normal ?_)
      go_wp2_with fail
      go_ret
      exact ⟨ret_bool (by rw [HM.out]), (Below.refl _ w).drew⟩
    · have k2 : decide (ct < 1073741824) = false := decide_eq_false h2
      have HM : Hid (again now tmo ⟨sq, tm, ct, false, pp⟩ = false) := by show _ = _; unfold again; dsimp only; rw [k1, k2]; rfl
      clear h1 h2
      go_enter Try.func77, Try.ntmps77
      go_upto_region 1 with fail
      refine wp_region_lexP [(0, 1), (1, 1), (2, 1), (3, 1), (4, 1), (5, 1), (6, 1), (7, 1), (12, 1), (8, 1), (13, 1), (9, 1), (14, 1), (10, 1), (15, 1), (11, 1), (16, 1), (17, 1), (18, 1), (19, 1), (20, 1), (21, 1), (22, 1), (23, 1), (24, 1), (25, 1)] [] (fun w9 => w9.cell? ⟨g, x + 1, none⟩ = some (.int .i64 tm) ∧ w9.cell? ⟨g, x + 2, none⟩ = some (.int .i64 ct) ∧ w9.cell? ⟨g, x + 3, none⟩ = some (.bool false) ∧ w9.cell? ⟨p3, 0, none⟩ = some (.int .i64 now) ∧ w9.cell? ⟨p1, 0, none⟩ = some (.pointer (some ⟨B, 0, none⟩)) ∧ w9.cell? ⟨B, 2, none⟩ = some (.int .i64 tmo)) (by kernel_rfl) (by kernel_rfl) (by kernel_rfl) (by kernel_rfl) (by kernel_rfl) ⟨d1, d2, d3, e3, e1, hB⟩ ?_
      repeat ((first | (refine lexP_read rfl (by rfl) (by first | exact wanted_none rfl | exact wanted_some (b := true) (c := true) rfl rfl rfl | exact wanted_some (b := false) (c := false) rfl rfl rfl) (by intro w9 hS9; (try dsimp only at hS9); go_simp <;> with_reducible rfl) ?_) | (refine lexP_skip rfl (fun _ => trivial) (by first | exact wanted_some (b := true) (c := false) rfl rfl rfl | exact wanted_some (b := false) (c := true) rfl rfl rfl) ?_) | (refine lexP_builtin rfl (fun _ => trivial) (by first | exact wanted_none rfl | exact wanted_some (b := true) (c := true) rfl rfl rfl | exact wanted_some (b := false) (c := false) rfl rfl rfl) (by intro w9 hS9; (try dsimp only at hS9); go_simp <;> with_reducible rfl) ?_)); (try simp only [Act.put, List.getElem_toArray, List.getElem_cons_succ, List.getElem_cons_zero, List.setIfInBounds_toArray, List.set_cons_zero, List.set_cons_succ]))
      refine lexP_nil (panQ_normal ?_)
      go_wp2_with fail
      go_ret
      exact ⟨ret_bool (by rw [HM.out]), (Below.refl _ w).drew⟩
def roomB (m : Sm) : Bool := decide (0 < m.q.length) && decide ((m.out.length : Int) < min m.lim m.cred) && decide (m.next < 1073741824)
set_option maxRecDepth 100000 in
set_option maxHeartbeats 2000000 in
set_option linter.unusedSimpArgs false in
theorem room_any (lim next cred mn : Int) (no nq : Nat) (Ao Aq : Option Addr) (co cq p1 B : Nat) (w : World) (hmn : mn = min lim cred)
    (hc1 : Blk w p1 96 #[.pointer (some ⟨B, 0, none⟩)]) (d1 : w.cell? ⟨B, 1, none⟩ = some (.int .i64 lim)) (d4 : w.cell? ⟨B, 4, none⟩ = some (.int .i64 next)) (d5 : w.cell? ⟨B, 5, none⟩ = some (.int .i64 cred)) (d6 : w.cell? ⟨B, 6, none⟩ = some (.slice Ao no co)) (d7 : w.cell? ⟨B, 7, none⟩ = some (.slice Aq nq cq)) :
    Calls Try.prog 78 #[.pointer (some ⟨p1, 0, none⟩)] w fun e w' => e = .returned (.bool (decide (0 < nq) && decide ((no : Int) < mn) && decide (next < 1073741824))) ∧ Below w.heap.size w w' := by
  have e1 : w.cell? ⟨p1, 0, none⟩ = some (.pointer (some ⟨B, 0, none⟩)) := hc1.cell 0
  have l1 := hc1.lt
  clear hc1
  have hmin := min_run _ _ _ hmn
  clear hmn
  by_cases h0 : 0 < nq
  rotate_left 1
  · have k0 : decide ((0 : Int) < (nq : Int)) = false := decide_eq_false (by omega)
    have k0b : (0 < nq) = False := eq_false h0
    have HM : Hid (decide (0 < nq) = false) := decide_eq_false h0
    clear h0
    go_enter Try.func78, Try.ntmps78
    go_upto_region 1 with fail
    refine wp_region_lexP [(0, 1), (1, 1), (2, 1), (3, 1), (4, 1), (5, 1), (6, 1), (7, 1), (12, 1), (16, 1), (8, 1), (13, 1), (17, 1), (9, 1), (14, 1), (18, 1), (10, 1), (15, 1), (19, 1), (11, 1), (20, 1), (21, 1), (22, 1), (23, 1), (24, 1), (25, 1), (26, 1), (27, 1), (28, 1), (29, 1), (30, 1)] [] (fun w9 => w9.cell? ⟨p1, 0, none⟩ = some (.pointer (some ⟨B, 0, none⟩)) ∧ w9.cell? ⟨B, 1, none⟩ = some (.int .i64 lim) ∧ w9.cell? ⟨B, 4, none⟩ = some (.int .i64 next) ∧ w9.cell? ⟨B, 5, none⟩ = some (.int .i64 cred) ∧ w9.cell? ⟨B, 6, none⟩ = some (.slice Ao no co) ∧ w9.cell? ⟨B, 7, none⟩ = some (.slice Aq nq cq)) (by kernel_rfl) (by kernel_rfl) (by kernel_rfl) (by kernel_rfl) (by kernel_rfl) ⟨e1, d1, d4, d5, d6, d7⟩ ?_
    repeat ((first | (refine lexP_read rfl (by rfl) (by first | exact wanted_none rfl | exact wanted_some (b := true) (c := true) rfl rfl rfl | exact wanted_some (b := false) (c := false) rfl rfl rfl) (by intro w9 hS9; (try dsimp only at hS9); go_simp <;> with_reducible rfl) ?_) | (refine lexP_skip rfl (fun _ => trivial) (by first | exact wanted_some (b := true) (c := false) rfl rfl rfl | exact wanted_some (b := false) (c := true) rfl rfl rfl) ?_) | (refine lexP_builtin rfl (fun _ => trivial) (by first | exact wanted_none rfl | exact wanted_some (b := true) (c := true) rfl rfl rfl | exact wanted_some (b := false) (c := false) rfl rfl rfl) (by intro w9 hS9; (try dsimp only at hS9); go_simp <;> with_reducible rfl) ?_)); (try simp only [Act.put, List.getElem_toArray, List.getElem_cons_succ, List.getElem_cons_zero, List.setIfInBounds_toArray, List.set_cons_zero, List.set_cons_succ]))
    refine lexP_nil (panQ_normal ?_)
    go_wp2_with fail
    go_ret
    exact ⟨ret_bool (by rw [HM.out]; rfl), (Below.refl _ w).drew⟩
  have k0 : decide ((0 : Int) < (nq : Int)) = true := decide_eq_true (by omega)
  have k0b : (0 < nq) = True := eq_true h0
  have HM : Hid (decide (0 < nq) = true) := decide_eq_true h0
  by_cases h1 : (no : Int) < mn
  rotate_left 1
  · have k1 : decide ((no : Int) < mn) = false := decide_eq_false h1
    have HM1 := Lib.hid k1
    clear h1 h0
    go_enter Try.func78, Try.ntmps78
    go_upto_region 1 with fail
    refine wp_region_lexP [(0, 1), (1, 1), (2, 1), (3, 1), (4, 1), (5, 1), (6, 1), (7, 1), (12, 1), (16, 1), (8, 1), (13, 1), (17, 1), (9, 1), (14, 1), (18, 1), (10, 1), (15, 1), (19, 1), (11, 1), (20, 1), (21, 1), (22, 1), (23, 1), (24, 1), (25, 1), (26, 1), (27, 1), (28, 1), (29, 1), (30, 1)] [] (fun w9 => w9.cell? ⟨p1, 0, none⟩ = some (.pointer (some ⟨B, 0, none⟩)) ∧ w9.cell? ⟨B, 1, none⟩ = some (.int .i64 lim) ∧ w9.cell? ⟨B, 4, none⟩ = some (.int .i64 next) ∧ w9.cell? ⟨B, 5, none⟩ = some (.int .i64 cred) ∧ w9.cell? ⟨B, 6, none⟩ = some (.slice Ao no co) ∧ w9.cell? ⟨B, 7, none⟩ = some (.slice Aq nq cq)) (by kernel_rfl) (by kernel_rfl) (by kernel_rfl) (by kernel_rfl) (by kernel_rfl) ⟨e1, d1, d4, d5, d6, d7⟩ ?_
    repeat ((first | (refine lexP_read rfl (by rfl) (by first | exact wanted_none rfl | exact wanted_some (b := true) (c := true) rfl rfl rfl | exact wanted_some (b := false) (c := false) rfl rfl rfl) (by intro w9 hS9; (try dsimp only at hS9); go_simp <;> with_reducible rfl) ?_) | (refine lexP_skip rfl (fun _ => trivial) (by first | exact wanted_some (b := true) (c := false) rfl rfl rfl | exact wanted_some (b := false) (c := true) rfl rfl rfl) ?_) | (refine lexP_builtin rfl (fun _ => trivial) (by first | exact wanted_none rfl | exact wanted_some (b := true) (c := true) rfl rfl rfl | exact wanted_some (b := false) (c := false) rfl rfl rfl) (by intro w9 hS9; (try dsimp only at hS9); go_simp <;> with_reducible rfl) ?_)); (try simp only [Act.put, List.getElem_toArray, List.getElem_cons_succ, List.getElem_cons_zero, List.setIfInBounds_toArray, List.set_cons_zero, List.set_cons_succ]))
    refine lexP_nil (panQ_normal ?_)
    go_wp2_with fail
    go_ret
    exact ⟨ret_bool (by rw [HM.out, HM1.out]; rfl), (Below.refl _ w).drew⟩
  have k1 : decide ((no : Int) < mn) = true := decide_eq_true h1
  have HM1 := Lib.hid k1
  by_cases h2 : next < 1073741824
  rotate_left 1
  · have k2 : decide (next < 1073741824) = false := decide_eq_false h2
    have HM2 := Lib.hid k2
    clear h1 h0 h2
    go_enter Try.func78, Try.ntmps78
    go_upto_region 1 with fail
    refine wp_region_lexP [(0, 1), (1, 1), (2, 1), (3, 1), (4, 1), (5, 1), (6, 1), (7, 1), (12, 1), (16, 1), (8, 1), (13, 1), (17, 1), (9, 1), (14, 1), (18, 1), (10, 1), (15, 1), (19, 1), (11, 1), (20, 1), (21, 1), (22, 1), (23, 1), (24, 1), (25, 1), (26, 1), (27, 1), (28, 1), (29, 1), (30, 1)] [] (fun w9 => w9.cell? ⟨p1, 0, none⟩ = some (.pointer (some ⟨B, 0, none⟩)) ∧ w9.cell? ⟨B, 1, none⟩ = some (.int .i64 lim) ∧ w9.cell? ⟨B, 4, none⟩ = some (.int .i64 next) ∧ w9.cell? ⟨B, 5, none⟩ = some (.int .i64 cred) ∧ w9.cell? ⟨B, 6, none⟩ = some (.slice Ao no co) ∧ w9.cell? ⟨B, 7, none⟩ = some (.slice Aq nq cq)) (by kernel_rfl) (by kernel_rfl) (by kernel_rfl) (by kernel_rfl) (by kernel_rfl) ⟨e1, d1, d4, d5, d6, d7⟩ ?_
    repeat ((first | (refine lexP_read rfl (by rfl) (by first | exact wanted_none rfl | exact wanted_some (b := true) (c := true) rfl rfl rfl | exact wanted_some (b := false) (c := false) rfl rfl rfl) (by intro w9 hS9; (try dsimp only at hS9); go_simp <;> with_reducible rfl) ?_) | (refine lexP_skip rfl (fun _ => trivial) (by first | exact wanted_some (b := true) (c := false) rfl rfl rfl | exact wanted_some (b := false) (c := true) rfl rfl rfl) ?_) | (refine lexP_builtin rfl (fun _ => trivial) (by first | exact wanted_none rfl | exact wanted_some (b := true) (c := true) rfl rfl rfl | exact wanted_some (b := false) (c := false) rfl rfl rfl) (by intro w9 hS9; (try dsimp only at hS9); go_simp <;> with_reducible rfl) ?_)); (try simp only [Act.put, List.getElem_toArray, List.getElem_cons_succ, List.getElem_cons_zero, List.setIfInBounds_toArray, List.set_cons_zero, List.set_cons_succ]))
    refine lexP_nil (panQ_normal ?_)
    go_wp2_with fail
    go_ret
    exact ⟨ret_bool (by rw [HM.out, HM1.out, HM2.out]; rfl), (Below.refl _ w).drew⟩
  have k2 : decide (next < 1073741824) = true := decide_eq_true h2
  have HM2 := Lib.hid k2
  clear h1 h0 h2
  go_enter Try.func78, Try.ntmps78
  go_upto_region 1 with fail
  refine wp_region_lexP [(0, 1), (1, 1), (2, 1), (3, 1), (4, 1), (5, 1), (6, 1), (7, 1), (12, 1), (16, 1), (8, 1), (13, 1), (17, 1), (9, 1), (14, 1), (18, 1), (10, 1), (15, 1), (19, 1), (11, 1), (20, 1), (21, 1), (22, 1), (23, 1), (24, 1), (25, 1), (26, 1), (27, 1), (28, 1), (29, 1), (30, 1)] [] (fun w9 => w9.cell? ⟨p1, 0, none⟩ = some (.pointer (some ⟨B, 0, none⟩)) ∧ w9.cell? ⟨B, 1, none⟩ = some (.int .i64 lim) ∧ w9.cell? ⟨B, 4, none⟩ = some (.int .i64 next) ∧ w9.cell? ⟨B, 5, none⟩ = some (.int .i64 cred) ∧ w9.cell? ⟨B, 6, none⟩ = some (.slice Ao no co) ∧ w9.cell? ⟨B, 7, none⟩ = some (.slice Aq nq cq)) (by kernel_rfl) (by kernel_rfl) (by kernel_rfl) (by kernel_rfl) (by kernel_rfl) ⟨e1, d1, d4, d5, d6, d7⟩ ?_
  repeat ((first | (refine lexP_read rfl (by rfl) (by first | exact wanted_none rfl | exact wanted_some (b := true) (c := true) rfl rfl rfl | exact wanted_some (b := false) (c := false) rfl rfl rfl) (by intro w9 hS9; (try dsimp only at hS9); go_simp <;> with_reducible rfl) ?_) | (refine lexP_skip rfl (fun _ => trivial) (by first | exact wanted_some (b := true) (c := false) rfl rfl rfl | exact wanted_some (b := false) (c := true) rfl rfl rfl) ?_) | (refine lexP_builtin rfl (fun _ => trivial) (by first | exact wanted_none rfl | exact wanted_some (b := true) (c := true) rfl rfl rfl | exact wanted_some (b := false) (c := false) rfl rfl rfl) (by intro w9 hS9; (try dsimp only at hS9); go_simp <;> with_reducible rfl) ?_)); (try simp only [Act.put, List.getElem_toArray, List.getElem_cons_succ, List.getElem_cons_zero, List.setIfInBounds_toArray, List.set_cons_zero, List.set_cons_succ]))
  refine lexP_nil (panQ_normal ?_)
  go_wp2_with fail
  go_ret
  exact ⟨ret_bool (by rw [HM.out, HM1.out, HM2.out]; rfl), (Below.refl _ w).drew⟩
/-- what due leaves: its boxes -/
structure DueE (w : World) (B : Nat) (now : Int) (e : Ending) (w' : World) : Prop where
  ret : ∃ p1 p2 p3 p4, e = .returned (.func (.func 79) #[] #[.pointer (some ⟨p1, 0, none⟩), .pointer (some ⟨p2, 0, none⟩), .pointer (some ⟨p3, 0, none⟩), .pointer (some ⟨p4, 0, none⟩)]) ∧
    Blk w' p1 96 #[.pointer (some ⟨B, 0, none⟩)] ∧ Blk w' p2 115 #[.func (.func 77) #[] #[.pointer (some ⟨p3, 0, none⟩), .pointer (some ⟨p1, 0, none⟩)]] ∧ Blk w' p3 3 #[.int .i64 now] ∧ Blk w' p4 40 #[.func (.func 78) #[] #[.pointer (some ⟨p1, 0, none⟩)]]
  bel : Below w.heap.size w w'
set_option maxRecDepth 100000 in
set_option maxHeartbeats 2000000 in
set_option linter.unusedSimpArgs false in
theorem due_any (now : Int) (B : Nat) (w : World) : Calls Try.prog 55 #[.pointer (some ⟨B, 0, none⟩), .int .i64 now] w (DueE w B now) := by
  go_enter Try.func55, Try.ntmps55
  go_wp2_with fail
  go_ret
  have h1 := ((Blk.new w 96 #[.pointer (some ⟨B, 0, none⟩)]).alloc (.cells #[.int .i64 now] 3)).alloc (.cells #[.func (.func 77) #[] #[.pointer (some ⟨w.heap.size + 1, 0, none⟩), .pointer (some ⟨w.heap.size, 0, none⟩)]] 115)
  have h2 := (Blk.new (w.alloc (.cells #[.pointer (some ⟨B, 0, none⟩)] 96)) 3 #[.int .i64 now]).alloc (.cells #[.func (.func 77) #[] #[.pointer (some ⟨w.heap.size + 1, 0, none⟩), .pointer (some ⟨w.heap.size, 0, none⟩)]] 115)
  have h3 := Blk.new ((w.alloc (.cells #[.pointer (some ⟨B, 0, none⟩)] 96)).alloc (.cells #[.int .i64 now] 3)) 115 #[.func (.func 77) #[] #[.pointer (some ⟨w.heap.size + 1, 0, none⟩), .pointer (some ⟨w.heap.size, 0, none⟩)]]
  have h4 := Blk.new (((w.alloc (.cells #[.pointer (some ⟨B, 0, none⟩)] 96)).alloc (.cells #[.int .i64 now] 3)).alloc (.cells #[.func (.func 77) #[] #[.pointer (some ⟨w.heap.size + 1, 0, none⟩), .pointer (some ⟨w.heap.size, 0, none⟩)]] 115)) 40 #[.func (.func 78) #[] #[.pointer (some ⟨w.heap.size, 0, none⟩)]]
  simp only [World.size_alloc] at h2 h3 h4
  exact ⟨⟨_, _, _, _, rfl, h1.alloc _, h3.alloc _, h2.alloc _, h4⟩, ((((Below.refl _ w).alloc (Nat.le_refl _) _).alloc (by simp) _).alloc (by simp; omega) _).alloc (by simp; omega) _⟩
end Go.Proofs.Ytanmndhdhlmjgaa

/- Plain laws for Poll. No condition. -/
namespace Go.Proofs.Ytanmndhdhlmjgaa
open Go.RowKit
def againE (now tmo : Int) (e : Oe) : Oe := if again now tmo e.om then { e with time := now, cnt := e.cnt + 1 } else e
theorem againE_om (now tmo : Int) (e : Oe) : (againE now tmo e).om = againO now tmo e.om := by
  unfold againE againO
  split <;> rfl
def pushM (now : Int) (m : Sm) (p : List Nat) (q : List (List Nat)) : Sm := { m with q := q, out := m.out ++ [⟨m.next, now, 1, false, p⟩], next := m.next + 1 }
theorem fill_stop {now : Int} {m : Sm} (h : roomB m = false) : ∀ k, fillS now m k = (m, [])
  | 0 => rfl
  | k + 1 => by
    rw [fillS]
    split
    · rfl
    · rename_i p q hq
      rw [if_neg]
      intro hc
      unfold roomB at h
      rw [hq, decide_eq_true (by simp), decide_eq_true hc.1, decide_eq_true hc.2] at h
      simp at h
theorem fill_step {now : Int} {m : Sm} {p : List Nat} {q : List (List Nat)} (h : roomB m = true) (hq : m.q = p :: q) (k : Nat) :
    fillS now m (k + 1) = ((fillS now (pushM now m p q) k).1, dataP m.ses ⟨m.next, now, 1, false, p⟩ :: (fillS now (pushM now m p q) k).2) := by
  rw [fillS]
  split
  · rename_i h0
    rw [hq] at h0
    cases h0
  · rename_i p2 q2 hq2
    rw [hq] at hq2
    injection hq2 with h1 h2
    subst h1 h2
    unfold roomB at h
    simp only [Bool.and_eq_true, decide_eq_true_eq] at h
    rw [if_pos ⟨h.1.2, h.2⟩]
    rfl
/-- what stays true of the sender while new payloads leave its queue -/
structure DMo (s m : Sm) : Prop where
  ses : m.ses = s.ses
  lim : m.lim = s.lim
  tmo : m.tmo = s.tmo
  base : m.base = s.base
  cred : m.cred = s.cred
  outl : m.out.length ≤ 64
  nx : 0 ≤ m.next ∧ m.next ≤ 1073741824
  ps : ∀ o ∈ m.out, o.p.length ≤ 4096
  qs : ∀ p ∈ m.q, p.length ≤ 4096
  ql : m.q.length ≤ 4096
theorem DMo.step {s m : Sm} {now : Int} {p : List Nat} {q : List (List Nat)} (h : DMo s m) (hs : SRng s) (hr : roomB m = true) (hq : m.q = p :: q) : DMo s (pushM now m p q) := by
  unfold roomB at hr
  simp only [Bool.and_eq_true, decide_eq_true_eq] at hr
  have h1 := hr.1.2
  have h2 := hr.2
  have h3 := hs.lim
  have h4 := h.lim
  have h5 : (m.out.length : Int) < m.lim := by omega
  refine ⟨h.ses, h.lim, h.tmo, h.base, h.cred, ?_, ?_, ?_, ?_, ?_⟩
  · simp only [pushM, List.length_append, List.length_singleton]; omega
  · have := h.nx; simp only [pushM]; omega
  · intro o ho
    simp only [pushM, List.mem_append, List.mem_singleton] at ho
    rcases ho with ho | rfl
    · exact h.ps o ho
    · exact h.qs p (by rw [hq]; simp)
  · intro x hx
    exact h.qs x (by rw [hq]; exact List.mem_cons_of_mem _ hx)
  · have := h.ql; rw [hq] at this; simp only [pushM]; simp at this; omega
theorem DMo.start {s : Sm} {now : Int} (hs : SRng s) : DMo s { s with out := s.out.map (againO now s.tmo) } := by
  refine ⟨rfl, rfl, rfl, rfl, rfl, ?_, hs.next, ?_, hs.qs, hs.q⟩
  · have := hs.out; have := hs.lim; simp only [List.length_map]; omega
  · intro o ho
    obtain ⟨x, hx, rfl⟩ := List.mem_map.1 ho
    have h2 : x.p.length ≤ 4096 := outsE_pay s.base s.out 0 hs.outs x hx
    unfold againO
    split <;> exact h2
/-- the packets of a round of the loop over the outstanding payloads -/
theorem againP_true {ses now tmo : Int} {e : Oe} (h : again now tmo e.om = true) : againP ses now tmo e.om = [dataP ses (againE now tmo e).om] := by
  unfold againP
  rw [if_pos h, againE_om]
theorem againP_false {ses now tmo : Int} {e : Oe} (h : again now tmo e.om = false) : againP ses now tmo e.om = [] := by
  unfold againP
  rw [if_neg (by rw [h]; simp)]
theorem flat_succ {α β : Type} (f : α → List β) (l : List α) (k : Nat) (h : k < l.length) : (l.take (k + 1)).flatMap f = (l.take k).flatMap f ++ f l[k] := by
  rw [List.take_add_one, List.getElem?_eq_getElem h, List.flatMap_append]
  simp
theorem poll_eq {s : Sm} {now : Int} (h : chkS s = 0) (hn : 0 ≤ now ∧ now ≤ 1073741824) {m : Sm} {pre : List Pm}
    (hf : fillS now { s with out := s.out.map (againO now s.tmo) } s.q.length = (m, pre)) : pollS s now = (m, s.out.flatMap (againP s.ses now s.tmo) ++ pre ++ probeP m) := by
  unfold pollS
  rw [if_neg (by rw [h]; simp; omega)]
  simp only [hf]
end Go.Proofs.Ytanmndhdhlmjgaa

/- The state of due's iterator, and what keeps it. No condition. -/
namespace Go.Proofs.Ytanmndhdhlmjgaa
open Go.RowKit
theorem TurnW.base {b b' : Nat} {T : List TypeId} {A C : World} (h : TurnW b T A C) (hb : b' ≤ b) : TurnW b' T A C :=
  ⟨h.os, h.tape, h.output, h.size, fun k hk hs => h.low k (by omega) hs, h.block⟩
theorem oeR_abW {T : List TypeId} (h : 5 ∉ T) : AbidesW OeR T := fun _ _ _ _ hT hr => Byt.turnW hr hT h
theorem qeR_abW {T : List TypeId} (h : 5 ∉ T) : AbidesW QeR T := fun _ _ _ _ hT hr => Byt.turnW hr hT h
theorem xeR_abW {T : List TypeId} : AbidesW XeR T := fun _ _ _ _ _ _ => trivial
theorem keR_abW {T : List TypeId} (h : 5 ∉ T) (h' : 87 ∉ T) : AbidesW KeR T := fun _ _ _ _ hT hr => ⟨hr.1.turnW hT h' xeR_abW, hr.2.turnW hT h⟩
def Z8A : Array Value := #[.int .i64 0, .int .i64 0, .int .i64 0, .int .i64 0, .int .i64 0, .int .i64 0, .slice none 0 0, .slice none 0 0]
/-- the iterator's boxes, the sender's box and rows, and a box of the caller's -/
structure DueI (B RB p1 p2 p3 p4 base bs : Nat) (now : Int) (m : Sm) (vo vq : Value) (es : List Oe) (qs : List Qe) (W : World) : Prop where
  c1 : Blk W p1 96 #[.pointer (some ⟨B, 0, none⟩)]
  c2 : Blk W p2 115 #[.func (.func 77) #[] #[.pointer (some ⟨p3, 0, none⟩), .pointer (some ⟨p1, 0, none⟩)]]
  c3 : Blk W p3 3 #[.int .i64 now]
  c4 : Blk W p4 40 #[.func (.func 78) #[] #[.pointer (some ⟨p1, 0, none⟩)]]
  rb : Blk W RB 25 Z8A
  blk : Blk W B 25 (snC m vo vq)
  own : Own1 encO OeR 82 5 W base bs vo es
  om : es.map Oe.om = m.out
  vec : Vec encQ QeR 42 1 W base vq qs
  qm : qs.map Qe.p = m.q
  fr : ∀ g, vq.ownBlock = some g → bs ≤ g
section
variable {B RB p1 p2 p3 p4 base bs : Nat} {now : Int} {m : Sm} {vo vq : Value} {es : List Oe} {qs : List Qe} {W W' : World}
theorem DueI.below (h : DueI B RB p1 p2 p3 p4 base bs now m vo vq es qs W) (hb : Below W.heap.size W W') : DueI B RB p1 p2 p3 p4 base bs now m vo vq es qs W' :=
  ⟨h.c1.below hb h.c1.lt, h.c2.below hb h.c2.lt, h.c3.below hb h.c3.lt, h.c4.below hb h.c4.lt, h.rb.below hb h.rb.lt, h.blk.below hb h.blk.lt, h.own.up hb (oeR_ab (by simp)), h.om, h.vec.up hb (qeR_ab (by simp)), h.qm, h.fr⟩
theorem DueI.turnW (h : DueI B RB p1 p2 p3 p4 base bs now m vo vq es qs W) (hT : TurnW bs [48, 55] W W') (hbs : base ≤ bs) : DueI B RB p1 p2 p3 p4 base bs now m vo vq es qs W' :=
  ⟨h.c1.turnW hT (by simp), h.c2.turnW hT (by simp), h.c3.turnW hT (by simp), h.c4.turnW hT (by simp), h.rb.turnW hT (by simp), h.blk.turnW hT (by simp), h.own.turnW (hT.base hbs) (by simp) (oeR_abW (by simp)), h.om, h.vec.turnW (hT.base hbs) (by simp) (qeR_abW (by simp)), h.qm, h.fr⟩
/-- a store into a cell of the sender's box -/
theorem DueI.cell (h : DueI B RB p1 p2 p3 p4 base bs now m vo vq es qs W) (hbs : base ≤ bs) (hB : bs ≤ B) (hne : B ≠ RB) (k : Nat) (u : Value) (m' : Sm) (vq' : Value) (qs' : List Qe) (hc : (snC m vo vq).setIfInBounds k u = snC m' vo vq') (ho : m'.out = m.out)
    (hv : Vec encQ QeR 42 1 W base vq' qs') (hq : qs'.map Qe.p = m'.q) (hf : ∀ g, vq'.ownBlock = some g → bs ≤ g) : DueI B RB p1 p2 p3 p4 base bs now m' vo vq' es qs' (W.setCell ⟨B, k, none⟩ u) ∧ Turn bs [25] W (W.setCell ⟨B, k, none⟩ u) := by
  have hT : Turn bs [25] W (W.setCell ⟨B, k, none⟩ u) := (Turn.refl bs [25] W).set h.blk (by simp) hB k u
  have hTb := hT.base hbs
  have hk := h.blk.set_ k u
  rw [hc] at hk
  exact ⟨⟨h.c1.turn hT (by simp), h.c2.turn hT (by simp), h.c3.turn hT (by simp), h.c4.turn hT (by simp), h.rb.far (p := ⟨B, k, none⟩) (fun e => hne e.symm) u, hk, h.own.turn hTb (by simp) (oeR_ab (by simp)), by rw [ho]; exact h.om, hv.turn hTb (by simp) (qeR_ab (by simp)), hq, hf⟩, hT⟩
/-- an outstanding payload is sent again -/
theorem DueI.elem {g n c : Nat} {k : Nat} (h : DueI B RB p1 p2 p3 p4 base bs now m (.slice (some ⟨g, 0, none⟩) n c) vq es qs W) (hbs : base ≤ bs) (hn : es.length = n) (hk : k < es.length) (hg : bs ≤ g) (b : Oe) (hb : b = { es[k] with time := now, cnt := es[k].cnt + 1 }) :
    DueI B RB p1 p2 p3 p4 base bs now { m with out := (es.set k b).map Oe.om } (.slice (some ⟨g, 0, none⟩) n c) vq (es.set k b) qs ((W.setCell ⟨g, k * 5 + 1, none⟩ (.int .i64 now)).setCell ⟨g, k * 5 + 2, none⟩ (.int .i64 (es[k].cnt + 1))) ∧
      Turn bs [82] W ((W.setCell ⟨g, k * 5 + 1, none⟩ (.int .i64 now)).setCell ⟨g, k * 5 + 2, none⟩ (.int .i64 (es[k].cnt + 1))) := by
  subst hn
  have hr := h.own.el _ (List.getElem_mem hk)
  obtain ⟨s1, t1⟩ := Own1.set (base := base) h.own hbs (oeR_ab (by simp)) encO_len hk (j := 1) (by omega) { es[k] with time := now } (.int .i64 now) rfl hr
  have hk1 : k < (es.set k { es[k] with time := now }).length := by rw [List.length_set]; exact hk
  have he1 : (es.set k { es[k] with time := now })[k] = { es[k] with time := now } := by simp
  have hl1 : (es.set k { es[k] with time := now }).length = es.length := List.length_set
  obtain ⟨s2, t2⟩ := Own1.set (base := base) (by rw [← hl1] at s1; exact s1) hbs (oeR_ab (by simp)) encO_len hk1 (j := 2) (by omega) b (.int .i64 (es[k].cnt + 1)) (by rw [he1, hb]; rfl) (by rw [hb]; exact oeR_ab (T := [82]) (by simp) _ _ _ _ t1 hr)
  rw [hl1, List.set_set] at s2
  obtain ⟨cur, hcur⟩ : ∃ cur, Blk W g 82 cur := by
    obtain ⟨g2, c2, cur, hv, _, hbl, _⟩ := h.own.form encO_len (by omega)
    injection hv with hA
    injection hA with hA
    injection hA with hA
    subst hA
    exact ⟨cur, hbl⟩
  have hT : Turn bs [82] W ((W.setCell ⟨g, k * 5 + 1, none⟩ (.int .i64 now)).setCell ⟨g, k * 5 + 2, none⟩ (.int .i64 (es[k].cnt + 1))) :=
    ((Turn.refl bs [82] W).set hcur (by simp) hg (k * 5 + 1) _).set (hcur.set_ (k * 5 + 1) _) (by simp) hg (k * 5 + 2) _
  have hTb := hT.base hbs
  exact ⟨⟨h.c1.turn hT (by simp), h.c2.turn hT (by simp), h.c3.turn hT (by simp), h.c4.turn hT (by simp), h.rb.turn hT (by simp), h.blk.turn hT (by simp), s2, rfl, h.vec.turn hTb (by simp) (qeR_ab (by simp)), h.qm, h.fr⟩, hT⟩
/-- an outstanding payload is appended, and its row stored -/
theorem DueI.push {b : Oe} {v' : Value} (h : DueI B RB p1 p2 p3 p4 base bs now m vo vq es qs W) (hbs : base ≤ bs) (hB : bs ≤ B) (hne : B ≠ RB) (hp : Pushed encO OeR 82 5 base bs es b W v' W') :
    DueI B RB p1 p2 p3 p4 base bs now { m with out := m.out ++ [b.om] } v' vq (es ++ [b]) qs (W'.setCell ⟨B, 6, none⟩ v') ∧ Turn bs [25, 82] W (W'.setCell ⟨B, 6, none⟩ v') := by
  have hT1 := hp.turn
  have hk1 := h.blk.turn hT1 (by simp)
  have hT2 : Turn bs [25] W' (W'.setCell ⟨B, 6, none⟩ v') := (Turn.refl bs [25] W').set hk1 (by simp) hB 6 v'
  have hT : Turn bs [25, 82] W (W'.setCell ⟨B, 6, none⟩ v') := (hT1.mono (by simp)).trans (hT2.mono (by simp))
  have hTb := hT.base hbs
  exact ⟨⟨h.c1.turn hT (by simp), h.c2.turn hT (by simp), h.c3.turn hT (by simp), h.c4.turn hT (by simp), (h.rb.turn hT1 (by simp)).far (p := ⟨B, 6, none⟩) (fun e => hne e.symm) v', hk1.set_ 6 v', hp.own.turn (hT2.base hbs) (by simp) (oeR_ab (by simp)), by rw [List.map_append, h.om]; rfl, h.vec.turn hTb (by simp) (qeR_ab (by simp)), h.qm, h.fr⟩, hT⟩
end
/-- a packet's value, as an element -/
theorem pkV_ke {W : World} {base : Nat} {p : Pm} {pv : Value} (h : PkV W base p pv) : ∃ e : Ke, pv = .agg (encK e).toArray ∧ KeR W base e ∧ e.pm = p := by
  obtain ⟨vs, vp, rfl, hX, A, c, rfl, hB⟩ := h
  exact ⟨{ kind := p.kind, ses := p.ses, seq := p.seq, ack := p.ack, cred := p.cred, vs := vs, sel := p.sel, A := A, c := c, p := p.p }, rfl, ⟨hX, hB⟩, rfl⟩
/-- what an append of one element leaves, and that no other block has changed -/
structure PushedG {α : Type} (E : α → List Value) (R : World → Nat → α → Prop) (t : TypeId) (sz : Nat) (base low : Nat) (l : List α) (b : α) (w : World) (v v' : Value) (w' : World) : Prop where
  p : Pushed E R t sz base low l b w v' w'
  g : w.grownBy w' v.ownBlock
section
variable {α : Type} {E : α → List Value} {R : World → Nat → α → Prop} {t : TypeId} {sz : Nat} {base low : Nat} {l : List α} {b : α} {w : World} {v : Value} {P : Program}
theorem run_pushG (st ty : TypeId) (z : Value) (bytes : Nat) (ht : P.underlying st = some (.slice t)) (hinf : (P.info? t).map (fun i => (i.zero, i.size, i.bytes)) = some (some z, sz, bytes)) (hzs : z.cells.size = sz) (hsz : 0 < sz) (hE1 : ∀ u ∈ E b, u.oneCell' = true) (hEl : (E b).length = sz)
    (h : Own1 E R t sz w base low v l) (hl : base ≤ low) (hR : Abides R [t]) (hrb : R w base b) {g c : Nat} (hg : Blk w g t (E b).toArray) (hn : l.length ≤ 1000000) (hby : bytes ≤ 100) (hlow : low ≤ w.heap.size) :
    ∃ v' w', (Builtin.append_ #[st, st] ty #[v, .slice (some ⟨g, 0, none⟩) 1 c]).run P w = .ok v' w' ∧ PushedG E R t sz base low l b w v v' w' := by
  obtain ⟨i0, hi0, hz0, hz1, hz2⟩ := info_parts hinf
  obtain ⟨v', w', hrun, ho, hgr, _⟩ := run_append_any (P := P) w low st ty t i0 z sz bytes ht hi0 hz0 hz1 hz2 hzs hsz v l.length (l.flatMap E) h.own w.heap.size (some ⟨g, 0, none⟩) 1 c (E b) (by have h9 := hg.reads (size := sz) (n := 1) (by simpa using hEl); simpa using h9) hE1 (by simp only [maxLen]; omega)
    (Nat.le_trans (Nat.mul_le_mul (show l.length + 1 ≤ 1000001 by omega) hby) (by omega)) hlow
  exact ⟨v', w', hrun, ⟨Own1.push h hl ho hgr hR hrb, (Turn.refl low [t] w).grown h.own hgr (by simp) (Nat.le_refl _)⟩, hgr⟩
theorem lexP_pushG {F : Fence} {n : Nat} {ops : Array Oper} {Q : Exit → Act → World → Prop} {S : World → Prop} {Z : List Nat} {i : Nat} {is : List (Nat × Nat)} {o : Oper} {a : Act} (hi : ops[i]? = some o) (hF : ∀ f, F.fn f) (s x : Operand) (st : TypeId) (ho : o.op = .call { callee := .builtin .append, args := #[s, x], argTypes := #[st, st] }) (z : Value) (bytes : Nat) (ht : P.underlying st = some (.slice t)) (hinf : (P.info? t).map (fun i => (i.zero, i.size, i.bytes)) = some (some z, sz, bytes)) (hzs : z.cells.size = sz) (hsz : 0 < sz) (hE1 : ∀ u ∈ E b, u.oneCell' = true) (hEl : (E b).length = sz)
    (hs : a.eval s = v) (h : Own1 E R t sz w base low v l) (hl : base ≤ low) (hR : Abides R [t]) (hrb : R w base b) {g c : Nat} (hx : a.eval x = .slice (some ⟨g, 0, none⟩) 1 c) (hg : Blk w g t (E b).toArray) (hn : l.length ≤ 1000000) (hby : bytes ≤ 100) (hlow : low ≤ w.heap.size)
    (hK : ∀ v' w', PushedG E R t sz base low l b w v v' w' → (Z.contains i = true ∨ S w') ∧ lexP F n P ops Q S Z is (a.put o.dst v') w') : lexP F n P ops Q S Z ((i, 0) :: is) a w := by
  obtain ⟨v', w', hrun, hp⟩ := run_pushG (P := P) st o.type z bytes ht hinf hzs hsz hE1 hEl h hl hR hrb (c := c) hg hn hby hlow
  refine lexP_eff hi hF ?_
  simp only [execOp, ho, resolve, invoke, builtin, Sem.run_bind, Sem.run_pure, Result.andThen_ok, List.map_toArray, List.map_cons, List.map_nil, hs, hx, hrun]
  exact hK v' w' hp
end
end Go.Proofs.Ytanmndhdhlmjgaa
