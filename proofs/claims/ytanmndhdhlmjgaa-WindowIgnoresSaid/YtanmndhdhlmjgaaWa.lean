/- The walks of in, within, long, NewSender, NewReceiver and their references. No condition. -/
import Derived.Test.YtanmndhdhlmjgaaVa
import Derived.Deep.Cut
import Derived.Deep.CutRange
namespace Go.Proofs.Ytanmndhdhlmjgaa
open Go.RowKit
theorem in_any (x lo hi : Int) {b : Bool} (hb : decide (lo ≤ x ∧ x ≤ hi) = b) (w : World) : Calls Try.prog 45 #[.int .i64 x, .int .i64 lo, .int .i64 hi] w fun e w' => e = .returned (.bool b) ∧ w = w' := by
  subst hb
  by_cases h1 : lo ≤ x
  · by_cases h2 : x ≤ hi
    · go_enter Try.func45, Try.ntmps45
      go_wp2
      go_ret
      exact ⟨by simp [h1, h2], rfl⟩
    · go_enter Try.func45, Try.ntmps45
      go_wp2
      go_ret
      exact ⟨by simp [h2], rfl⟩
  · go_enter Try.func45, Try.ntmps45
    go_wp2
    go_ret
    exact ⟨by simp; omega, rfl⟩
theorem within_any (x lo hi : Int) {b : Bool} (hb : decide (lo ≤ x ∧ x ≤ hi) = b) (w : World) : Calls Try.prog 46 #[.int .i64 x, .int .i64 lo, .int .i64 hi] w fun e w' => e = .returned (.bool b) ∧ w = w' := by
  subst hb
  by_cases h1 : lo ≤ x
  · by_cases h2 : x ≤ hi
    · go_enter Try.func46, Try.ntmps46
      go_wp2
      go_ret
      exact ⟨by simp [h1, h2], rfl⟩
    · go_enter Try.func46, Try.ntmps46
      go_wp2
      go_ret
      exact ⟨by simp [h2], rfl⟩
  · go_enter Try.func46, Try.ntmps46
    go_wp2
    go_ret
    exact ⟨by simp; omega, rfl⟩
theorem long_any (A : Option Addr) (n c : Nat) {b : Bool} (hb : decide (4096 < n) = b) (w : World) : Calls Try.prog 50 #[.slice A n c] w fun e w' => e = .returned (.bool b) ∧ w = w' := by
  subst hb
  by_cases h1 : (4096 : Int) < n
  · go_enter Try.func50, Try.ntmps50
    go_wp2
    go_ret
    exact ⟨by simp; omega, rfl⟩
  · go_enter Try.func50, Try.ntmps50
    go_wp2
    go_ret
    exact ⟨by simp; omega, rfl⟩
/-- a sender and a number -/
structure SnR (w : World) (r : Sm × Nat) (e : Ending) (w' : World) : Prop where
  ret : ∃ v k, e = .returned (.tuple #[v, .int .i64 k]) ∧ (k : Int) = (r.2 : Nat) ∧ ∀ base, base ≤ w.heap.size → SnV w' base r.1 v
  bel : Below w.heap.size w w'
structure RcR (w : World) (r : Rm × Nat) (e : Ending) (w' : World) : Prop where
  ret : ∃ v k, e = .returned (.tuple #[v, .int .i64 k]) ∧ (k : Int) = (r.2 : Nat) ∧ ∀ base, base ≤ w.heap.size → RcV w' base r.1 v
  bel : Below w.heap.size w w'
theorem osV_nil (W : World) (base : Nat) : OsV W base [] (.slice none 0 0) := ⟨[], Vec.nil, rfl⟩
theorem qsV_nil (W : World) (base : Nat) : QsV W base [] (.slice none 0 0) := ⟨[], Vec.nil, rfl⟩
theorem asV_nil (W : World) (base : Nat) : AsV W base [] (.slice none 0 0) := ⟨[], Vec.nil, rfl⟩
theorem ksV_nil (W : World) (base : Nat) : KsV W base [] (.slice none 0 0) := ⟨[], Vec.nil, rfl⟩
theorem info25s : (Try.prog.info? 25).map (·.size) = some 8 := by kernel_rfl
theorem info33s : (Try.prog.info? 33).map (·.size) = some 4 := by kernel_rfl
set_option maxRecDepth 100000 in
set_option maxHeartbeats 1000000 in
set_option linter.unusedSimpArgs false in
theorem NewSender_any (ses lim tmo : Int) (w : World) : Calls Try.prog 11 #[.int .i64 ses, .int .i64 lim, .int .i64 tmo] w (SnR w (newS ses lim tmo)) := by
  have hk := Blk.new w 25 #[.int .i64 0, .int .i64 0, .int .i64 0, .int .i64 0, .int .i64 0, .int .i64 0, .slice none 0 0, .slice none 0 0]
  have hb : Below w.heap.size w (w.alloc (.cells #[.int .i64 0, .int .i64 0, .int .i64 0, .int .i64 0, .int .i64 0, .int .i64 0, .slice none 0 0, .slice none 0 0] 25)) := (Below.refl _ w).alloc (Nat.le_refl _) _
  have HB := Lib.hid (And.intro hk hb)
  clear hk hb
  by_cases h0 : 0 ≤ ses ∧ ses ≤ 1073741824
  rotate_left 1
  · have H0 := Lib.hid h0
    have HM : Hid ((newS ses lim tmo) = (⟨0, 0, 0, 0, 0, 0, [], []⟩, 2)) := by show _ = _; unfold newS; rw [if_neg (fun h => h0 (by first | exact h | exact h.1 | exact h.2 | exact h.2.1 | exact h.2.2))]
    clear h0
    go_enter Try.func11, Try.ntmps11
    go_wp2_with fail
    refine (in_any _ _ _ (decide_eq_false H0.out) _).mono ?_
    rintro e w1 ⟨rfl, rfl⟩
    go_wp2_with fail
    refine bodyPost_ret (v := .tuple #[.agg #[.int .i64 0, .int .i64 0, .int .i64 0, .int .i64 0, .int .i64 0, .int .i64 0, .slice none 0 0, .slice none 0 0], .int .i64 2]) (by simp [results, Try.results11, go_sem]) rfl ?_
    exact ⟨⟨_, 2, rfl, by rw [HM.out]; rfl, fun base _ => by rw [HM.out]; exact ⟨_, _, rfl, osV_nil _ _, qsV_nil _ _⟩⟩, (Below.refl _ w).alloc (Nat.le_refl _) _⟩
  have H0 := Lib.hid h0
  clear h0
  by_cases h1 : 1 ≤ lim ∧ lim ≤ 64
  rotate_left 1
  · have H1 := Lib.hid h1
    have HM : Hid ((newS ses lim tmo) = (⟨0, 0, 0, 0, 0, 0, [], []⟩, 2)) := by show _ = _; unfold newS; rw [if_neg (fun h => h1 (by first | exact h | exact h.1 | exact h.2 | exact h.2.1 | exact h.2.2))]
    clear h1
    go_enter Try.func11, Try.ntmps11
    go_wp2_with fail
    refine (in_any _ _ _ (decide_eq_true H0.out) _).mono ?_
    rintro e w1 ⟨rfl, rfl⟩
    go_wp2_with fail
    refine (in_any _ _ _ (decide_eq_false H1.out) _).mono ?_
    rintro e w1 ⟨rfl, rfl⟩
    go_wp2_with fail
    refine bodyPost_ret (v := .tuple #[.agg #[.int .i64 0, .int .i64 0, .int .i64 0, .int .i64 0, .int .i64 0, .int .i64 0, .slice none 0 0, .slice none 0 0], .int .i64 2]) (by simp [results, Try.results11, go_sem]) rfl ?_
    exact ⟨⟨_, 2, rfl, by rw [HM.out]; rfl, fun base _ => by rw [HM.out]; exact ⟨_, _, rfl, osV_nil _ _, qsV_nil _ _⟩⟩, (Below.refl _ w).alloc (Nat.le_refl _) _⟩
  have H1 := Lib.hid h1
  clear h1
  by_cases h2 : 1 ≤ tmo ∧ tmo ≤ 1073741824
  rotate_left 1
  · have H2 := Lib.hid h2
    have HM : Hid ((newS ses lim tmo) = (⟨0, 0, 0, 0, 0, 0, [], []⟩, 2)) := by show _ = _; unfold newS; rw [if_neg (fun h => h2 (by first | exact h | exact h.1 | exact h.2 | exact h.2.1 | exact h.2.2))]
    clear h2
    go_enter Try.func11, Try.ntmps11
    go_wp2_with fail
    refine (in_any _ _ _ (decide_eq_true H0.out) _).mono ?_
    rintro e w1 ⟨rfl, rfl⟩
    go_wp2_with fail
    refine (in_any _ _ _ (decide_eq_true H1.out) _).mono ?_
    rintro e w1 ⟨rfl, rfl⟩
    go_wp2_with fail
    refine (in_any _ _ _ (decide_eq_false H2.out) _).mono ?_
    rintro e w1 ⟨rfl, rfl⟩
    go_wp2_with fail
    refine bodyPost_ret (v := .tuple #[.agg #[.int .i64 0, .int .i64 0, .int .i64 0, .int .i64 0, .int .i64 0, .int .i64 0, .slice none 0 0, .slice none 0 0], .int .i64 2]) (by simp [results, Try.results11, go_sem]) rfl ?_
    exact ⟨⟨_, 2, rfl, by rw [HM.out]; rfl, fun base _ => by rw [HM.out]; exact ⟨_, _, rfl, osV_nil _ _, qsV_nil _ _⟩⟩, (Below.refl _ w).alloc (Nat.le_refl _) _⟩
  have H2 := Lib.hid h2
  clear h2
  have HM : Hid ((newS ses lim tmo) = (⟨ses, lim, tmo, 0, 0, lim, [], []⟩, 0)) := by show _ = _; unfold newS; rw [if_pos ⟨H0.out, H1.out, H2.out⟩]
  go_enter Try.func11, Try.ntmps11
  go_wp2_with fail
  refine (in_any _ _ _ (decide_eq_true H0.out) _).mono ?_
  rintro e w1 ⟨rfl, rfl⟩
  go_wp2_with fail
  refine (in_any _ _ _ (decide_eq_true H1.out) _).mono ?_
  rintro e w1 ⟨rfl, rfl⟩
  go_wp2_with fail
  refine (in_any _ _ _ (decide_eq_true H2.out) _).mono ?_
  rintro e w1 ⟨rfl, rfl⟩
  go_wp2_with fail
  refine bodyPost_ret (v := .tuple #[.agg #[.int .i64 ses, .int .i64 lim, .int .i64 tmo, .int .i64 0, .int .i64 0, .int .i64 lim, .slice none 0 0, .slice none 0 0], .int .i64 0]) (by simp [results, Try.results11, go_sem]) rfl ?_
  exact ⟨⟨_, 0, rfl, by rw [HM.out]; rfl, fun base _ => by rw [HM.out]; exact ⟨_, _, rfl, osV_nil _ _, qsV_nil _ _⟩⟩, (Below.refl _ w).alloc (Nat.le_refl _) _⟩
set_option maxRecDepth 100000 in
set_option maxHeartbeats 1000000 in
set_option linter.unusedSimpArgs false in
theorem refNewSender_any (ses lim tmo : Int) (w : World) : Calls Try.prog 12 #[.int .i64 ses, .int .i64 lim, .int .i64 tmo] w (SnR w (newS ses lim tmo)) := by
  have hk := Blk.new w 25 #[.int .i64 0, .int .i64 0, .int .i64 0, .int .i64 0, .int .i64 0, .int .i64 0, .slice none 0 0, .slice none 0 0]
  have hb : Below w.heap.size w (w.alloc (.cells #[.int .i64 0, .int .i64 0, .int .i64 0, .int .i64 0, .int .i64 0, .int .i64 0, .slice none 0 0, .slice none 0 0] 25)) := (Below.refl _ w).alloc (Nat.le_refl _) _
  have HB := Lib.hid (And.intro hk hb)
  clear hk hb
  by_cases h0 : 0 ≤ ses ∧ ses ≤ 1073741824
  rotate_left 1
  · have H0 := Lib.hid h0
    have HM : Hid ((newS ses lim tmo) = (⟨0, 0, 0, 0, 0, 0, [], []⟩, 2)) := by show _ = _; unfold newS; rw [if_neg (fun h => h0 (by first | exact h | exact h.1 | exact h.2 | exact h.2.1 | exact h.2.2))]
    clear h0
    go_enter Try.func12, Try.ntmps12
    go_wp2_with fail
    refine (within_any _ _ _ (decide_eq_false H0.out) _).mono ?_
    rintro e w1 ⟨rfl, rfl⟩
    go_wp2_with fail
    refine bodyPost_ret (v := .tuple #[.agg #[.int .i64 0, .int .i64 0, .int .i64 0, .int .i64 0, .int .i64 0, .int .i64 0, .slice none 0 0, .slice none 0 0], .int .i64 2]) (by simp [results, Try.results12, go_sem]) rfl ?_
    exact ⟨⟨_, 2, rfl, by rw [HM.out]; rfl, fun base _ => by rw [HM.out]; exact ⟨_, _, rfl, osV_nil _ _, qsV_nil _ _⟩⟩, (Below.refl _ w).alloc (Nat.le_refl _) _⟩
  have H0 := Lib.hid h0
  clear h0
  by_cases h1 : 1 ≤ lim ∧ lim ≤ 64
  rotate_left 1
  · have H1 := Lib.hid h1
    have HM : Hid ((newS ses lim tmo) = (⟨0, 0, 0, 0, 0, 0, [], []⟩, 2)) := by show _ = _; unfold newS; rw [if_neg (fun h => h1 (by first | exact h | exact h.1 | exact h.2 | exact h.2.1 | exact h.2.2))]
    clear h1
    go_enter Try.func12, Try.ntmps12
    go_wp2_with fail
    refine (within_any _ _ _ (decide_eq_true H0.out) _).mono ?_
    rintro e w1 ⟨rfl, rfl⟩
    go_wp2_with fail
    refine (within_any _ _ _ (decide_eq_false H1.out) _).mono ?_
    rintro e w1 ⟨rfl, rfl⟩
    go_wp2_with fail
    refine bodyPost_ret (v := .tuple #[.agg #[.int .i64 0, .int .i64 0, .int .i64 0, .int .i64 0, .int .i64 0, .int .i64 0, .slice none 0 0, .slice none 0 0], .int .i64 2]) (by simp [results, Try.results12, go_sem]) rfl ?_
    exact ⟨⟨_, 2, rfl, by rw [HM.out]; rfl, fun base _ => by rw [HM.out]; exact ⟨_, _, rfl, osV_nil _ _, qsV_nil _ _⟩⟩, (Below.refl _ w).alloc (Nat.le_refl _) _⟩
  have H1 := Lib.hid h1
  clear h1
  by_cases h2 : 1 ≤ tmo ∧ tmo ≤ 1073741824
  rotate_left 1
  · have H2 := Lib.hid h2
    have HM : Hid ((newS ses lim tmo) = (⟨0, 0, 0, 0, 0, 0, [], []⟩, 2)) := by show _ = _; unfold newS; rw [if_neg (fun h => h2 (by first | exact h | exact h.1 | exact h.2 | exact h.2.1 | exact h.2.2))]
    clear h2
    go_enter Try.func12, Try.ntmps12
    go_wp2_with fail
    refine (within_any _ _ _ (decide_eq_true H0.out) _).mono ?_
    rintro e w1 ⟨rfl, rfl⟩
    go_wp2_with fail
    refine (within_any _ _ _ (decide_eq_true H1.out) _).mono ?_
    rintro e w1 ⟨rfl, rfl⟩
    go_wp2_with fail
    refine (within_any _ _ _ (decide_eq_false H2.out) _).mono ?_
    rintro e w1 ⟨rfl, rfl⟩
    go_wp2_with fail
    refine bodyPost_ret (v := .tuple #[.agg #[.int .i64 0, .int .i64 0, .int .i64 0, .int .i64 0, .int .i64 0, .int .i64 0, .slice none 0 0, .slice none 0 0], .int .i64 2]) (by simp [results, Try.results12, go_sem]) rfl ?_
    exact ⟨⟨_, 2, rfl, by rw [HM.out]; rfl, fun base _ => by rw [HM.out]; exact ⟨_, _, rfl, osV_nil _ _, qsV_nil _ _⟩⟩, (Below.refl _ w).alloc (Nat.le_refl _) _⟩
  have H2 := Lib.hid h2
  clear h2
  have HM : Hid ((newS ses lim tmo) = (⟨ses, lim, tmo, 0, 0, lim, [], []⟩, 0)) := by show _ = _; unfold newS; rw [if_pos ⟨H0.out, H1.out, H2.out⟩]
  go_enter Try.func12, Try.ntmps12
  go_wp2_with fail
  refine (within_any _ _ _ (decide_eq_true H0.out) _).mono ?_
  rintro e w1 ⟨rfl, rfl⟩
  go_wp2_with fail
  refine (within_any _ _ _ (decide_eq_true H1.out) _).mono ?_
  rintro e w1 ⟨rfl, rfl⟩
  go_wp2_with fail
  refine (within_any _ _ _ (decide_eq_true H2.out) _).mono ?_
  rintro e w1 ⟨rfl, rfl⟩
  go_wp2_with fail
  refine bodyPost_ret (v := .tuple #[.agg #[.int .i64 ses, .int .i64 lim, .int .i64 tmo, .int .i64 0, .int .i64 0, .int .i64 lim, .slice none 0 0, .slice none 0 0], .int .i64 0]) (by simp [results, Try.results12, go_sem]) rfl ?_
  exact ⟨⟨_, 0, rfl, by rw [HM.out]; rfl, fun base _ => by rw [HM.out]; exact ⟨_, _, rfl, osV_nil _ _, qsV_nil _ _⟩⟩, (Below.refl _ w).alloc (Nat.le_refl _) _⟩
set_option maxRecDepth 100000 in
set_option maxHeartbeats 1000000 in
set_option linter.unusedSimpArgs false in
theorem NewReceiver_any (ses lim : Int) (w : World) : Calls Try.prog 13 #[.int .i64 ses, .int .i64 lim] w (RcR w (newR ses lim)) := by
  have hk := Blk.new w 33 #[.int .i64 0, .int .i64 0, .int .i64 0, .slice none 0 0]
  have hb : Below w.heap.size w (w.alloc (.cells #[.int .i64 0, .int .i64 0, .int .i64 0, .slice none 0 0] 33)) := (Below.refl _ w).alloc (Nat.le_refl _) _
  have HB := Lib.hid (And.intro hk hb)
  clear hk hb
  by_cases h0 : 0 ≤ ses ∧ ses ≤ 1073741824
  rotate_left 1
  · have H0 := Lib.hid h0
    have HM : Hid ((newR ses lim) = (⟨0, 0, 0, []⟩, 2)) := by show _ = _; unfold newR; rw [if_neg (fun h => h0 (by first | exact h | exact h.1 | exact h.2 | exact h.2.1 | exact h.2.2))]
    clear h0
    go_enter Try.func13, Try.ntmps13
    go_wp2_with fail
    refine (in_any _ _ _ (decide_eq_false H0.out) _).mono ?_
    rintro e w1 ⟨rfl, rfl⟩
    go_wp2_with fail
    refine bodyPost_ret (v := .tuple #[.agg #[.int .i64 0, .int .i64 0, .int .i64 0, .slice none 0 0], .int .i64 2]) (by simp [results, Try.results13, go_sem]) rfl ?_
    exact ⟨⟨_, 2, rfl, by rw [HM.out]; rfl, fun base _ => by rw [HM.out]; exact ⟨_, rfl, asV_nil _ _⟩⟩, (Below.refl _ w).alloc (Nat.le_refl _) _⟩
  have H0 := Lib.hid h0
  clear h0
  by_cases h1 : 1 ≤ lim ∧ lim ≤ 64
  rotate_left 1
  · have H1 := Lib.hid h1
    have HM : Hid ((newR ses lim) = (⟨0, 0, 0, []⟩, 2)) := by show _ = _; unfold newR; rw [if_neg (fun h => h1 (by first | exact h | exact h.1 | exact h.2 | exact h.2.1 | exact h.2.2))]
    clear h1
    go_enter Try.func13, Try.ntmps13
    go_wp2_with fail
    refine (in_any _ _ _ (decide_eq_true H0.out) _).mono ?_
    rintro e w1 ⟨rfl, rfl⟩
    go_wp2_with fail
    refine (in_any _ _ _ (decide_eq_false H1.out) _).mono ?_
    rintro e w1 ⟨rfl, rfl⟩
    go_wp2_with fail
    refine bodyPost_ret (v := .tuple #[.agg #[.int .i64 0, .int .i64 0, .int .i64 0, .slice none 0 0], .int .i64 2]) (by simp [results, Try.results13, go_sem]) rfl ?_
    exact ⟨⟨_, 2, rfl, by rw [HM.out]; rfl, fun base _ => by rw [HM.out]; exact ⟨_, rfl, asV_nil _ _⟩⟩, (Below.refl _ w).alloc (Nat.le_refl _) _⟩
  have H1 := Lib.hid h1
  clear h1
  have HM : Hid ((newR ses lim) = (⟨ses, lim, 0, []⟩, 0)) := by show _ = _; unfold newR; rw [if_pos ⟨H0.out, H1.out⟩]
  go_enter Try.func13, Try.ntmps13
  go_wp2_with fail
  refine (in_any _ _ _ (decide_eq_true H0.out) _).mono ?_
  rintro e w1 ⟨rfl, rfl⟩
  go_wp2_with fail
  refine (in_any _ _ _ (decide_eq_true H1.out) _).mono ?_
  rintro e w1 ⟨rfl, rfl⟩
  go_wp2_with fail
  refine bodyPost_ret (v := .tuple #[.agg #[.int .i64 ses, .int .i64 lim, .int .i64 0, .slice none 0 0], .int .i64 0]) (by simp [results, Try.results13, go_sem]) rfl ?_
  exact ⟨⟨_, 0, rfl, by rw [HM.out]; rfl, fun base _ => by rw [HM.out]; exact ⟨_, rfl, asV_nil _ _⟩⟩, (Below.refl _ w).alloc (Nat.le_refl _) _⟩
set_option maxRecDepth 100000 in
set_option maxHeartbeats 1000000 in
set_option linter.unusedSimpArgs false in
theorem refNewReceiver_any (ses lim : Int) (w : World) : Calls Try.prog 14 #[.int .i64 ses, .int .i64 lim] w (RcR w (newR ses lim)) := by
  have hk := Blk.new w 33 #[.int .i64 0, .int .i64 0, .int .i64 0, .slice none 0 0]
  have hb : Below w.heap.size w (w.alloc (.cells #[.int .i64 0, .int .i64 0, .int .i64 0, .slice none 0 0] 33)) := (Below.refl _ w).alloc (Nat.le_refl _) _
  have HB := Lib.hid (And.intro hk hb)
  clear hk hb
  by_cases h0 : 0 ≤ ses ∧ ses ≤ 1073741824
  rotate_left 1
  · have H0 := Lib.hid h0
    have HM : Hid ((newR ses lim) = (⟨0, 0, 0, []⟩, 2)) := by show _ = _; unfold newR; rw [if_neg (fun h => h0 (by first | exact h | exact h.1 | exact h.2 | exact h.2.1 | exact h.2.2))]
    clear h0
    go_enter Try.func14, Try.ntmps14
    go_wp2_with fail
    refine (within_any _ _ _ (decide_eq_false H0.out) _).mono ?_
    rintro e w1 ⟨rfl, rfl⟩
    go_wp2_with fail
    refine bodyPost_ret (v := .tuple #[.agg #[.int .i64 0, .int .i64 0, .int .i64 0, .slice none 0 0], .int .i64 2]) (by simp [results, Try.results14, go_sem]) rfl ?_
    exact ⟨⟨_, 2, rfl, by rw [HM.out]; rfl, fun base _ => by rw [HM.out]; exact ⟨_, rfl, asV_nil _ _⟩⟩, (Below.refl _ w).alloc (Nat.le_refl _) _⟩
  have H0 := Lib.hid h0
  clear h0
  by_cases h1 : 1 ≤ lim ∧ lim ≤ 64
  rotate_left 1
  · have H1 := Lib.hid h1
    have HM : Hid ((newR ses lim) = (⟨0, 0, 0, []⟩, 2)) := by show _ = _; unfold newR; rw [if_neg (fun h => h1 (by first | exact h | exact h.1 | exact h.2 | exact h.2.1 | exact h.2.2))]
    clear h1
    go_enter Try.func14, Try.ntmps14
    go_wp2_with fail
    refine (within_any _ _ _ (decide_eq_true H0.out) _).mono ?_
    rintro e w1 ⟨rfl, rfl⟩
    go_wp2_with fail
    refine (within_any _ _ _ (decide_eq_false H1.out) _).mono ?_
    rintro e w1 ⟨rfl, rfl⟩
    go_wp2_with fail
    refine bodyPost_ret (v := .tuple #[.agg #[.int .i64 0, .int .i64 0, .int .i64 0, .slice none 0 0], .int .i64 2]) (by simp [results, Try.results14, go_sem]) rfl ?_
    exact ⟨⟨_, 2, rfl, by rw [HM.out]; rfl, fun base _ => by rw [HM.out]; exact ⟨_, rfl, asV_nil _ _⟩⟩, (Below.refl _ w).alloc (Nat.le_refl _) _⟩
  have H1 := Lib.hid h1
  clear h1
  have HM : Hid ((newR ses lim) = (⟨ses, lim, 0, []⟩, 0)) := by show _ = _; unfold newR; rw [if_pos ⟨H0.out, H1.out⟩]
  go_enter Try.func14, Try.ntmps14
  go_wp2_with fail
  refine (within_any _ _ _ (decide_eq_true H0.out) _).mono ?_
  rintro e w1 ⟨rfl, rfl⟩
  go_wp2_with fail
  refine (within_any _ _ _ (decide_eq_true H1.out) _).mono ?_
  rintro e w1 ⟨rfl, rfl⟩
  go_wp2_with fail
  refine bodyPost_ret (v := .tuple #[.agg #[.int .i64 ses, .int .i64 lim, .int .i64 0, .slice none 0 0], .int .i64 0]) (by simp [results, Try.results14, go_sem]) rfl ?_
  exact ⟨⟨_, 0, rfl, by rw [HM.out]; rfl, fun base _ => by rw [HM.out]; exact ⟨_, rfl, asV_nil _ _⟩⟩, (Below.refl _ w).alloc (Nat.le_refl _) _⟩
end Go.Proofs.Ytanmndhdhlmjgaa
