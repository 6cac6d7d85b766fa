/- Plain laws: a throttle stays in order; its first open mark is the oldest write of which something is missing. No condition. -/
import Derived.Test.YthkpkjigfaannaaWj
namespace Go.Proofs.Ythkpkjigfaannaa
open Go.RowKit
/-- the time of the first entry beyond a number of sectors -/
def foM (x : Int) : List Mk → Option Int
  | [] => none
  | m :: l => if x < m.n then some m.t else foM x l
theorem foM_append (x : Int) (a b : List Mk) : foM x (a ++ b) = (foM x a).or (foM x b) := by
  induction a with
  | nil => rfl
  | cons m a ih =>
    simp only [List.cons_append, foM]
    split
    · rfl
    · exact ih
theorem foM_drop {x y : Int} {l : List Mk} (h : y ≤ x) (q : Nat) (hq : q ≤ openM y l) : foM x (l.drop q) = foM x l := by
  induction l generalizing q with
  | nil => simp
  | cons m l ih =>
    cases q with
    | zero => rfl
    | succ q =>
      simp only [openM] at hq
      split at hq
      · omega
      · next hm =>
        rw [List.drop_succ_cons, ih q (by omega), foM, if_neg (by omega)]
theorem foM_open {x : Int} {l : List Mk} (h : openM x l < l.length) : foM x l = some (atM l (openM x l)).t := by
  induction l with
  | nil => simp at h
  | cons m l ih =>
    simp only [openM, foM] at h ⊢
    split
    · rfl
    · next hm =>
      rw [if_neg hm] at h
      rw [ih (by simpa using h)]
      rfl
theorem foM_none {x : Int} {p : Mk} {t : Int} {l : List Mk} (h : marksB t p l = true) (hx : (lastM p l).n ≤ x) : foM x l = none := by
  induction l generalizing p with
  | nil => rfl
  | cons m l ih =>
    simp only [marksB, betwB, Bool.and_eq_true, decide_eq_true_eq] at h
    simp only [lastM] at hx
    have := (marksB_bd h.2).1
    rw [foM, if_neg (by omega)]
    exact ih h.2 hx
theorem marksB_mono {t t' : Int} {p : Mk} {l : List Mk} (h : marksB t p l = true) (ht : t ≤ t') : marksB t' p l = true := by
  induction l generalizing p with
  | nil => rfl
  | cons m l ih =>
    simp only [marksB, betwB, Bool.and_eq_true, decide_eq_true_eq] at h ⊢
    exact ⟨⟨⟨h.1.1.1, by omega⟩, h.1.2⟩, ih h.2⟩
theorem marksB_low {t : Int} {p p' : Mk} {l : List Mk} (h : marksB t p l = true) (h1 : p'.t ≤ p.t) (h2 : p'.n ≤ p.n) : marksB t p' l = true := by
  cases l with
  | nil => rfl
  | cons m l =>
    simp only [marksB, betwB, Bool.and_eq_true, decide_eq_true_eq] at h ⊢
    exact ⟨⟨⟨by omega, h.1.1.2⟩, by omega, h.1.2.2⟩, h.2⟩
theorem marksB_dropq {t : Int} {p : Mk} {l : List Mk} (h : marksB t p l = true) (q : Nat) : marksB t p (l.drop q) = true := by
  induction q generalizing l p with
  | zero => exact h
  | succ q ih =>
    cases l with
    | nil => rfl
    | cons m l =>
      simp only [marksB, betwB, Bool.and_eq_true, decide_eq_true_eq] at h
      exact ih (marksB_low h.2 (by omega) (by omega))
theorem marksB_snoc {t : Int} {p m : Mk} {l : List Mk} (h : marksB t p l = true) (h1 : (lastM p l).t < m.t ∧ m.t ≤ t) (h2 : (lastM p l).n < m.n ∧ m.n ≤ 1073741824) : marksB t p (l ++ [m]) = true := by
  induction l generalizing p with
  | nil =>
    simp only [lastM] at h1 h2
    simp only [List.nil_append, marksB, betwB, Bool.and_eq_true, decide_eq_true_eq]
    exact ⟨⟨⟨by omega, h1.2⟩, by omega, h2.2⟩, trivial⟩
  | cons a l ih =>
    simp only [List.cons_append, marksB, Bool.and_eq_true] at h ⊢
    simp only [lastM] at h1 h2
    exact ⟨h.1, ih h.2 h1 h2⟩
theorem marksB_init {t : Int} {p m : Mk} {l : List Mk} (h : marksB t p (l ++ [m]) = true) : marksB t p l = true ∧ (lastM p l).t < m.t ∧ (lastM p l).n < m.n := by
  induction l generalizing p with
  | nil =>
    simp only [List.nil_append, marksB, betwB, Bool.and_eq_true, decide_eq_true_eq] at h
    exact ⟨rfl, by simp only [lastM]; omega, by simp only [lastM]; omega⟩
  | cons a l ih =>
    simp only [List.cons_append, marksB, Bool.and_eq_true] at h ⊢
    obtain ⟨i1, i2⟩ := ih h.2
    exact ⟨⟨h.1, i1⟩, i2⟩
theorem lastM_snoc (p m : Mk) (l : List Mk) : lastM p (l ++ [m]) = m := by
  induction l generalizing p with
  | nil => rfl
  | cons a l ih => exact ih a
theorem tot_snoc (m : Mk) (l : List Mk) : totM (l ++ [m]) = m.n := by rw [totM, lastM_snoc]
theorem lastM_dropq (p : Mk) (l : List Mk) (q : Nat) (h : q < l.length) : lastM p (l.drop q) = lastM p l := by
  induction q generalizing l p with
  | zero => rfl
  | succ q ih =>
    cases l with
    | nil => simp at h
    | cons m l =>
      simp only [List.drop_succ_cons, lastM]
      have hl : q < l.length := by simpa using h
      rw [ih p l hl]
      exact lastM_any p m l (by intro h9; rw [h9] at hl; simp at hl)
theorem openM_dropq (x : Int) (l : List Mk) (q : Nat) (h : q ≤ openM x l) : openM x (l.drop q) = openM x l - q := by
  induction q generalizing l with
  | zero => rfl
  | succ q ih =>
    cases l with
    | nil => simp [openM]
    | cons m l =>
      simp only [openM] at h ⊢
      split at h
      · omega
      · next hm =>
        rw [List.drop_succ_cons, ih l (by omega), if_neg hm]
        omega
theorem chk_intro {o r t b : Int} {l : List Mk} (ho : 1 ≤ o ∧ o ≤ 1073741824) (hr : 1 ≤ r ∧ r ≤ 4096) (ht : 0 ≤ t ∧ t ≤ 1073741824) (hm : marksB t ⟨-1, 0⟩ l = true) (hb : 0 ≤ b ∧ b ≤ totM l) (hop : 1 < l.length → openM (totM l - b) l = 0) : chkTh o r t b l = 0 := by
  have h1 : (okN o r && betwB t 0 1073741824) = true := by
    simp only [okN, betwB, Bool.and_eq_true, decide_eq_true_eq]
    exact ⟨⟨ho, hr⟩, ht⟩
  have h2 : betwB b 0 (totM l) = true := by simpa [betwB] using hb
  rw [chkTh, if_pos h1, if_pos hm, chkO, if_pos h2, if_neg]
  intro h
  simp only [Bool.and_eq_true, decide_eq_true_eq] at h
  have := hop h.1
  omega
/-- progress keeps a throttle in order -/
theorem prog_law {T : Th} {now x : Int} (hc : T.chk = 0) (hn : T.t ≤ now ∧ now ≤ 1073741824) (hx : totM T.l - T.b ≤ x ∧ x ≤ totM T.l) :
    ∃ T', progR T now x = (T', 0) ∧ T'.chk = 0 ∧ T'.o = T.o ∧ T'.r = T.r ∧ T'.t = now ∧ T'.b = totM T.l - x ∧ totM T'.l = totM T.l ∧ (∀ y, x ≤ y → foM y T'.l = foM y T.l) ∧ T'.l.length ≤ T.l.length := by
  obtain ⟨o, r, t, b, l⟩ := T
  have hc' : chkTh o r t b l = 0 := hc
  obtain ⟨ho, hr, ht, hm, b1, b2, t2, hop⟩ := chk_zero hc'
  dsimp only at hn hx ⊢
  have hadv : Th.adv ⟨o, r, t, b, l⟩ now = 0 := by
    show advE o r t b l now = 0
    rw [advE, if_pos hc', if_pos (by simp only [betwB, decide_eq_true_eq]; exact hn)]
  refine ⟨⟨o, r, now, totM l - x, progL x l⟩, by rw [progR, if_pos hadv, if_pos hx], ?_, rfl, rfl, rfl, rfl, ?_⟩
  · show chkTh o r now (totM l - x) (progL x l) = 0
    by_cases hl : l = []
    · subst hl
      refine chk_intro ho hr ⟨by omega, hn.2⟩ rfl ?_ (fun h => by simp [progL] at h)
      have h0 : totM (progL x []) = totM [] := rfl
      rw [h0]
      omega
    · have hlen : 0 < l.length := List.length_pos_iff.2 hl
      have hq : min (openM x l) (l.length - 1) < l.length := by omega
      have htot : totM (progL x l) = totM l := by rw [totM, totM, progL, lastM_dropq _ _ _ hq]
      refine chk_intro ho hr ⟨by omega, hn.2⟩ (marksB_mono (marksB_dropq hm _) hn.1) (by rw [htot]; omega) (fun h => ?_)
      rw [htot]
      have e : totM l - (totM l - x) = x := by omega
      rw [e]
      rw [progL] at h ⊢
      rw [List.length_drop] at h
      rw [openM_dropq _ _ _ (Nat.min_le_left _ _)]
      omega
  · by_cases hl : l = []
    · subst hl
      exact ⟨rfl, fun y _ => rfl, Nat.le_refl _⟩
    · have hlen : 0 < l.length := List.length_pos_iff.2 hl
      have hq : min (openM x l) (l.length - 1) < l.length := by omega
      exact ⟨by show totM (progL x l) = totM l; rw [totM, totM, progL, lastM_dropq _ _ _ hq], fun y hy => foM_drop hy _ (Nat.min_le_left _ _), by show (progL x l).length ≤ l.length; rw [progL, List.length_drop]; omega⟩
end Go.Proofs.Ythkpkjigfaannaa
