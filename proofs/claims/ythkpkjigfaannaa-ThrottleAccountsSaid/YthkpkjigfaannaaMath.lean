/- Plain laws: the reference's way of finding a confirmed mark. No condition. -/
import Derived.Test.YthkpkjigfaannaaWc
namespace Go.Proofs.Ythkpkjigfaannaa
open Go.RowKit
def belowE (T : Int) : List Mk → Int
  | [] => 0
  | m :: l => if l = [] then 0 else if m.n ≤ T then 3 else belowE T l
theorem belowE_drop (T : Int) (l : List Mk) (k : Nat) (h : k + 1 < l.length) : belowE T (l.drop k) = if (atM l k).n ≤ T then 3 else belowE T (l.drop (k + 1)) := by
  have hk : k < l.length := by omega
  have ha : atM l k = l[k] := by simp [atM, hk]
  rw [List.drop_eq_getElem_cons hk, ha, belowE, if_neg]
  intro h9
  have := congrArg List.length h9
  simp at this
  omega
theorem belowE_end (T : Int) (l : List Mk) (k : Nat) (h : l.length ≤ k + 1) : belowE T (l.drop k) = 0 := by
  have : (l.drop k).length ≤ 1 := by simp; omega
  match hd : l.drop k with
  | [] => rfl
  | [m] => rfl
  | a :: b :: c => rw [hd] at this; simp at this
theorem belowE_far {t T : Int} {p : Mk} {l : List Mk} (h : marksB t p l = true) (hp : T < p.n) : belowE T l = 0 := by
  induction l generalizing p with
  | nil => rfl
  | cons m l ih =>
    simp only [marksB, betwB, Bool.and_eq_true, decide_eq_true_eq] at h
    obtain ⟨⟨_, h3, h4⟩, h5⟩ := h
    rw [belowE]
    split
    · rfl
    · rw [if_neg (by omega)]
      exact ih h5 (by omega)
theorem belowE_law {t T : Int} {p : Mk} {l : List Mk} (h : marksB t p l = true) : belowE T l = if decide (1 < l.length) && decide (0 < openM T l) then 3 else 0 := by
  cases l with
  | nil => rfl
  | cons m l =>
    simp only [marksB, betwB, Bool.and_eq_true, decide_eq_true_eq] at h
    obtain ⟨⟨_, h3, h4⟩, h5⟩ := h
    rw [belowE, openM]
    by_cases hl : l = []
    · subst hl
      simp
    · have h1 : 1 < (m :: l).length := by
        cases l with
        | nil => exact absurd rfl hl
        | cons a l => simp
      rw [if_neg hl, decide_eq_true h1, Bool.true_and]
      by_cases hm : m.n ≤ T
      · have h9 : ¬ T < m.n := by omega
        simp [hm, h9]
      · have h9 : T < m.n := by omega
        simp [hm, h9, belowE_far h5 h9]
end Go.Proofs.Ythkpkjigfaannaa
