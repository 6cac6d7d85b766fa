/- Plain laws: what tidy does to marks in order; the two ways of the delay. No condition. -/
import Derived.Test.YthkpkjigfaannaaWe
namespace Go.Proofs.Ythkpkjigfaannaa
open Go.RowKit
theorem tidyM_all {t x : Int} {p : Mk} {l : List Mk} (h : marksB t p l = true) (hx : x ≤ p.n) : tidyM x l = l := by
  induction l generalizing p with
  | nil => rfl
  | cons m l ih =>
    simp only [marksB, betwB, Bool.and_eq_true, decide_eq_true_eq] at h
    obtain ⟨⟨_, h3, h4⟩, h5⟩ := h
    rw [tidyM, if_pos (.inr (by omega)), ih h5 (by omega)]
theorem tidyM_snoc_all {t x : Int} {p m : Mk} {l : List Mk} (h : marksB t p l = true) (hx : x < p.n ∨ l = []) : tidyM x (l ++ [m]) = l ++ [m] := by
  induction l generalizing p with
  | nil => simp [tidyM]
  | cons a l ih =>
    simp only [marksB, betwB, Bool.and_eq_true, decide_eq_true_eq] at h
    obtain ⟨⟨_, h3, h4⟩, h5⟩ := h
    have hx' : x < p.n := hx.resolve_right (by simp)
    rw [List.cons_append, tidyM, if_pos (.inr (by omega)), ih h5 (.inl (by omega))]
theorem tidyM_snoc {t x : Int} {p m : Mk} {l : List Mk} (h : marksB t p l = true) : tidyM x (l ++ [m]) = l.drop (openM x l) ++ [m] := by
  induction l generalizing p with
  | nil => simp [tidyM, openM]
  | cons a l ih =>
    simp only [marksB, betwB, Bool.and_eq_true, decide_eq_true_eq] at h
    obtain ⟨⟨_, h3, h4⟩, h5⟩ := h
    rw [List.cons_append, tidyM, openM]
    by_cases ha : x < a.n
    · rw [if_pos (.inr ha), if_pos ha, tidyM_snoc_all h5 (.inl ha)]
      rfl
    · rw [if_neg (by rintro (h | h); simp at h; exact ha h), if_neg ha, ih h5]
      rfl
theorem delay_eq (n r o : Int) (h : r ≠ 0) : (n + r - 1) / r - o = (n - r * o + r - 1) / r := by
  rw [show n - r * o + r - 1 = n + r - 1 - o * r by rw [Int.mul_comm r o]; omega, Int.sub_mul_ediv_right _ _ h]
end Go.Proofs.Ythkpkjigfaannaa
