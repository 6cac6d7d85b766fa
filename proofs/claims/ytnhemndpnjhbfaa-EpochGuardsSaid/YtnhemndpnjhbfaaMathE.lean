/- Plain laws of a lineage that grows: a step at the end. No condition. -/
import Derived.Test.YtnhemndpnjhbfaaMathD
namespace Go.Proofs.Ytnhemndpnjhbfaa
open Go.RowKit
theorem growL_append (a b : List (Nat × Nat)) (l : List Span) : growL (a ++ b) l = growL b (growL a l) := by
  induction a generalizing l with
  | nil => rfl
  | cons p a ih => exact ih _
theorem growE_append (a b : List (Nat × Nat)) (l : List Span) : growE (a ++ b) l = growE a l ++ growE b (growL a l) := by
  induction a generalizing l with
  | nil => rfl
  | cons p a ih =>
    simp only [List.cons_append, growE, growL, List.append_assoc]
    rw [ih]
theorem extL_len1 (l : List Span) (n c : Int) : (extL l n c).length ≤ l.length + 1 := by
  unfold extL
  split <;> simp
/-- what a round of grown does -/
theorem grow_step {q : List (Nat × Nat)} {l : List Span} {k : Nat} (hok : OkS l 500) (hk : k < q.length) (h20 : k < 20) :
    extE (growL (q.take k) l) (stepN (growL (q.take k) l) q[k]) (stepC (growL (q.take k) l) q[k]) = 0 ∧
    growL (q.take (k + 1)) l = extL (growL (q.take k) l) (stepN (growL (q.take k) l) q[k]) (stepC (growL (q.take k) l) q[k]) ∧
    growE (q.take (k + 1)) l = growE (q.take k) l ++ stepE (growL (q.take k) l) q[k] ∧
    (lastS (growL (q.take (k + 1)) l)).e = stepN (growL (q.take k) l) q[k] ∧ (lastS (growL (q.take (k + 1)) l)).t = stepC (growL (q.take k) l) q[k] ∧
    0 ≤ (lastS (growL (q.take k) l)).e ∧ (lastS (growL (q.take k) l)).e ≤ 600 ∧ 0 ≤ (lastS (growL (q.take k) l)).t ∧ (lastS (growL (q.take k) l)).t ≤ 600 := by
  have hl : (q.take k).length = k := by rw [List.length_take]; omega
  obtain ⟨g1, _⟩ := grow_law (q.take k) l 500 hok (by omega) (by rw [hl]; omega)
  rw [hl] at g1
  have hb := last_bd g1.1
  have ht : q.take (k + 1) = q.take k ++ [q[k]] := List.take_succ_eq_append_getElem hk
  obtain ⟨s1, s2, s3, s4, _⟩ := step_law g1 (by omega) (by omega) q[k]
  have hL : growL (q.take (k + 1)) l = extL (growL (q.take k) l) (stepN (growL (q.take k) l) q[k]) (stepC (growL (q.take k) l) q[k]) := by rw [ht, growL_append]; rfl
  refine ⟨s1, hL, by rw [ht, growE_append]; simp [growE], by rw [hL]; exact s3, by rw [hL]; exact s4, hb.1, ?_, hb.2.2.1, ?_⟩
  · have := g1.2.1; omega
  · have := g1.2.2; omega
theorem growE_len {q : List (Nat × Nat)} {l : List Span} : (growE q l).length ≤ 4 * q.length := by
  induction q generalizing l with
  | nil => simp [growE]
  | cons p q ih =>
    simp only [growE, List.length_append, List.length_cons, stepE, List.length_replicate]
    have := @ih (extL l (stepN l p) (stepC l p))
    omega
end Go.Proofs.Ytnhemndpnjhbfaa
