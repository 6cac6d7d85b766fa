/- Plain law of a lineage that grows by steps. No condition. -/
import Derived.Test.YtnhemndpnjhbfaaMathC
namespace Go.Proofs.Ytnhemndpnjhbfaa
open Go.RowKit
/-- the epoch of a step: at least one, some further than the last -/
def stepN (l : List Span) (p : Nat × Nat) : Int := if 1 < (lastS l).e + ((p.1 % 3 : Nat) : Int) then (lastS l).e + ((p.1 % 3 : Nat) : Int) else 1
def stepC (l : List Span) (p : Nat × Nat) : Int := (lastS l).t + 1 + ((p.2 % 4 : Nat) : Int)
def growL : List (Nat × Nat) → List Span → List Span
  | [], l => l
  | p :: q, l => growL q (extL l (stepN l p) (stepC l p))
/-- the epochs of the cycles that a step adds -/
def stepE (l : List Span) (p : Nat × Nat) : List Int := List.replicate (p.2 % 4 + 1) (stepN l p)
def growE : List (Nat × Nat) → List Span → List Int
  | [], _ => []
  | p :: q, l => stepE l p ++ growE q (extL l (stepN l p) (stepC l p))
/-- a lineage in order, with small numbers -/
def OkS (l : List Span) (b : Int) : Prop := lineageE l = 0 ∧ (lastS l).e ≤ b ∧ (lastS l).t ≤ b
theorem okS_nil (b : Int) (hb : 0 ≤ b) : OkS [] b := ⟨rfl, hb, hb⟩
theorem step_law {l : List Span} {b : Int} (h : OkS l b) (hb : 0 ≤ b) (hb2 : b ≤ 1000000) (p : Nat × Nat) :
    extE l (stepN l p) (stepC l p) = 0 ∧ OkS (extL l (stepN l p) (stepC l p)) (b + 4) ∧ (lastS (extL l (stepN l p) (stepC l p))).e = stepN l p ∧ (lastS (extL l (stepN l p) (stepC l p))).t = stepC l p ∧
    (∀ j, j ≤ (lastS l).t → epochAt j (extL l (stepN l p) (stepC l p)) = epochAt j l) ∧ (∀ j, (lastS l).t < j → j ≤ stepC l p → epochAt j (extL l (stepN l p) (stepC l p)) = (stepN l p, true)) ∧
    (∀ t, t ≤ (lastS l).t → truncL t (extL l (stepN l p) (stepC l p)) = truncL t l) := by
  obtain ⟨h1, h2, h3⟩ := h
  obtain ⟨q0, q1, q2, q3⟩ := last_bd h1
  have hN : 1 ≤ stepN l p ∧ (lastS l).e ≤ stepN l p ∧ stepN l p ≤ b + 4 := by
    unfold stepN
    have : ((p.1 % 3 : Nat) : Int) < 3 := by omega
    split <;> omega
  have hC : (lastS l).t < stepC l p ∧ stepC l p ≤ b + 4 := by
    unfold stepC
    have : ((p.2 % 4 : Nat) : Int) < 4 := by omega
    omega
  obtain ⟨z1, z2, z3, z4, z5⟩ := ext_law h1 hN.1 (by omega) (by omega) hN.2.1 hC.1
  exact ⟨z1, ⟨z2, by omega, by omega⟩, z3, z4, z5⟩
theorem grow_law (q : List (Nat × Nat)) : ∀ (l : List Span) (b : Int), OkS l b → 0 ≤ b → b + 4 * q.length ≤ 1000000 →
    OkS (growL q l) (b + 4 * q.length) ∧ (lastS l).t ≤ (lastS (growL q l)).t ∧ ((growE q l).length : Int) = (lastS (growL q l)).t - (lastS l).t ∧
    (∀ j, j ≤ (lastS l).t → epochAt j (growL q l) = epochAt j l) ∧ (∀ (i : Nat) (n : Int), (growE q l)[i]? = some n → epochAt ((lastS l).t + 1 + i) (growL q l) = (n, true)) ∧
    (∀ t, t ≤ (lastS l).t → truncL t (growL q l) = truncL t l) := by
  induction q with
  | nil =>
    intro l b h hb hq
    exact ⟨by simpa [growL] using h, Int.le_refl _, by simp [growE, growL], fun j hj => rfl, fun i n hi => by simp [growE] at hi, fun t ht => rfl⟩
  | cons p q ih =>
    intro l b h hb hq
    simp only [List.length_cons] at hq
    obtain ⟨s1, s2, s3, s4, s5, s6, s7⟩ := step_law h hb (by omega) p
    obtain ⟨i1, i2, i3, i4, i5, i6⟩ := ih _ (b + 4) s2 (by omega) (by omega)
    simp only [growL, growE]
    obtain ⟨m, hm⟩ : ∃ m, extL l (stepN l p) (stepC l p) = m := ⟨_, rfl⟩
    rw [hm] at s2 s3 s4 s5 s6 s7 i1 i2 i3 i4 i5 i6 ⊢
    have hE : (stepE l p).length = p.2 % 4 + 1 := by simp [stepE]
    have hC : stepC l p = (lastS l).t + 1 + ((p.2 % 4 : Nat) : Int) := rfl
    rw [s4] at i2 i3 i4 i5 i6
    refine ⟨by rw [List.length_cons]; obtain ⟨x, y, z⟩ := i1; exact ⟨x, by omega, by omega⟩, by omega, ?_, fun j hj => ?_, fun i n hi => ?_, fun t ht => ?_⟩
    · rw [List.length_append, hE]; omega
    · rw [i4 j (by omega), s5 j hj]
    · by_cases hc : i < (stepE l p).length
      · rw [List.getElem?_append_left hc] at hi
        rw [i4 _ (by omega), s6 _ (by omega) (by omega)]
        unfold stepE at hi
        rw [List.getElem?_replicate] at hi
        split at hi
        · injection hi with hi; rw [hi]
        · cases hi
      · rw [List.getElem?_append_right (by omega)] at hi
        rw [← i5 _ _ hi]
        congr 1
        omega
    · rw [i6 t (by omega), s7 t ht]
end Go.Proofs.Ytnhemndpnjhbfaa
