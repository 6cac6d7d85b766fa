/- Plain laws: what the law Remembers and the law Forks find. No condition. -/
import Derived.Test.YtnhemndpnjhbfaaMathE
namespace Go.Proofs.Ytnhemndpnjhbfaa
open Go.RowKit
theorem epochV_lin {l : List Span} (h : lineageE l = 0) (c : Int) : epochV l c = epochAt c l := if_pos h
theorem rem_law (q : List (Nat × Nat)) (hq : q.length ≤ 20) : lineageE (growL q []) = 0 ∧
    (∀ k : Nat, k = 0 ∨ (growE q []).length < k → epochV (growL q []) k = (0, false)) ∧
    ∀ (k : Nat) (h : k < (growE q []).length), epochV (growL q []) ((k : Int) + 1) = ((growE q [])[k], true) := by
  obtain ⟨g1, g2, g3, g4, g5, g6⟩ := grow_law q [] 0 (okS_nil 0 (by omega)) (by omega) (by omega)
  have h0 : (lastS ([] : List Span)).t = 0 := rfl
  rw [h0] at g2 g3 g5
  refine ⟨g1.1, fun k hk => ?_, fun k hk => ?_⟩
  · rw [epochV_lin g1.1]
    exact epochAt_out g1.1 (by omega)
  · rw [epochV_lin g1.1]
    have := g5 k _ (List.getElem?_eq_getElem hk)
    rw [← this]
    congr 1
    omega
theorem fork_law (q a : List (Nat × Nat)) (hq : q.length ≤ 20) (ha : a.length ≤ 20) : OkS (growL q []) 500 ∧ lineageE (growL a (growL q [])) = 0 ∧
    (∀ (k : Nat) (h : k < (growE q []).length), epochV (growL a (growL q [])) ((k : Int) + 1) = ((growE q [])[k], true)) ∧
    truncV (growL a (growL q [])) (growE q []).length = growL q [] := by
  obtain ⟨g1, g2, g3, g4, g5, g6⟩ := grow_law q [] 0 (okS_nil 0 (by omega)) (by omega) (by omega)
  have h0 : (lastS ([] : List Span)).t = 0 := rfl
  rw [h0] at g2 g3 g5
  have hok : OkS (growL q []) 100 := ⟨g1.1, by have := g1.2.1; omega, by have := g1.2.2; omega⟩
  obtain ⟨i1, i2, i3, i4, i5, i6⟩ := grow_law a (growL q []) 100 hok (by omega) (by omega)
  refine ⟨⟨g1.1, by have := hok.2.1; omega, by have := hok.2.2; omega⟩, i1.1, fun k hk => ?_, ?_⟩
  · rw [epochV_lin i1.1, i4 _ (by omega)]
    have := g5 k _ (List.getElem?_eq_getElem hk)
    rw [← this]
    congr 1
    omega
  · have h9 : (((growE q []).length : Nat) : Int) = (lastS (growL q [])).t := by omega
    rw [truncV, if_pos i1.1, i6 _ (by omega), h9, trunc_last g1.1]
end Go.Proofs.Ytnhemndpnjhbfaa
