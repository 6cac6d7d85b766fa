/- The lineages of the law. No condition. -/
import Derived.Test.YthkajcioeemilaaWk
import Derived.Test.YthkajcioeemilaaWl
namespace Go.Proofs.Ythkajcioeemilaa
/-- cycles 1 .. i of epoch 1 -/
def lin1 (i : Int) : List Sp := if i = 0 then [] else [⟨1, 1, i⟩]
/-- m cycles of epoch 1, c more of epoch 2 -/
def lin2 (m c : Int) : List Sp := lin1 m ++ (if c = 0 then [] else [⟨2, m + 1, m + c⟩])
theorem lin1_ok (i : Int) (h : 0 ≤ i ∧ i ≤ 100) : CorF 0 0 (lin1 i) ∧ (hdS (lin1 i)).e ≤ 1 ∧ (hdS (lin1 i)).t = i ∧ (lin1 i).length ≤ 1 := by
  unfold lin1
  split
  · rename_i h0
    subst h0
    exact ⟨trivial, by simp [hdS], rfl, by simp⟩
  · exact ⟨⟨by simp, by dsimp only; omega, by dsimp only; omega, by simp, by simp, by simp, trivial⟩, by simp [hdS], rfl, by simp⟩
theorem ext1 (i : Int) (h : 0 ≤ i) : ExtR (lin1 i) (lin1 (i + 1)) 1 i (i + 1) := by
  unfold lin1
  rw [if_neg (show ¬ i + 1 = 0 by omega)]
  split
  · rename_i h0
    subst h0
    exact .inl ⟨.inl rfl, rfl⟩
  · exact .inr ⟨[], ⟨1, 1, i⟩, rfl, rfl, rfl⟩
theorem lin2_ok (m c : Int) (h : 0 ≤ m ∧ m ≤ 100) (h' : 0 ≤ c ∧ c ≤ 100) : CorF 0 0 (lin2 m c) ∧ (hdS (lin2 m c)).e ≤ 2 ∧ (hdS (lin2 m c)).t = m + c ∧ (lin2 m c).length ≤ 2 := by
  by_cases hm : m = 0
  · by_cases hc : c = 0
    · subst hm hc
      exact ⟨trivial, by simp [lin2, lin1, hdS], rfl, by simp [lin2, lin1]⟩
    · subst hm
      have e : lin2 0 c = [⟨2, 0 + 1, 0 + c⟩] := by simp [lin2, lin1, hc]
      rw [e]
      exact ⟨⟨by simp, by dsimp only; omega, by dsimp only; omega, by simp, by simp, by simp, trivial⟩, by simp [hdS], rfl, by simp⟩
  · by_cases hc : c = 0
    · subst hc
      have e : lin2 m 0 = [⟨1, 1, m⟩] := by simp [lin2, lin1, hm]
      rw [e]
      exact ⟨⟨by simp, by dsimp only; omega, by dsimp only; omega, by simp, by simp, by simp, trivial⟩, by simp [hdS], by simp [hdS], by simp⟩
    · have e : lin2 m c = [⟨1, 1, m⟩, ⟨2, m + 1, m + c⟩] := by simp [lin2, lin1, hm, hc]
      rw [e]
      exact ⟨⟨by simp, by dsimp only; omega, by dsimp only; omega, by simp, by simp, by simp, by simp, by dsimp only; omega, by dsimp only; omega, by simp, by simp, by simp, trivial⟩, by simp [hdS], by simp [hdS], by simp⟩
theorem anc12 (n m c : Int) (h : 0 ≤ m ∧ m ≤ n) : (ancL (lin1 n) (lin2 m c)).1 = m := by
  by_cases hm : m = 0
  · subst hm
    by_cases hc : c = 0
    · subst hc
      simp [lin2, lin1, ancL, ancF_right]
    · by_cases hn : n = 0
      · simp [lin2, lin1, hc, hn, ancL, ancF]
      · simp [lin2, lin1, hc, hn, ancL, ancF]
  · have hn : ¬ n = 0 := by omega
    by_cases hc : c = 0
    · simp only [lin2, lin1, hm, hc, hn, if_false, if_true, List.append_nil, ancL, ancF]
      split <;> (try simp) <;> (try omega)
    · by_cases hnm : n = m
      · subst hnm
        simp [lin2, lin1, hm, hc, ancL, ancF]
      · simp [lin2, lin1, hm, hc, hn, hnm, ancL, ancF]
        omega
theorem ext2 (m c : Int) (h' : 0 ≤ c) : ExtR (lin2 m c) (lin2 m (c + 1)) 2 (m + c) (m + c + 1) := by
  have e1 : lin2 m (c + 1) = lin1 m ++ [⟨2, m + 1, m + c + 1⟩] := by
    unfold lin2
    rw [if_neg (show ¬ c + 1 = 0 by omega), Int.add_assoc]
  rw [e1]
  by_cases hc : c = 0
  · subst hc
    have e0 : lin2 m 0 = lin1 m := by simp [lin2]
    rw [e0]
    refine .inl ⟨?_, by simp⟩
    unfold lin1
    split
    · exact .inl rfl
    · exact .inr (by simp [hdS])
  · have e0 : lin2 m c = lin1 m ++ [⟨2, m + 1, m + c⟩] := by
      unfold lin2
      rw [if_neg hc]
    rw [e0]
    exact .inr ⟨lin1 m, ⟨2, m + 1, m + c⟩, rfl, rfl, rfl⟩
end Go.Proofs.Ythkajcioeemilaa
