/- The plain model of the budget, more: what is taken along a path. No condition. -/
import Derived.Test.YtehfnanhamaenaaWp
namespace Go.Proofs.Ytehfnanhamaenaa
def takeB (n : Int) (b : Bk) : Bk := { b with tok := b.tok - n }
def takeP (n : Int) (l : List Bk) (p : List Nat) : List Bk := p.foldl (fun l i => l.set i (takeB n (bkAt l i))) l
theorem takeP_nil (n : Int) (l : List Bk) : takeP n l [] = l := rfl
theorem takeP_snoc (n : Int) (l : List Bk) (p : List Nat) (i : Nat) : takeP n l (p ++ [i]) = (takeP n l p).set i (takeB n (bkAt (takeP n l p) i)) := by
  unfold takeP
  rw [List.foldl_append]
  rfl
theorem takeP_len (n : Int) (p : List Nat) : ∀ l : List Bk, (takeP n l p).length = l.length := by
  induction p with
  | nil => intro l; rfl
  | cons i p ih =>
    intro l
    show (takeP n (l.set i (takeB n (bkAt l i))) p).length = _
    rw [ih, List.length_set]
theorem bkAt_set (l : List Bk) (i : Nat) (b : Bk) (j : Nat) : bkAt (l.set i b) j = if i = j ∧ j < l.length then b else bkAt l j := by
  unfold bkAt
  rw [List.getElem?_set]
  by_cases h : i = j
  · subst h
    by_cases h2 : i < l.length
    · simp [h2]
    · simp [h2]
  · simp [h]
theorem takeP_par (n : Int) (p : List Nat) : ∀ (l : List Bk) (j : Nat), (bkAt (takeP n l p) j).par = (bkAt l j).par ∧ (bkAt (takeP n l p) j).rate = (bkAt l j).rate ∧ (bkAt (takeP n l p) j).burst = (bkAt l j).burst := by
  induction p with
  | nil => intro l j; exact ⟨rfl, rfl, rfl⟩
  | cons i p ih =>
    intro l j
    have := ih (l.set i (takeB n (bkAt l i))) j
    rw [bkAt_set] at this
    split at this
    · rename_i h
      obtain ⟨rfl, _⟩ := h
      exact this
    · exact this
theorem takeP_bd (n : Int) (h0 : 0 ≤ n) (h1 : n ≤ 1073741824) (p : List Nat) : ∀ (l : List Bk) (lo : Int), (∀ j, lo ≤ (bkAt l j).tok ∧ (bkAt l j).tok ≤ 1073741824) → ∀ j, lo - p.length * 1073741824 ≤ (bkAt (takeP n l p) j).tok ∧ (bkAt (takeP n l p) j).tok ≤ 1073741824 := by
  induction p with
  | nil =>
    intro l lo h j
    have := h j
    rw [takeP_nil]
    exact ⟨by simp; omega, this.2⟩
  | cons i p ih =>
    intro l lo h j
    have := ih (l.set i (takeB n (bkAt l i))) (lo - 1073741824) (fun q => by
      rw [bkAt_set]
      split
      · have := h i
        exact ⟨by simp [takeB]; omega, by simp [takeB]; omega⟩
      · have := h q
        exact ⟨by omega, this.2⟩) j
    refine ⟨?_, this.2⟩
    have h3 := this.1
    rw [List.length_cons]
    exact Int.le_trans (by omega) h3
theorem takeP_far (n : Int) (p : List Nat) : ∀ (l : List Bk) (j : Nat), j ∉ p → bkAt (takeP n l p) j = bkAt l j := by
  induction p with
  | nil => intro l j _; rfl
  | cons i p ih =>
    intro l j hj
    rw [List.mem_cons] at hj
    have := ih (l.set i (takeB n (bkAt l i))) j (fun h => hj (.inr h))
    rw [bkAt_set, if_neg (fun h => hj (.inl h.1.symm))] at this
    exact this
theorem tok_bd {t : Int} {l : List Bk} (h : checkL t l = 0) (j : Nat) : 0 ≤ (bkAt l j).tok ∧ (bkAt l j).tok ≤ 1073741824 := by
  by_cases hj : j < l.length
  · rw [bkAt_lt l j hj]
    have := chk_all h j hj
    omega
  · unfold bkAt
    rw [List.getElem?_eq_none (by omega)]
    exact ⟨by decide, by decide⟩
theorem availP_le (l : List Bk) (p : List Nat) : ∀ m, availP l m p ≤ m := by
  induction p with
  | nil => intro m; exact Int.le_refl _
  | cons i p ih =>
    intro m
    have := ih (minI m (bkAt l i).tok)
    have h2 : minI m (bkAt l i).tok ≤ m := by unfold minI; split <;> omega
    exact Int.le_trans this h2
theorem availL_le {t : Int} {l : List Bk} (h : checkL t l = 0) (k : Nat) : availL l k ≤ 1073741824 := by
  have h1 := availP_le l (pathL l k) (bkAt l k).tok
  have h2 := tok_bd h k
  unfold availL
  omega
def takV (t : Int) (l : List Bk) (k n : Int) : BR :=
  if findV t l k ≠ 0 then ⟨0, [], findV t l k⟩ else if n < 0 then ⟨0, [], 1⟩ else if availL l k.toNat < n then ⟨0, [], 16⟩ else ⟨t, takeP n l (pathL l k), 0⟩
end Go.Proofs.Ytehfnanhamaenaa
