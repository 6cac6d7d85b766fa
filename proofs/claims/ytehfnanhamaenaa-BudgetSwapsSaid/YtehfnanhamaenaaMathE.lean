/- The plain model of the budget, more: how long one waits. No condition. -/
import Derived.Test.YtehfnanhamaenaaWs
namespace Go.Proofs.Ytehfnanhamaenaa
def maxI (m t : Int) : Int := if m < t then t else m
def waitP (n : Int) (l : List Bk) : List Nat → Int → Option Int
  | [], m => some m
  | i :: p, m => if n ≤ (bkAt l i).tok then waitP n l p m else if (bkAt l i).burst < n ∨ (bkAt l i).rate = 0 then none else waitP n l p (maxI m ((n - (bkAt l i).tok + (bkAt l i).rate - 1) / (bkAt l i).rate))
def whenV (t : Int) (l : List Bk) (k n : Int) : Int × Int :=
  if findV t l k ≠ 0 then (0, findV t l k) else if n < 0 then (0, 1) else
    match waitP n l (pathL l k) 0 with
    | none => (0, 21)
    | some m => if 1073741824 - t < m then (0, 21) else (t + m, 0)
theorem waitP_drop (n : Int) (l : List Bk) (p : List Nat) (m : Int) (j : Nat) (hj : j < p.length) :
    waitP n l (p.drop j) m = if n ≤ (bkAt l p[j]).tok then waitP n l (p.drop (j + 1)) m else if (bkAt l p[j]).burst < n ∨ (bkAt l p[j]).rate = 0 then none else waitP n l (p.drop (j + 1)) (maxI m ((n - (bkAt l p[j]).tok + (bkAt l p[j]).rate - 1) / (bkAt l p[j]).rate)) := by
  rw [List.drop_eq_getElem_cons hj]
  rfl
theorem rate_bd {t : Int} {l : List Bk} (h : checkL t l = 0) (j : Nat) : 0 ≤ (bkAt l j).rate ∧ (bkAt l j).rate ≤ 1073741824 ∧ 0 ≤ (bkAt l j).burst ∧ (bkAt l j).burst ≤ 1073741824 := by
  by_cases hj : j < l.length
  · rw [bkAt_lt l j hj]
    have := chk_all h j hj
    omega
  · unfold bkAt
    rw [List.getElem?_eq_none (by omega)]
    exact ⟨by decide, by decide, by decide, by decide⟩
theorem quo_bd {a r : Int} (h0 : 0 ≤ a) (h1 : a ≤ 2147483648) (h2 : 0 < r) : 0 ≤ a / r ∧ a / r ≤ 2147483648 :=
  ⟨Int.ediv_nonneg h0 (by omega), Int.le_trans (Int.ediv_le_self r h0) h1⟩
theorem whenV_none {t k n : Int} {l : List Bk} (h : findV t l k = 0) (n0 : 0 ≤ n) (h1 : waitP n l (pathL l k) 0 = none) : whenV t l k n = (0, 21) := by
  unfold whenV
  rw [if_neg (by rw [h]; simp), if_neg (by omega), h1]
theorem whenV_some {t k n m : Int} {l : List Bk} (h : findV t l k = 0) (n0 : 0 ≤ n) (h1 : waitP n l (pathL l k) 0 = some m) : whenV t l k n = if 1073741824 - t < m then (0, 21) else (t + m, 0) := by
  unfold whenV
  rw [if_neg (by rw [h]; simp), if_neg (by omega), h1]
end Go.Proofs.Ytehfnanhamaenaa
