/- The plain model of the budget, more: buckets changed one by one. No condition. -/
import Derived.Test.YtehfnanhamaenaaMath
namespace Go.Proofs.Ytehfnanhamaenaa
/-- the first k changed by f -/
def mixL (f : Bk → Bk) (l : List Bk) (k : Nat) : List Bk := (l.take k).map f ++ l.drop k
theorem mixL_zero (f : Bk → Bk) (l : List Bk) : mixL f l 0 = l := by simp [mixL]
theorem mixL_len (f : Bk → Bk) (l : List Bk) (k : Nat) : (mixL f l k).length = l.length := by simp [mixL]; omega
theorem mixL_full (f : Bk → Bk) (l : List Bk) : mixL f l l.length = l.map f := by simp [mixL]
theorem mixL_get (f : Bk → Bk) (l : List Bk) (k : Nat) (h : k < l.length) : (mixL f l k)[k]'(by rw [mixL_len]; exact h) = l[k] := by
  unfold mixL
  rw [List.getElem_append_right (by simp; omega)]
  simp only [List.length_map, List.length_take, List.getElem_drop]
  congr 1
  omega
theorem mixL_set (f : Bk → Bk) (l : List Bk) (k : Nat) (h : k < l.length) : (mixL f l k).set k (f l[k]) = mixL f l (k + 1) := by
  unfold mixL
  have e : (l.take k).map f ++ l.drop k = (l.take k).map f ++ l[k] :: l.drop (k + 1) := by rw [← List.drop_eq_getElem_cons h]
  rw [e, List.set_append, if_neg (by simp; omega)]
  have e2 : k - ((l.take k).map f).length = 0 := by simp; omega
  rw [e2, List.set_cons_zero, ← List.take_append_getElem h, List.map_append]
  simp
theorem encBs_set (l : List Bk) (k : Nat) (h : k < l.length) (b : Bk) (j : Nat) (u : Value) (hj : j < 4) (hb : (encB l[k]).set j u = encB b) : (encBs l).set (k * 4 + j) u = encBs (l.set k b) := by
  induction l generalizing k with
  | nil => simp at h
  | cons a l ih =>
    unfold encBs at *
    rw [List.flatMap_cons]
    cases k with
    | zero =>
      rw [List.set_append, if_pos (by rw [encB_len]; omega), List.set_cons_zero, List.flatMap_cons, ← hb]
      simp
    | succ k =>
      rw [List.set_append, if_neg (by rw [encB_len]; omega), encB_len, show (k + 1) * 4 + j - 4 = k * 4 + j by omega, ih k (by simpa using h) (by simpa using hb), List.set_cons_succ, List.flatMap_cons]
end Go.Proofs.Ytehfnanhamaenaa
