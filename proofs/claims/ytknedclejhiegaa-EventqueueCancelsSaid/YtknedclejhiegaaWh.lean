/- The walks of slices.Insert and slices.Delete at rows of their own. Conditions: one element is put in or taken out, at most 10000 elements. -/
import Derived.Test.YtknedclejhiegaaWd
import Derived.Test.YtknedclejhiegaaLibZ
import Derived.StillTailTactics
namespace Go.Proofs.Ytknedclejhiegaa
open Go.RowKit
theorem ins_room {cur xs us : List Value} {n q : Nat} (hx : cur.take (n * 5) = xs) (hl : (n + 1) * 5 ≤ cur.length) (hq : q < n) (hus : us.length = 5) (r1 r2 : List Value)
    (h1 : cur.take ((q + 1) * 5) ++ xs.drop (q * 5) ++ cur.drop ((q + 1) * 5 + (xs.drop (q * 5)).length) = r1) (h2 : r1.take (q * 5) ++ us ++ r1.drop (q * 5 + us.length) = r2) :
    r2.length = cur.length ∧ r2.take ((n + 1) * 5) = xs.take (q * 5) ++ us ++ xs.drop (q * 5) := by
  have hxl : xs.length = n * 5 := by rw [← hx, List.length_take]; omega
  have hl1 : r1.length = cur.length := by rw [← h1]; simp [hxl]; omega
  refine ⟨by rw [← h2]; simp [hl1, hus]; omega, ?_⟩
  apply List.ext_getElem?
  intro j
  rw [← h2, ← h1, ← hx]
  simp only [List.getElem?_take, List.getElem?_append, List.getElem?_drop, List.length_take, List.length_append, List.length_drop, hus]
  repeat' split
  all_goals first
    | rfl
    | omega
    | (congr 1; omega)
    | (rw [List.getElem?_eq_none (by omega)])
    | (rw [eq_comm, List.getElem?_eq_none (by omega)])
theorem ins_new {row xs us : List Value} {n q : Nat} (hx : row.take (q * 5) = xs.take (q * 5)) (hxl : xs.length = n * 5) (hl : (n + 1) * 5 ≤ row.length) (hq : q < n) (hus : us.length = 5) (r1 r2 : List Value)
    (h1 : row.take (q * 5) ++ us ++ row.drop (q * 5 + us.length) = r1) (h2 : r1.take ((q + 1) * 5) ++ xs.drop (q * 5) ++ r1.drop ((q + 1) * 5 + (xs.drop (q * 5)).length) = r2) :
    r2.length = row.length ∧ r2.take ((n + 1) * 5) = xs.take (q * 5) ++ us ++ xs.drop (q * 5) := by
  have hl1 : r1.length = row.length := by rw [← h1]; simp [hus]; omega
  refine ⟨by rw [← h2]; simp [hl1, hxl]; omega, ?_⟩
  rw [← hx]
  apply List.ext_getElem?
  intro j
  rw [← h2, ← h1]
  simp only [List.getElem?_take, List.getElem?_append, List.getElem?_drop, List.length_take, List.length_append, List.length_drop, hus, hxl]
  repeat' split
  all_goals first
    | rfl
    | omega
    | (congr 1; omega)
    | (rw [List.getElem?_eq_none (by omega)])
    | (rw [eq_comm, List.getElem?_eq_none (by omega)])
theorem del_room {cur xs zs : List Value} {n q : Nat} (hx : cur.take (n * 5) = xs) (hl : n * 5 ≤ cur.length) (hq : q < n) (hzs : zs.length = 5) (r1 r2 : List Value)
    (h1 : cur.take (q * 5) ++ xs.drop ((q + 1) * 5) ++ cur.drop (q * 5 + (xs.drop ((q + 1) * 5)).length) = r1) (h2 : r1.take ((n - 1) * 5) ++ zs ++ r1.drop ((n - 1) * 5 + zs.length) = r2) :
    r2.length = cur.length ∧ r2.take ((n - 1) * 5) = xs.take (q * 5) ++ xs.drop ((q + 1) * 5) := by
  have hxl : xs.length = n * 5 := by rw [← hx, List.length_take]; omega
  have hl1 : r1.length = cur.length := by rw [← h1]; simp [hxl]; omega
  refine ⟨by rw [← h2]; simp [hl1, hzs]; omega, ?_⟩
  apply List.ext_getElem?
  intro j
  rw [← h2, ← h1, ← hx]
  simp only [List.getElem?_take, List.getElem?_append, List.getElem?_drop, List.length_take, List.length_append, List.length_drop, hzs]
  repeat' split
  all_goals first
    | rfl
    | omega
    | (congr 1; omega)
    | (rw [List.getElem?_eq_none (by omega)])
    | (rw [eq_comm, List.getElem?_eq_none (by omega)])
end Go.Proofs.Ytknedclejhiegaa
