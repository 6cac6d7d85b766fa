/- The plain model of the budget: buckets, their order, paths. No condition. -/
import Derived.WalkKit
namespace Go.Proofs.Ytehfnanhamaenaa
structure Bk where
  par : Int
  rate : Int
  burst : Int
  tok : Int
def encB (b : Bk) : List Value := [.int .i64 b.par, .int .i64 b.rate, .int .i64 b.burst, .int .i64 b.tok]
def encBs (l : List Bk) : List Value := l.flatMap encB
def chkB (b : Bk) (i : Int) : Int :=
  if b.par < -1 ∨ i ≤ b.par then 7
  else if b.rate < 0 ∨ 1073741824 < b.rate ∨ b.burst < 0 ∨ 1073741824 < b.burst ∨ b.tok < 0 ∨ b.burst < b.tok then 2 else 0
def firstE : List Bk → Nat → Int
  | [], _ => 0
  | b :: l, i => if chkB b i = 0 then firstE l (i + 1) else chkB b i
def checkL (t : Int) (l : List Bk) : Int := if 64 < l.length then 6 else if t < 0 ∨ 1073741824 < t then 24 else firstE l 0
theorem encB_len (b : Bk) : (encB b).length = 4 := rfl
theorem encBs_len (l : List Bk) : (encBs l).length = l.length * 4 := by
  induction l with
  | nil => rfl
  | cons b l ih => unfold encBs at *; rw [List.flatMap_cons, List.length_append, ih, encB_len, List.length_cons]; omega
theorem encBs_at (l : List Bk) (k j : Nat) (hk : k < l.length) (hj : j < 4) : (encBs l)[k * 4 + j]? = (encB l[k])[j]? := by
  induction l generalizing k with
  | nil => simp at hk
  | cons b l ih =>
    unfold encBs at *
    rw [List.flatMap_cons]
    cases k with
    | zero => rw [List.getElem?_append_left (by rw [encB_len]; omega)]; simp
    | succ k =>
      rw [List.getElem?_append_right (by rw [encB_len]; omega), encB_len, show (k + 1) * 4 + j - 4 = k * 4 + j by omega, ih k (by simpa using hk)]
      simp
theorem firstE_drop (l : List Bk) (k : Nat) (hk : k < l.length) : firstE (l.drop k) k = if chkB l[k] k = 0 then firstE (l.drop (k + 1)) (k + 1) else chkB l[k] k := by
  rw [List.drop_eq_getElem_cons hk]
  rfl
theorem firstE_zero {l : List Bk} {i : Nat} (h : firstE l i = 0) : ∀ k, (hk : k < l.length) → chkB l[k] ((i + k : Nat) : Int) = 0 := by
  induction l generalizing i with
  | nil => intro k hk; simp at hk
  | cons b l ih =>
    intro k hk
    unfold firstE at h
    by_cases c : chkB b i = 0
    · rw [if_pos c] at h
      cases k with
      | zero => exact c
      | succ k =>
        have := ih h k (by simpa using hk)
        rw [show i + (k + 1) = i + 1 + k by omega]
        exact this
    · rw [if_neg c] at h
      exact absurd h c
end Go.Proofs.Ytehfnanhamaenaa
