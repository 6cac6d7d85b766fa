/- The plain law of a lineage's check. No condition. -/
import Derived.Test.YtnhemndpnjhbfaaWk
namespace Go.Proofs.Ytnhemndpnjhbfaa
open Go.RowKit
/-- the error of a span behind another -/
def chkS (p s : Span) : Int :=
  if inB s.e 1 && inB s.f 1 && inB s.t 1 then (if s.f ≤ s.t then (if s.f = p.t + 1 then (if p.e < s.e then 0 else 13) else 15) else 3) else 2
/-- the error of a lineage behind a span -/
def linE (p : Span) : List Span → Int
  | [] => 0
  | s :: l => if chkS p s = 0 then linE s l else chkS p s
def lineageE (l : List Span) : Int := linE ⟨0, 0, 0⟩ l
theorem linE_drop (l : List Span) (k : Nat) (h : k < l.length) : linE (prevS l k) (l.drop k) = if chkS (prevS l k) (atS l k) = 0 then linE (prevS l (k + 1)) (l.drop (k + 1)) else chkS (prevS l k) (atS l k) := by
  have ha : atS l k = l[k] := by simp [atS, h]
  rw [List.drop_eq_getElem_cons h, prevS_succ, ha]
  rfl
theorem chkS_zero {p s : Span} (h : chkS p s = 0) : 1 ≤ s.e ∧ s.e ≤ 1073741824 ∧ 1 ≤ s.f ∧ s.f ≤ s.t ∧ s.t ≤ 1073741824 ∧ s.f = p.t + 1 ∧ p.e < s.e := by
  unfold chkS at h
  (repeat' split at h) <;> simp_all [inB]
  all_goals omega
end Go.Proofs.Ytnhemndpnjhbfaa
