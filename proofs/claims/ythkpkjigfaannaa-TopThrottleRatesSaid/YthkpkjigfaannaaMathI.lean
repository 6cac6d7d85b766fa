/- Plain laws of TopThrottlePlanned: what the plan bounds, the throttle admits. No condition. -/
import Derived.Test.YthkpkjigfaannaaMathH
namespace Go.Proofs.Ythkpkjigfaannaa
open Go.RowKit
/-- the end of the transfer of the first k cycles, each of one tick -/
def endP (ws : List Int) (r : Int) : Nat → Int
  | 0 => 0
  | k + 1 => max ((k : Int) + 1) (endP ws r k) + (ws.getD k 0 + r - 1) / r
/-- the bound of the plan -/
def boundP (ws : List Int) (r : Int) : Nat → Int
  | 0 => 0
  | k + 1 => max (if k = 0 ∨ endP ws r k < endP ws r (k + 1) then max (boundP ws r k) (endP ws r (k + 1) - 1 - k) else boundP ws r k) (endP ws r (k + 1) - (k + 1))
theorem endP_ge (ws : List Int) (r : Int) (hw : ∀ k, 0 ≤ ws.getD k 0) (hr : 1 ≤ r) : ∀ k : Nat, (k : Int) ≤ endP ws r k
  | 0 => by show ((0 : Nat) : Int) ≤ 0; omega
  | k + 1 => by
    have h1 : 0 ≤ (ws.getD k 0 + r - 1) / r := Int.ediv_nonneg (by have := hw k; omega) (by omega)
    show ((k + 1 : Nat) : Int) ≤ max ((k : Int) + 1) (endP ws r k) + (ws.getD k 0 + r - 1) / r
    omega
theorem boundP_mono (ws : List Int) (r : Int) (k : Nat) : boundP ws r k ≤ boundP ws r (k + 1) := by
  rw [boundP]
  split <;> omega
theorem boundP_le (ws : List Int) (r : Int) (k : Nat) : ∀ j, endP ws r (k + 1) - (k + 1) ≤ boundP ws r (k + 1 + j)
  | 0 => by rw [Nat.add_zero, boundP]; omega
  | j + 1 => Int.le_trans (boundP_le ws r k j) (boundP_mono ws r _)
theorem getD_range {ws : List Int} (hw : ∀ x ∈ ws, 0 ≤ x ∧ x ≤ 60) (k : Nat) : 0 ≤ ws.getD k 0 ∧ ws.getD k 0 ≤ 60 := by
  by_cases hk : k < ws.length
  · rw [List.getD_eq_getElem?_getD, List.getElem?_eq_getElem hk]
    exact hw _ (List.getElem_mem hk)
  · rw [List.getD_eq_getElem?_getD, List.getElem?_eq_none (by omega)]
    exact ⟨by decide, by decide⟩
theorem cdiv_mul {w r : Int} (hr : 1 ≤ r) : w ≤ r * ((w + r - 1) / r) := by
  have h2 := Int.lt_ediv_add_one_mul_self (w + r - 1) (show 0 < r by omega)
  rw [Int.add_mul, Int.one_mul, Int.mul_comm] at h2
  omega
/-- what the plan says of the throttle at the beginning of a tick -/
structure PlanOk (ws : List Int) (o r : Int) (k : Nat) (s : Rn) : Prop where
  ok : RunOk ws o r k s
  q : s.q = []
  free : s.free = true
  b : backV s.T ≤ r * (endP ws r k - k)
theorem PlanOk.tick {ws : List Int} {o r : Int} {k : Nat} {s : Rn} (h : PlanOk ws o r k s) (hk : k ≤ 800) (hws : ws.length ≤ 40) (hw : ∀ x ∈ ws, 0 ≤ x ∧ x ≤ 60) (hr : 1 ≤ r) (ho : 1 ≤ o) (hB : endP ws r (k + 1) - (k + 1) ≤ o) : PlanOk ws o r (k + 1) (tickR ws r k s) := by
  have hok := h.ok.tick hk hws hw hr ho
  obtain ⟨l', b', L, total, i, e1, e2, e3⟩ := h.ok.prog hk hws hr
  obtain ⟨L0, t0, i0, h1, h2⟩ := h.ok.kp
  have g1 := h.ok.back
  have g2 := h.b
  have g3 := getD_range hw k
  have g4 := endP_ge ws r (fun j => (getD_range hw j).1) hr k
  have g5 := cdiv_mul (w := ws.getD k 0) hr
  have g6 : endP ws r (k + 1) = max ((k : Int) + 1) (endP ws r k) + (ws.getD k 0 + r - 1) / r := rfl
  obtain ⟨c, hc⟩ : ∃ c, (ws.getD k 0 + r - 1) / r = c := ⟨_, rfl⟩
  obtain ⟨M, hM⟩ : ∃ M, max ((k : Int) + 1) (endP ws r k) = M := ⟨_, rfl⟩
  rw [hc] at g5 g6
  rw [hM] at g6
  -- what is open behind the confirmation
  have g7 : b' = backV s.T - min r (backV s.T) := by
    have a1 := e2.ac.tot
    have a2 := h1.ac.tot
    have a3 := h1.ac.back0
    have a4 : b' = total - (s.conf + min r (backV s.T)) := e2.ac.fb
    have a5 : totM l' = total := a1
    have a6 : total = t0 := by
      obtain ⟨l2, f1, f2⟩ := h1.tick' (now' := k) (conf' := s.conf + min r (backV s.T)) (by omega) (by omega) (by rw [a3]; have := h1.ac.c0; omega) hr
      rw [e1] at f1
      injection f1 with f1 _
      injection f1 with _ _ _ f1 f3
      have a7 : totM l2 = t0 := f2.ac.tot
      rw [← f3] at a7
      omega
    omega
  have g8 : r * (M - (k + 1)) + r * c = r * (endP ws r (k + 1) - (k + 1)) := by
    rw [g6, ← Int.mul_add]
    congr 1
    omega
  have g9 : b' ≤ r * (M - (k + 1)) := by
    by_cases hE : endP ws r k = k
    · have e4 : M = k + 1 := by omega
      rw [hE, Int.sub_self, Int.mul_zero] at g2
      rw [e4, Int.sub_self, Int.mul_zero]
      omega
    · have e4 : M = endP ws r k := by omega
      have e5 : r * (endP ws r k - k) = r * (M - (k + 1)) + r := by
        rw [e4, show endP ws r k - k = (endP ws r k - (k + 1)) + 1 by omega, Int.mul_add, Int.mul_one]
      have e6 : 0 ≤ r * (M - (k + 1)) := Int.mul_nonneg (by omega) (by omega)
      omega
  have g10 : r * (endP ws r (k + 1) - (k + 1)) ≤ r * o := Int.mul_le_mul_of_nonneg_left hB (by omega)
  have g11 : ((k + 1 : Nat) : Int) = (k : Int) + 1 := by omega
  have e4 : total - (s.conf + min r (backV s.T)) = b' := e2.ac.fb.symm
  refine ⟨hok, ?_, ?_, ?_⟩
  all_goals
    unfold tickR askR
    dsimp only
    rw [e1, h.q, h.free]
    by_cases hx : 0 < ws.getD k 0
    · rw [if_pos hx, List.nil_append]
      rcases e2.write (by omega) (k := ws.getD k 0) ⟨by omega, by omega⟩ hr with ⟨q1, _⟩ | ⟨_, l2, L2, e, h'⟩ | ⟨q1, _⟩
      · exfalso
        have : 0 ≤ r * (M - (k + 1)) := Int.mul_nonneg (by omega) (by omega)
        omega
      · rw [admW, e, if_neg (show ¬ (0 : Int) = 21 by decide), if_neg (show ¬ (0 : Int) < 0 by decide)]
        first
          | rfl
          | (show backV _ ≤ _
             dsimp only [admW]
             rw [h'.ac.back0, g11]
             omega)
      · exfalso; omega
    · rw [if_neg hx]
      first
        | rfl
        | (show backV _ ≤ _
           dsimp only [admW]
           rw [e2.ac.back0, g11]
           omega)
theorem runN_plan {ws : List Int} {o r : Int} (hws : ws.length ≤ 40) (hw : ∀ x ∈ ws, 0 ≤ x ∧ x ≤ 60) (hr : 1 ≤ r ∧ r ≤ 1000) (ho : 1 ≤ o ∧ o ≤ 1000) (hB : boundP ws r ws.length ≤ o) : ∀ k, k ≤ ws.length → PlanOk ws o r k (runN ws o r k)
  | 0, _ => ⟨runN_ok hws hw hr ho (Int.mul_nonneg (by omega) (by omega)) 0 (by omega), rfl, rfl, by
      have e : backV (runN ws o r 0).T = 0 := by
        show (if _ then (0 : Int) else 0) = 0
        split <;> rfl
      rw [e]
      show 0 ≤ r * ((0 : Int) - ((0 : Nat) : Int))
      exact Int.mul_nonneg (by omega) (by omega)⟩
  | k + 1, hk => (runN_plan hws hw hr ho hB k (by omega)).tick (by omega) hws hw hr.1 ho.1 (by
      have h1 := boundP_le ws r k (ws.length - (k + 1))
      rw [show k + 1 + (ws.length - (k + 1)) = ws.length by omega] at h1
      omega)
/-- the law: no write waits, and none grows older than the objective -/
theorem run_planned {ws : List Int} {o r : Int} (hws : ws.length ≤ 40) (hw : ∀ x ∈ ws, 0 ≤ x ∧ x ≤ 60) (hr : 1 ≤ r ∧ r ≤ 1000) (ho : 1 ≤ o ∧ o ≤ 1000) (hB : boundP ws r ws.length ≤ o) : (runN ws o r (4 * ws.length + 400)).free = true ∧ (runN ws o r (4 * ws.length + 400)).old ≤ o := by
  have h1 := runN_plan hws hw hr ho hB ws.length (Nat.le_refl _)
  have h2 := runN_idle (Nat.le_refl _) h1.q (3 * ws.length + 400)
  rw [show ws.length + (3 * ws.length + 400) = 4 * ws.length + 400 by omega] at h2
  exact ⟨h2.2.trans h1.free, (runN_ok hws hw hr ho (Int.mul_nonneg (by omega) (by omega)) _ (by omega)).old⟩
theorem run_old {ws : List Int} {o r : Int} (hws : ws.length ≤ 40) (hw : ∀ x ∈ ws, 0 ≤ x ∧ x ≤ 60) (hr : 1 ≤ r ∧ r ≤ 1000) (ho : 1 ≤ o ∧ o ≤ 1000) : (runN ws o r (4 * ws.length + 400)).old ≤ o :=
  (runN_ok hws hw hr ho (Int.mul_nonneg (by omega) (by omega)) _ (by omega)).old
/-- the first example of the law -/
theorem run_six : (runN [6] 3 2 404).free = true ∧ (runN [6] 3 2 404).old ≤ 3 :=
  run_planned (ws := [6]) (o := 3) (r := 2) (by decide) (by intro x hx; simp at hx; omega) (by decide) (by decide) (by decide)
/-- the second -/
theorem run_more : (runN [6, 1, 5] 3 2 412).free = false ∧ (runN [6, 1, 5] 3 2 412).old ≤ 3 :=
  ⟨runN_false (k := 3) (by decide) 409, run_old (ws := [6, 1, 5]) (o := 3) (r := 2) (by decide) (by intro x hx; simp at hx; omega) (by decide) (by decide)⟩
end Go.Proofs.Ythkpkjigfaannaa
