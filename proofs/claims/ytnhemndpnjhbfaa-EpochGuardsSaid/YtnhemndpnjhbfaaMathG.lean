/- Plain laws of a fence that is raised and shut: who is admitted, which epochs are over. No condition. -/
import Derived.Test.YtnhemndpnjhbfaaMathF
namespace Go.Proofs.Ytnhemndpnjhbfaa
open Go.RowKit
/-- an epoch that is over: not beyond the fence's, and at it only if it is closed -/
def Fen (x o : Int) (c : Bool) (ov : List Bool) : Prop := 0 ≤ x ∧ x ≤ 31 ∧ 0 ≤ o ∧ o ≤ 3 ∧ ov.length = 40 ∧ ∀ n : Nat, ov[n]? = some true → (n : Int) ≤ x ∧ ((n : Int) = x → c = true)
/-- how many are admitted so far -/
def cntF (c : Bool) (x o : Int) (n s : Nat) : Int := if c = false ∧ (x < n ∨ (x = n ∧ o < s)) then 1 else 0
theorem fen_ok {x o : Int} (h : 0 ≤ x ∧ x ≤ 31 ∧ 0 ≤ o ∧ o ≤ 3) : fenceB x o = true := by
  obtain ⟨h1, h2, h3, h4⟩ := h
  simp [fenceB, inB, siteB]
  omega
theorem Fen.ok {x o : Int} {c : Bool} {ov : List Bool} (h : Fen x o c ov) : fenceB x o = true := fen_ok ⟨h.1, h.2.1, h.2.2.1, h.2.2.2.1⟩
theorem fen_init : Fen 0 0 false (List.replicate 40 false) := by
  refine ⟨by omega, by omega, by omega, by omega, by simp, fun n h => ?_⟩
  rw [List.getElem?_replicate] at h
  split at h <;> cases h
theorem cntF_zero {c : Bool} {x o : Int} {ov : List Bool} (h : Fen x o c ov) : cntF c x o 0 0 = 0 := by
  obtain ⟨h1, _, h3, _⟩ := h
  unfold cntF
  rw [if_neg]
  rintro ⟨_, h | ⟨h1, h2⟩⟩ <;> simp at * <;> omega
theorem cntF_bd (c : Bool) (x o : Int) (n s : Nat) : 0 ≤ cntF c x o n s ∧ cntF c x o n s ≤ 1 := by
  unfold cntF
  split <;> omega
theorem cntF_next {c : Bool} {x o : Int} {ov : List Bool} (h : Fen x o c ov) (n : Nat) : cntF c x o n 4 = cntF c x o (n + 1) 0 := by
  obtain ⟨_, _, h3, h4, _⟩ := h
  unfold cntF
  cases c
  · simp only [true_and]
    by_cases hx : x < n ∨ (x = n ∧ o < ((4 : Nat) : Int))
    · rw [if_pos hx, if_pos]; left; omega
    · rw [if_neg hx, if_neg]; rintro (h | ⟨h, h'⟩) <;> apply hx <;> omega
  · simp
theorem admit_yes {x o : Int} {ov : List Bool} (h : Fen x o false ov) : admitV x o false x o = 0 := by
  rw [admitV, if_pos h.ok, if_neg (by omega), if_pos rfl]
  simp
theorem admit_no {x o : Int} {c : Bool} {ov : List Bool} {n s : Int} (h : Fen x o c ov) (hn : ¬ (c = false ∧ n = x ∧ s = o)) : ∃ v, admitV x o c n s = v ∧ (v != 0) = true := by
  refine ⟨_, rfl, ?_⟩
  rw [admitV, if_pos h.ok]
  split
  · rfl
  · split
    · split
      · next h1 h2 =>
        exfalso
        apply hn
        cases c <;> simp_all
      · rfl
    · rfl
theorem cnt_yes {x o : Int} {n s : Nat} (hx : (n : Int) = x) (ho : (s : Int) = o) : cntF false x o n s = 0 ∧ cntF false x o n (s + 1) = 1 := by
  unfold cntF
  refine ⟨by rw [if_neg (by rintro ⟨_, h⟩; omega)], by rw [if_pos ⟨rfl, by omega⟩]⟩
theorem cnt_no {x o : Int} {c : Bool} {n s : Nat} (hn : ¬ (c = false ∧ (n : Int) = x ∧ (s : Int) = o)) : cntF c x o n (s + 1) = cntF c x o n s := by
  unfold cntF
  cases c
  · simp only [true_and] at hn ⊢
    by_cases hx : x < n ∨ (x = n ∧ o < (s : Int))
    · rw [if_pos hx, if_pos (by omega)]
    · rw [if_neg hx, if_neg (by omega)]
  · simp
theorem Fen.not_over {x o : Int} {ov : List Bool} (h : Fen x o false ov) {n : Nat} (hn : (n : Int) = x) : ov[n]? = some false := by
  obtain ⟨h1, h2, _, _, h5, h6⟩ := h
  have hl : n < ov.length := by omega
  have := h6 n
  rw [List.getElem?_eq_getElem hl] at this ⊢
  cases hb : ov[n]
  · rfl
  · rw [hb] at this
    have := (this rfl).2 hn
    cases this
theorem set_true {ov : List Bool} {n m : Nat} (h : (ov.set n true)[m]? = some true) : m = n ∨ ov[m]? = some true := by
  rw [List.getElem?_set] at h
  split at h
  · next h1 => exact .inl h1.symm
  · exact .inr h
theorem Fen.mark {x o : Int} {c : Bool} {ov : List Bool} (h : Fen x o c ov) {n : Nat} (hn : (n : Int) < x) : Fen x o c (ov.set n true) := by
  obtain ⟨h1, h2, h3, h4, h5, h6⟩ := h
  refine ⟨h1, h2, h3, h4, by simpa using h5, fun m hm => ?_⟩
  rcases set_true hm with rfl | hm
  · exact ⟨by omega, fun h => by omega⟩
  · exact h6 m hm
theorem Fen.shut {x o : Int} {c : Bool} {ov : List Bool} (h : Fen x o c ov) {n : Nat} (hn : x ≤ n) (hn2 : n ≤ 31) : Fen n o true (ov.set n true) := by
  obtain ⟨h1, h2, h3, h4, h5, h6⟩ := h
  refine ⟨by omega, by omega, h3, h4, by simpa using h5, fun m hm => ⟨?_, fun _ => rfl⟩⟩
  rcases set_true hm with rfl | hm
  · omega
  · have := (h6 m hm).1; omega
theorem Fen.raise {x o : Int} {c : Bool} {ov : List Bool} (h : Fen x o c ov) {n s : Nat} (hn : x < n) (hn2 : n ≤ 31) (hs : s ≤ 3) : Fen n s false ov := by
  obtain ⟨h1, h2, h3, h4, h5, h6⟩ := h
  refine ⟨by omega, by omega, by omega, by omega, h5, fun m hm => ?_⟩
  have := (h6 m hm).1
  exact ⟨by omega, fun h => by omega⟩
theorem Fen.shutV_eq {x o : Int} {c : Bool} {ov : List Bool} (h : Fen x o c ov) {n : Nat} (hn2 : n ≤ 31) : shutV x o n = if x ≤ (n : Int) then 0 else 13 := by
  rw [shutV, if_pos h.ok, if_pos (by simp [inB]; omega)]
theorem Fen.raiseV_eq {x o : Int} {c : Bool} {ov : List Bool} (h : Fen x o c ov) {n s : Nat} (hn2 : n ≤ 31) (hs : s ≤ 3) : raiseV x o n s = if x < (n : Int) then 0 else 13 := by
  rw [raiseV, if_pos h.ok, if_pos (fen_ok (by omega))]
end Go.Proofs.Ytnhemndpnjhbfaa
