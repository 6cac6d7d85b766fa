/- Plain laws for the reference's Ack. No condition. -/
import Derived.Test.YtanmndhdhlmjgaaMathD
namespace Go.Proofs.Ytanmndhdhlmjgaa
open Go.RowKit
theorem selB_gt : ∀ (l : List Xm) (ack e : Int), selB ack e l = true → ∀ x ∈ l, e < x.s + x.c
  | [], _, _, _ => nofun
  | z :: l, ack, e, h => by
    rw [selB] at h
    split at h
    · cases h
    · intro x hx
      rcases List.mem_cons.1 hx with rfl | hx
      · omega
      · have := selB_gt l ack (z.s + z.c) h x hx
        omega
theorem selB_last : ∀ (l : List Xm) (ack e : Int), selB ack e l = true → ∀ x ∈ l, ∀ (h0 : l.length - 1 < l.length), x.s + x.c ≤ l[l.length - 1].s + l[l.length - 1].c
  | [], _, _, _ => nofun
  | [z], ack, e, _ => by
    intro x hx h0
    rw [List.mem_singleton] at hx
    subst hx
    exact Int.le_refl _
  | z :: z2 :: l, ack, e, h => by
    intro x hx h0
    rw [selB] at h
    split at h
    · cases h
    · have hl : (z :: z2 :: l)[(z :: z2 :: l).length - 1] = (z2 :: l)[(z2 :: l).length - 1]'(by simp) := by
        simp only [List.length_cons, Nat.add_sub_cancel]
        rfl
      rw [hl]
      rcases List.mem_cons.1 hx with rfl | hx
      · have := selB_gt (z2 :: l) ack (x.s + x.c) h _ (List.getElem_mem (by simp : (z2 :: l).length - 1 < (z2 :: l).length))
        omega
      · exact selB_last (z2 :: l) ack _ h x hx _
theorem sel_end {p : Pm} (h : chkP p = 0) (next : Int) (h0 : p.sel.length - 1 < p.sel.length) :
    (p.sel.any fun x => decide (next < x.s + x.c)) = decide (next < p.sel[p.sel.length - 1].s + p.sel[p.sel.length - 1].c) := by
  have hs : selB p.ack p.ack p.sel = true := by
    unfold chkP at h
    split at h
    · cases h
    split at h
    · cases h
    split at h
    · cases h
    · rename_i h3
      simpa using h3
  by_cases hd : next < p.sel[p.sel.length - 1].s + p.sel[p.sel.length - 1].c
  · rw [decide_eq_true hd, List.any_eq_true]
    exact ⟨_, List.getElem_mem h0, decide_eq_true hd⟩
  · rw [decide_eq_false hd, List.any_eq_false]
    intro x hx
    have := selB_last p.sel p.ack p.ack hs x hx h0
    simp only [decide_eq_true_eq]
    omega
theorem tw_eq : ∀ (l : List Om) (j : Nat), (∀ i (hi : i < l.length), i < j → l[i].ak = true) → (∀ (hj : j < l.length), l[j].ak = false) → j ≤ l.length → (l.takeWhile (·.ak)).length = j
  | [], j, _, _, hl => by simp at hl; subst hl; rfl
  | o :: l, 0, _, he, _ => by
    have := he (by simp)
    simp only [List.getElem_cons_zero] at this
    rw [List.takeWhile_cons, this]
    rfl
  | o :: l, j + 1, h, he, hl => by
    have h0 := h 0 (by simp) (by omega)
    simp only [List.getElem_cons_zero] at h0
    rw [List.takeWhile_cons, h0]
    simp only [if_true, List.length_cons]
    rw [tw_eq l j (fun i hi hj => by have := h (i + 1) (by simpa using hi) (by omega); simpa using this) (fun hj => by have := he (by simpa using hj); simpa using this) (by simpa using hl)]
end Go.Proofs.Ytanmndhdhlmjgaa
