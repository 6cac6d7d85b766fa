/- What the law on times says of a run. No condition. -/
import Derived.Test.YtjaoppopfeonhaaMathE
namespace Go.Proofs.Ytjaoppopfeonhaa
theorem runK_b {mi ma ra : Int} {cs : List Int} {st : List Sp} (h : 0 ≤ mi ∧ mi ≤ ma ∧ ma ≤ 100 ∧ 0 ≤ ra ∧ ra ≤ 100) (hs : st.length ≤ 20) : ∀ k, k ≤ st.length → ∀ (j : Nat) (I : Int), (runK mi ma ra cs st k).id[j]? = some I → 0 ≤ I ∧ I ≤ 28 * k := by
  intro k
  induction k with
  | zero => intro _ j I hI; simp [runK, run0] at hI
  | succ k ih =>
    intro hk j I hI
    rw [runK_succ (List.getElem?_eq_getElem (by omega))] at hI
    have hok := runK_ok (cs := cs) h hs k (by omega)
    have hi := ih (by omega)
    generalize st[k] = x at hI
    generalize runK mi ma ra cs st k = r at *
    obtain ⟨_, _, hid⟩ := step_ok hok x (by omega) h.2.2.1
    obtain ⟨a1, a2, a3, a4, a5⟩ := endR_b hok x
    have b1 := hok.now0
    have e : (stepR r k x).id = r.id ++ [endM r.l (nowR r x) (payM x.s k).length] := by rw [← hid]; rfl
    rw [e] at hI
    by_cases hj : j < r.id.length
    · rw [List.getElem?_append_left hj] at hI
      have := hi j I hI
      omega
    · rw [List.getElem?_append_right (by omega)] at hI
      have hjl := (List.getElem?_eq_some_iff.1 hI).1
      rw [List.length_singleton] at hjl
      rw [show j - r.id.length = 0 by omega] at hI
      simp at hI
      subst hI
      omega
theorem times_law {mi ma ra : Int} {n ns : Nat} {st : List Sp} {r : RunS} {now : Int} {PP : List (List Nat)} (h : OkR mi ma ra n ns r) (hF : RunF mi ma st ns r) (hb : ∀ (j : Nat) (I : Int), r.id[j]? = some I → 0 ≤ I ∧ I ≤ 100000)
    (hP : PP = (r.l.fl.take (atE (laterB now) r.l.fl)).map Em.p) : ∀ j, j < ns → ∃ T I : Int, r.tm[j]? = some T ∧ r.id[j]? = some I ∧ r.cp[j]? = some ((cntH j (r.l.fl.map Em.p) : Nat) : Int) ∧ T ≤ I ∧ 0 ≤ I ∧ I ≤ 100000 ∧ (0 < cntH j PP → I + mi ≤ now) ∧ (I + ma ≤ now → cntH j PP = cntH j (r.l.fl.map Em.p)) := by
  intro j hj
  have h1 : j < r.tm.length := by rw [h.ltm]; exact hj
  have h2 : j < r.id.length := by rw [h.lid]; exact hj
  have e2 := List.getElem?_eq_getElem h2
  obtain ⟨b1, b2⟩ := hb j _ e2
  refine ⟨r.tm[j], r.id[j], List.getElem?_eq_getElem h1, e2, hF.cnt j hj, hF.tms j _ _ (List.getElem?_eq_getElem h1) e2, b1, b2, fun h0 => ?_, fun h0 => ?_⟩
  · rw [hP] at h0
    unfold cntH at h0
    obtain ⟨p, hp, hh⟩ := List.countP_pos_iff.1 h0
    obtain ⟨e, he, rfl⟩ := List.mem_map.1 hp
    obtain ⟨he1, he2⟩ := deliv_mem h.ok he
    obtain ⟨i, x, I, g1, g2, g3, g4, g5, g6⟩ := hF.mem e he1
    rw [g3, headB_pay, beq_iff_eq] at hh
    subst hh
    rw [e2] at g4
    injection g4 with g4
    omega
  · rw [hP]
    refine deliv_cnt h.ok (fun e he hh => ?_)
    obtain ⟨i, x, I, g1, g2, g3, g4, g5, g6⟩ := hF.mem e he
    rw [g3, headB_pay, beq_iff_eq] at hh
    subst hh
    rw [e2] at g4
    injection g4 with g4
    omega
end Go.Proofs.Ytjaoppopfeonhaa
