/- What the reference's Receive reckons. No condition. -/
import Derived.Test.YtanmndhdhlmjgaaWm
namespace Go.Proofs.Ytanmndhdhlmjgaa
/-- one early payload goes through the list in the making -/
def stepA (p : Pm) (st : List Am × Bool) (x : Am) : List Am × Bool :=
  if st.2 = true ∧ x.seq ≠ p.seq ∧ p.seq < x.seq then (st.1 ++ [⟨p.seq, p.p⟩] ++ [x], false) else (st.1 ++ [x], st.2 && !(x.seq == p.seq))
def finA (p : Pm) (st : List Am × Bool) : List Am := if st.2 = true then st.1 ++ [⟨p.seq, p.p⟩] else st.1
def keep0 (r : Rm) (p : Pm) : Bool := decide (p.kind = 0 ∧ r.next ≤ p.seq ∧ p.seq < r.next + r.lim ∧ p.seq < 1073741824)
def stA (r : Rm) (p : Pm) (k : Nat) : List Am × Bool := (r.early.take k).foldl (stepA p) ([], keep0 r p)
def allR (r : Rm) (p : Pm) : List Am := finA p (stA r p r.early.length)
theorem stepA_false (p : Pm) : ∀ (l acc : List Am), l.foldl (stepA p) (acc, false) = (acc ++ l, false)
  | [], acc => by simp
  | x :: l, acc => by
    rw [List.foldl_cons]
    have h : stepA p (acc, false) x = (acc ++ [x], false) := by unfold stepA; simp
    rw [h, stepA_false p l]
    simp
theorem stepA_true (p : Pm) : ∀ (l acc : List Am), finA p (l.foldl (stepA p) (acc, true)) = acc ++ insA ⟨p.seq, p.p⟩ l
  | [], acc => by simp [finA, insA]
  | x :: l, acc => by
    rw [List.foldl_cons, insA]
    by_cases h1 : x.seq < p.seq
    · have h : stepA p (acc, true) x = (acc ++ [x], true) := by
        unfold stepA
        rw [if_neg (by rintro ⟨_, _, h⟩; omega)]
        have : (x.seq == p.seq) = false := by rw [beq_eq_false_iff_ne]; omega
        simp [this]
      rw [h, stepA_true p l, if_pos h1]
      simp
    · by_cases h2 : x.seq = p.seq
      · have h : stepA p (acc, true) x = (acc ++ [x], false) := by
          unfold stepA
          rw [if_neg (by rintro ⟨_, h, _⟩; exact h h2)]
          simp [h2]
        rw [h, stepA_false, if_neg h1, if_pos h2]
        simp [finA]
      · have h : stepA p (acc, true) x = (acc ++ [⟨p.seq, p.p⟩] ++ [x], false) := by
          unfold stepA
          rw [if_pos ⟨rfl, h2, by omega⟩]
        rw [h, stepA_false, if_neg h1, if_neg h2]
        simp [finA]
theorem allR_eq (r : Rm) (p : Pm) : allR r p = (if p.kind = 0 then keepR r p else r).early := by
  unfold allR stA
  rw [List.take_length]
  by_cases hk : keep0 r p = true
  · rw [hk, stepA_true, List.nil_append]
    unfold keep0 at hk
    have hk := of_decide_eq_true hk
    rw [if_pos hk.1]
    unfold keepR
    rw [if_neg (by omega)]
  · rw [Bool.not_eq_true] at hk
    rw [hk, stepA_false, List.nil_append]
    unfold keep0 at hk
    have hk := of_decide_eq_false hk
    simp only [finA]
    rw [if_neg (by simp)]
    split
    · rename_i h0
      unfold keepR
      rw [if_pos (by omega)]
    · rfl
theorem stA_succ (r : Rm) (p : Pm) {k : Nat} (hk : k < r.early.length) : stA r p (k + 1) = stepA p (stA r p k) r.early[k] := by
  unfold stA
  rw [List.take_succ_eq_append_getElem hk, List.foldl_append]
  rfl
theorem stepA_len (p : Pm) (st : List Am × Bool) (x : Am) : (stepA p st x).1.length + (if (stepA p st x).2 then 1 else 0) ≤ st.1.length + (if st.2 then 1 else 0) + 1 := by
  unfold stepA
  split
  · rename_i h
    simp [h.1]
  · simp only [List.length_append, List.length_singleton]
    cases st.2 <;> simp <;> (try split) <;> omega
theorem stA_len (r : Rm) (p : Pm) : ∀ k, k ≤ r.early.length → (stA r p k).1.length + (if (stA r p k).2 then 1 else 0) ≤ k + 1
  | 0, _ => by unfold stA; cases keep0 r p <;> simp
  | k + 1, h => by
    rw [stA_succ r p (by omega)]
    have h1 := stepA_len p (stA r p k) r.early[k]
    have h2 := stA_len r p k (by omega)
    omega
/-- one payload is delivered, or waits -/
def stepD (st : List (List Nat) × Int × List Am) (x : Am) : List (List Nat) × Int × List Am :=
  if x.seq = st.2.1 then (st.1 ++ [x.p], st.2.1 + 1, st.2.2) else (st.1, st.2.1, st.2.2 ++ [x])
theorem stepD_none (n : Int) (d : List (List Nat)) : ∀ (l e : List Am), (∀ b ∈ l, n < b.seq) → l.foldl stepD (d, n, e) = (d, n, e ++ l)
  | [], e, _ => by simp
  | x :: l, e, h => by
    have h1 := h x (by simp)
    rw [List.foldl_cons, show stepD (d, n, e) x = (d, n, e ++ [x]) by unfold stepD; rw [if_neg (by dsimp only; omega)], stepD_none n d l _ (fun b hb => h b (by simp [hb]))]
    simp
theorem stepD_eq : ∀ (l : List Am) (n : Int) (d : List (List Nat)) (e : List Am), l.Pairwise (fun a b => a.seq < b.seq) → (∀ a ∈ l, n ≤ a.seq) → l.foldl stepD (d, n, e) = (d ++ (deliv n l).1, (deliv n l).2.1, e ++ (deliv n l).2.2)
  | [], n, d, e, _, _ => by simp [deliv]
  | x :: l, n, d, e, ho, hl => by
    have ho := List.pairwise_cons.1 ho
    have h0 := hl x (by simp)
    rw [List.foldl_cons, deliv]
    by_cases h : x.seq = n
    · rw [if_pos h, show stepD (d, n, e) x = (d ++ [x.p], n + 1, e) by unfold stepD; rw [if_pos h], stepD_eq l (n + 1) _ _ ho.2 (fun a ha => by have := ho.1 a ha; omega)]
      simp
    · rw [if_neg h, show stepD (d, n, e) x = (d, n, e ++ [x]) by unfold stepD; rw [if_neg h], stepD_none n d l _ (fun b hb => by have := ho.1 b hb; omega)]
      simp
theorem insA_ord (a : Am) : ∀ {l : List Am}, l.Pairwise (fun a b => a.seq < b.seq) → (insA a l).Pairwise (fun a b => a.seq < b.seq)
  | [], _ => by simp [insA]
  | x :: l, h => by
    have h := List.pairwise_cons.1 h
    rw [insA]
    split
    · rename_i hx
      refine List.pairwise_cons.2 ⟨fun b hb => ?_, insA_ord a h.2⟩
      rcases insA_mem hb with rfl | hb
      · exact hx
      · exact h.1 b hb
    · split
      · exact List.pairwise_cons.2 h
      · refine List.pairwise_cons.2 ⟨fun b hb => ?_, List.pairwise_cons.2 h⟩
        rcases List.mem_cons.1 hb with rfl | hb
        · omega
        · have := h.1 b hb; omega
theorem allR_ok {r : Rm} {p : Pm} (h : ROk r) : (allR r p).Pairwise (fun a b => a.seq < b.seq) ∧ ∀ a ∈ allR r p, r.next ≤ a.seq := by
  rw [allR_eq]
  have h0 : ∀ a ∈ r.early, r.next ≤ a.seq := fun a ha => by have := h.ear.lo a ha; omega
  split
  · unfold keepR
    split
    · exact ⟨h.ear.ord, h0⟩
    · refine ⟨insA_ord _ h.ear.ord, fun a ha => ?_⟩
      rcases insA_mem ha with rfl | ha
      · dsimp only; omega
      · exact h0 a ha
  · exact ⟨h.ear.ord, h0⟩
/-- how far the second loop has come -/
def stD (r : Rm) (p : Pm) (k : Nat) : List (List Nat) × Int × List Am := ((allR r p).take k).foldl stepD ([], r.next, [])
theorem stD_succ (r : Rm) (p : Pm) {k : Nat} (hk : k < (allR r p).length) : stD r p (k + 1) = stepD (stD r p k) (allR r p)[k] := by
  unfold stD
  rw [List.take_succ_eq_append_getElem hk, List.foldl_append]
  rfl
theorem stD_len (r : Rm) (p : Pm) : ∀ k, k ≤ (allR r p).length → (stD r p k).1.length + (stD r p k).2.2.length = k ∧ r.next ≤ (stD r p k).2.1 ∧ (stD r p k).2.1 ≤ r.next + k
  | 0, _ => by unfold stD; simp
  | k + 1, h => by
    rw [stD_succ r p (by omega)]
    have h1 := stD_len r p k (by omega)
    unfold stepD
    split
    · simp only [List.length_append, List.length_singleton]; omega
    · simp only [List.length_append, List.length_singleton]; omega
theorem stD_mem (r : Rm) (p : Pm) : ∀ k, k ≤ (allR r p).length → ∀ a ∈ (stD r p k).2.2, a ∈ allR r p
  | 0, _, a, ha => by unfold stD at ha; simp at ha
  | k + 1, h, a, ha => by
    rw [stD_succ r p (by omega)] at ha
    unfold stepD at ha
    split at ha
    · exact stD_mem r p k (by omega) a ha
    · rcases List.mem_append.1 ha with ha | ha
      · exact stD_mem r p k (by omega) a ha
      · rw [List.mem_singleton] at ha
        subst ha
        exact List.getElem_mem _
theorem allR_mem {r : Rm} {p : Pm} {a : Am} (h : a ∈ allR r p) : a = ⟨p.seq, p.p⟩ ∨ a ∈ r.early := by
  rw [allR_eq] at h
  split at h
  · exact keep_mem h
  · exact .inr h
theorem allR_len (r : Rm) (p : Pm) : (allR r p).length ≤ r.early.length + 1 := by
  rw [allR_eq]
  split
  · exact keep_len r p
  · omega
theorem recvR_eq {r : Rm} {p : Pm} (h1 : chkR r = 0) (h2 : chkP p = 0) (h3 : ¬ p.kind = 1) (h4 : p.ses = r.ses) :
    recvR r p = (⟨r.ses, r.lim, (stD r p (allR r p).length).2.1, (stD r p (allR r p).length).2.2⟩, (stD r p (allR r p).length).1, [answP ⟨r.ses, r.lim, (stD r p (allR r p).length).2.1, (stD r p (allR r p).length).2.2⟩]) := by
  obtain ⟨ho, hn⟩ := allR_ok (p := p) ((chkR_ok r).1 h1)
  have hd : stD r p (allR r p).length = ((deliv r.next (allR r p)).1, (deliv r.next (allR r p)).2.1, (deliv r.next (allR r p)).2.2) := by
    unfold stD
    rw [List.take_length, stepD_eq _ _ _ _ ho hn]
    simp
  rw [hd]
  unfold recvR
  rw [if_neg (by rintro (h | h | h | h) <;> contradiction), allR_eq]
  split
  · have hk := keep_next r p
    dsimp only
    rw [hk.1, hk.2.1, hk.2.2]
  · rfl
end Go.Proofs.Ytanmndhdhlmjgaa
