/- Queues in order, and what adding does to them. No condition. -/
import Derived.Test.YtknedclejhiegaaMath
namespace Go.Proofs.Ytknedclejhiegaa
/-- a queue in order, in pairs -/
structure OkP (nx : Int) (l : List Em) : Prop where
  lo : 0 ≤ nx
  hi : nx ≤ 1073741824
  each : ∀ e ∈ l, wrongE e nx = 0
  ord : l.Pairwise (fun a b => befB a b = true)
  dis : l.Pairwise (fun a b => a.n ≠ b.n)
theorem bef_trans {a b c : Em} (h1 : befB a b = true) (h2 : befB b c = true) : befB a c = true := by
  unfold befB at *
  rw [decide_eq_true_eq] at *
  omega
theorem pair_of_next {l : List Em} (h : ∀ (k : Nat) (e f : Em), l[k]? = some e → l[k + 1]? = some f → befB e f = true) : l.Pairwise (fun a b => befB a b = true) := by
  induction l with
  | nil => exact List.Pairwise.nil
  | cons x l ih =>
    have ht := ih (fun k e f he hf => h (k + 1) e f (by simpa using he) (by simpa using hf))
    refine List.Pairwise.cons ?_ ht
    cases l with
    | nil => intro y hy; cases hy
    | cons y l =>
      have h0 := h 0 x y rfl rfl
      intro z hz
      rcases List.mem_cons.1 hz with rfl | hz
      · exact h0
      · exact bef_trans h0 ((List.pairwise_cons.1 ht).1 z hz)
theorem okP_of {nx : Int} {l : List Em} (h : OkQ nx l) : OkP nx l := by
  refine ⟨h.lo, h.hi, h.each, pair_of_next h.ord, ?_⟩
  rw [List.pairwise_iff_getElem]
  intro i j hi hj hij
  exact h.dis i j _ _ hij (List.getElem?_eq_getElem hi) (List.getElem?_eq_getElem hj)
theorem OkP.q {nx : Int} {l : List Em} (h : OkP nx l) : OkQ nx l := by
  refine ⟨h.lo, h.hi, h.each, fun k e f he hf => ?_, fun i k e f hik he hf => ?_⟩
  · obtain ⟨h1, rfl⟩ := List.getElem?_eq_some_iff.1 he
    obtain ⟨h2, rfl⟩ := List.getElem?_eq_some_iff.1 hf
    exact List.pairwise_iff_getElem.1 h.ord k (k + 1) h1 h2 (by omega)
  · obtain ⟨h1, rfl⟩ := List.getElem?_eq_some_iff.1 he
    obtain ⟨h2, rfl⟩ := List.getElem?_eq_some_iff.1 hf
    exact List.pairwise_iff_getElem.1 h.dis i k h1 h2 hik
theorem OkP.chk {nx : Int} {l : List Em} (h : OkP nx l) : chkQ nx l = 0 := chkQ_of h.q
theorem OkP.sub {nx : Int} {l m : List Em} (h : OkP nx l) (hs : m.Sublist l) : OkP nx m := ⟨h.lo, h.hi, fun e he => h.each e (hs.subset he), h.ord.sublist hs, h.dis.sublist hs⟩
theorem wrong_fact {e : Em} {nx : Int} (h : wrongE e nx = 0) : 0 ≤ e.t ∧ e.t ≤ 1073741824 ∧ 0 ≤ e.k ∧ 0 ≤ e.o ∧ 0 ≤ e.n ∧ e.n < nx ∧ e.p.length ≤ 4096 := by
  unfold wrongE at h
  split at h
  · cases h
  · split at h
    · cases h
    · split at h
      · cases h
      · omega
theorem wrong_of {e : Em} {nx : Int} (h : 0 ≤ e.t ∧ e.t ≤ 1073741824 ∧ 0 ≤ e.k ∧ 0 ≤ e.o ∧ 0 ≤ e.n ∧ e.n < nx ∧ e.p.length ≤ 4096) : wrongE e nx = 0 := by
  unfold wrongE
  rw [if_neg (by omega), if_neg (by omega), if_neg (by omega)]
theorem bef_le {a b : Em} (h : befB a b = true) : a.t ≤ b.t := by
  unfold befB at h
  rw [decide_eq_true_eq] at h
  omega
/-- the list parts where the later ones begin -/
theorem cut_facts {l : List Em} (ho : l.Pairwise (fun a b => befB a b = true)) (t : Int) : (∀ e ∈ l.take (atE (laterB t) l), e.t ≤ t) ∧ (∀ e ∈ l.drop (atE (laterB t) l), t < e.t) := by
  induction l with
  | nil => simp
  | cons x l ih =>
    by_cases hx : laterB t x = true
    · have h0 : atE (laterB t) (x :: l) = 0 := by unfold atE; rw [idxB, if_pos hx]
      have hxt : t < x.t := by unfold laterB at hx; rwa [decide_eq_true_eq] at hx
      rw [h0]
      refine ⟨by simp, fun e he => ?_⟩
      rw [List.drop_zero] at he
      rcases List.mem_cons.1 he with rfl | he
      · exact hxt
      · have := bef_le ((List.pairwise_cons.1 ho).1 e he)
        omega
    · have h0 : atE (laterB t) (x :: l) = atE (laterB t) l + 1 := by
        unfold atE
        rw [idxB, if_neg hx]
        cases idxB (laterB t) l <;> rfl
      obtain ⟨h1, h2⟩ := ih (List.pairwise_cons.1 ho).2
      rw [h0, List.take_succ_cons, List.drop_succ_cons]
      refine ⟨fun e he => ?_, h2⟩
      rcases List.mem_cons.1 he with rfl | he
      · unfold laterB at hx
        rw [decide_eq_true_eq] at hx
        omega
      · exact h1 e he
theorem ok_ins {nx : Int} {l : List Em} {x : Em} (h : OkP nx l) (hn : x.n = nx) (hx : wrongE x (nx + 1) = 0) (hf : nx < 1073741824) : OkP (nx + 1) (insE x l) := by
  obtain ⟨c1, c2⟩ := cut_facts h.ord x.t
  have hlo := h.lo
  have hm : ∀ e, e ∈ insE x l → e = x ∨ e ∈ l := by
    intro e he
    unfold insE at he
    rcases List.mem_append.1 he with he | he
    · exact .inr (List.mem_of_mem_take he)
    · rcases List.mem_cons.1 he with he | he
      · exact .inl he
      · exact .inr (List.mem_of_mem_drop he)
  have hnum : ∀ e ∈ l, e.n < nx := fun e he => (wrong_fact (h.each e he)).2.2.2.2.2.1
  have hto : (l.take (atE (laterB x.t) l)).Pairwise (fun a b => befB a b = true) := h.ord.sublist (List.take_sublist _ _)
  have hdo : (l.drop (atE (laterB x.t) l)).Pairwise (fun a b => befB a b = true) := h.ord.sublist (List.drop_sublist _ _)
  have htd : (l.take (atE (laterB x.t) l)).Pairwise (fun a b => a.n ≠ b.n) := h.dis.sublist (List.take_sublist _ _)
  have hdd : (l.drop (atE (laterB x.t) l)).Pairwise (fun a b => a.n ≠ b.n) := h.dis.sublist (List.drop_sublist _ _)
  have hcross : ∀ a ∈ l.take (atE (laterB x.t) l), ∀ b ∈ l.drop (atE (laterB x.t) l), befB a b = true ∧ a.n ≠ b.n := by
    intro a ha b hb
    have e1 := h.ord
    have e2 := h.dis
    rw [← List.take_append_drop (atE (laterB x.t) l) l] at e1 e2
    exact ⟨(List.pairwise_append.1 e1).2.2 a ha b hb, (List.pairwise_append.1 e2).2.2 a ha b hb⟩
  refine ⟨by omega, by omega, fun e he => ?_, ?_, ?_⟩
  · rcases hm e he with rfl | he
    · exact hx
    · have := wrong_fact (h.each e he)
      exact wrong_of (by omega)
  · unfold insE
    refine List.pairwise_append.2 ⟨hto, List.pairwise_cons.2 ⟨fun b hb => ?_, hdo⟩, fun a ha b hb => ?_⟩
    · unfold befB
      exact decide_eq_true (.inl (c2 b hb))
    · rcases List.mem_cons.1 hb with rfl | hb
      · have h1 := c1 a ha
        have h2 := hnum a (List.mem_of_mem_take ha)
        unfold befB
        exact decide_eq_true (by omega)
      · exact (hcross a ha b hb).1
  · unfold insE
    refine List.pairwise_append.2 ⟨htd, List.pairwise_cons.2 ⟨fun b hb => ?_, hdd⟩, fun a ha b hb => ?_⟩
    · have := hnum b (List.mem_of_mem_drop hb)
      omega
    · rcases List.mem_cons.1 hb with rfl | hb
      · have := hnum a (List.mem_of_mem_take ha)
        omega
      · exact (hcross a ha b hb).2
/-- the queue after some times were added -/
def addM (ts : List Int) : Nat → List Em
  | 0 => []
  | i + 1 => match ts[i]? with | none => addM ts i | some t => insE ⟨t, i, i, 0, []⟩ (addM ts i)
theorem ins_len (x : Em) (l : List Em) : (insE x l).length = l.length + 1 := by
  have := atE_le (laterB x.t) l
  unfold insE
  rw [List.length_append, List.length_cons, List.length_take, List.length_drop]
  omega
theorem addM_ok {ts : List Int} (ht : ∀ t ∈ ts, 0 ≤ t ∧ t ≤ 1073741824) (hl : ts.length ≤ 1000) : ∀ i, i ≤ ts.length → OkP i (addM ts i) ∧ (addM ts i).length = i
  | 0, _ => ⟨⟨by omega, by omega, nofun, List.Pairwise.nil, List.Pairwise.nil⟩, rfl⟩
  | i + 1, hi => by
    obtain ⟨h1, h2⟩ := addM_ok ht hl i (by omega)
    have hg : ts[i]? = some ts[i] := List.getElem?_eq_getElem (by omega)
    have := ht _ (List.getElem_mem (by omega : i < ts.length))
    rw [addM, hg]
    dsimp only
    refine ⟨?_, by rw [ins_len, h2]⟩
    have h3 := ok_ins (x := ⟨ts[i], i, i, 0, []⟩) h1 rfl (wrong_of (by dsimp only; simp; omega)) (by omega)
    exact h3
theorem add_step {ts : List Int} (ht : ∀ t ∈ ts, 0 ≤ t ∧ t ≤ 1073741824) (hl : ts.length ≤ 1000) {i : Nat} {t : Int} (hi : ts[i]? = some t) : addQ (addM ts i) i t i 0 [] = ⟨addM ts (i + 1), (i + 1 : Nat), i, 0⟩ := by
  obtain ⟨hil, rfl⟩ := List.getElem?_eq_some_iff.1 hi
  obtain ⟨h1, h2⟩ := addM_ok ht hl i (by omega)
  have := ht _ (List.getElem_mem hil)
  unfold addQ
  rw [h1.chk, if_neg (by simp), wrong_of (by dsimp only; simp; omega), if_neg (by simp), if_neg (by omega), addM, hi]
  rfl
end Go.Proofs.Ytknedclejhiegaa
