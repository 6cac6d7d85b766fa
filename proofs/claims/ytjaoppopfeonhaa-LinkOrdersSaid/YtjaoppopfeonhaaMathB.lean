/- Links in order, and what putting in a flight does to them. No condition. -/
import Derived.Test.YtjaoppopfeonhaaMath
namespace Go.Proofs.Ytjaoppopfeonhaa
/-- a queue in order, in pairs -/
structure OkP (nx : Int) (l : List Em) : Prop where
  lo : 0 ≤ nx
  hi : nx ≤ 1073741824
  each : ∀ e ∈ l, wrongE e nx = 0
  ord : l.Pairwise (fun a b => befB a b = true)
  dis : l.Pairwise (fun a b => a.n ≠ b.n)
theorem bef_trans {a b c : Em} (h1 : befB a b = true) (h2 : befB b c = true) : befB a c = true := by
  unfold befB at *
  rw [decide_eq_true_eq] at *
  omega
theorem pair_of_next {l : List Em} (h : ∀ (k : Nat) (e f : Em), l[k]? = some e → l[k + 1]? = some f → befB e f = true) : l.Pairwise (fun a b => befB a b = true) := by
  induction l with
  | nil => exact List.Pairwise.nil
  | cons x l ih =>
    have ht := ih (fun k e f he hf => h (k + 1) e f (by simpa using he) (by simpa using hf))
    refine List.Pairwise.cons ?_ ht
    cases l with
    | nil => intro y hy; cases hy
    | cons y l =>
      have h0 := h 0 x y rfl rfl
      intro z hz
      rcases List.mem_cons.1 hz with rfl | hz
      · exact h0
      · exact bef_trans h0 ((List.pairwise_cons.1 ht).1 z hz)
theorem okP_of {l : Lm} (h : OkL l) : OkP l.nx l.fl := by
  refine ⟨h.nx0, h.nx, h.each, pair_of_next h.ord, ?_⟩
  rw [List.pairwise_iff_getElem]
  intro i j hi hj hij
  exact h.dis i j _ _ hij (List.getElem?_eq_getElem hi) (List.getElem?_eq_getElem hj)
/-- a link's head in order -/
structure OkH (l : Lm) : Prop where
  mi0 : 0 ≤ l.mi
  mima : l.mi ≤ l.ma
  ma : l.ma ≤ 1073741824
  ra0 : 0 ≤ l.ra
  ra : l.ra ≤ 65536
  idle0 : 0 ≤ l.idle
  idle : l.idle ≤ 1073741824
  len : l.fl.length ≤ 4096
  dn : l.dn = true → l.fl = []
theorem OkP.q {l : Lm} (h : OkP l.nx l.fl) (g : OkH l) : OkL l := by
  refine ⟨g.mi0, g.mima, g.ma, g.ra0, g.ra, g.idle0, g.idle, h.lo, h.hi, g.len, g.dn, h.each, fun k e f he hf => ?_, fun i k e f hik he hf => ?_⟩
  · obtain ⟨h1, rfl⟩ := List.getElem?_eq_some_iff.1 he
    obtain ⟨h2, rfl⟩ := List.getElem?_eq_some_iff.1 hf
    exact List.pairwise_iff_getElem.1 h.ord k (k + 1) h1 h2 (by omega)
  · obtain ⟨h1, rfl⟩ := List.getElem?_eq_some_iff.1 he
    obtain ⟨h2, rfl⟩ := List.getElem?_eq_some_iff.1 hf
    exact List.pairwise_iff_getElem.1 h.dis i k h1 h2 hik
theorem OkL.head {l : Lm} (h : OkL l) : OkH l := ⟨h.mi0, h.mima, h.ma, h.ra0, h.ra, h.idle0, h.idle, h.len, h.dn⟩
theorem OkP.sub {nx : Int} {l m : List Em} (h : OkP nx l) (hs : m.Sublist l) : OkP nx m := ⟨h.lo, h.hi, fun e he => h.each e (hs.subset he), h.ord.sublist hs, h.dis.sublist hs⟩
theorem wrong_fact {e : Em} {nx : Int} (h : wrongE e nx = 0) : 0 ≤ e.t ∧ e.t ≤ 1073741824 ∧ 0 ≤ e.n ∧ e.n < nx ∧ e.p.length ≤ 65536 := by
  unfold wrongE at h
  split at h
  · cases h
  · split at h
    · cases h
    · split at h
      · cases h
      · omega
theorem wrong_of {e : Em} {nx : Int} (h : 0 ≤ e.t ∧ e.t ≤ 1073741824 ∧ 0 ≤ e.n ∧ e.n < nx ∧ e.p.length ≤ 65536) : wrongE e nx = 0 := by
  unfold wrongE
  rw [if_neg (by omega), if_neg (by omega), if_neg (by omega)]
theorem bef_leB {a b : Em} (h : befB a b = true) : a.t ≤ b.t := by
  unfold befB at h
  rw [decide_eq_true_eq] at h
  omega
/-- the list parts where the later ones begin -/
theorem cut_facts {l : List Em} (ho : l.Pairwise (fun a b => befB a b = true)) (t : Int) : (∀ e ∈ l.take (atE (laterB t) l), e.t ≤ t) ∧ (∀ e ∈ l.drop (atE (laterB t) l), t < e.t) := by
  induction l with
  | nil => simp
  | cons x l ih =>
    by_cases hx : laterB t x = true
    · have h0 : atE (laterB t) (x :: l) = 0 := by unfold atE; rw [idxB, if_pos hx]
      have hxt : t < x.t := by unfold laterB at hx; rwa [decide_eq_true_eq] at hx
      rw [h0]
      refine ⟨by simp, fun e he => ?_⟩
      rw [List.drop_zero] at he
      rcases List.mem_cons.1 he with rfl | he
      · exact hxt
      · have := bef_leB ((List.pairwise_cons.1 ho).1 e he)
        omega
    · have h0 : atE (laterB t) (x :: l) = atE (laterB t) l + 1 := by
        unfold atE
        rw [idxB, if_neg hx]
        cases idxB (laterB t) l <;> rfl
      obtain ⟨h1, h2⟩ := ih (List.pairwise_cons.1 ho).2
      rw [h0, List.take_succ_cons, List.drop_succ_cons]
      refine ⟨fun e he => ?_, h2⟩
      rcases List.mem_cons.1 he with rfl | he
      · unfold laterB at hx
        rw [decide_eq_true_eq] at hx
        omega
      · exact h1 e he
theorem ok_ins {nx : Int} {l : List Em} {x : Em} (h : OkP nx l) (hn : x.n = nx) (hx : wrongE x (nx + 1) = 0) (hf : nx < 1073741824) : OkP (nx + 1) (insE x l) := by
  obtain ⟨c1, c2⟩ := cut_facts h.ord x.t
  have hlo := h.lo
  have hm : ∀ e, e ∈ insE x l → e = x ∨ e ∈ l := by
    intro e he
    unfold insE at he
    rcases List.mem_append.1 he with he | he
    · exact .inr (List.mem_of_mem_take he)
    · rcases List.mem_cons.1 he with he | he
      · exact .inl he
      · exact .inr (List.mem_of_mem_drop he)
  have hnum : ∀ e ∈ l, e.n < nx := fun e he => (wrong_fact (h.each e he)).2.2.2.1
  have hto : (l.take (atE (laterB x.t) l)).Pairwise (fun a b => befB a b = true) := h.ord.sublist (List.take_sublist _ _)
  have hdo : (l.drop (atE (laterB x.t) l)).Pairwise (fun a b => befB a b = true) := h.ord.sublist (List.drop_sublist _ _)
  have htd : (l.take (atE (laterB x.t) l)).Pairwise (fun a b => a.n ≠ b.n) := h.dis.sublist (List.take_sublist _ _)
  have hdd : (l.drop (atE (laterB x.t) l)).Pairwise (fun a b => a.n ≠ b.n) := h.dis.sublist (List.drop_sublist _ _)
  have hcross : ∀ a ∈ l.take (atE (laterB x.t) l), ∀ b ∈ l.drop (atE (laterB x.t) l), befB a b = true ∧ a.n ≠ b.n := by
    intro a ha b hb
    have e1 := h.ord
    have e2 := h.dis
    rw [← List.take_append_drop (atE (laterB x.t) l) l] at e1 e2
    exact ⟨(List.pairwise_append.1 e1).2.2 a ha b hb, (List.pairwise_append.1 e2).2.2 a ha b hb⟩
  refine ⟨by omega, by omega, fun e he => ?_, ?_, ?_⟩
  · rcases hm e he with rfl | he
    · exact hx
    · have := wrong_fact (h.each e he)
      exact wrong_of (by omega)
  · unfold insE
    refine List.pairwise_append.2 ⟨hto, List.pairwise_cons.2 ⟨fun b hb => ?_, hdo⟩, fun a ha b hb => ?_⟩
    · unfold befB
      exact decide_eq_true (.inl (c2 b hb))
    · rcases List.mem_cons.1 hb with rfl | hb
      · have h1 := c1 a ha
        have h2 := hnum a (List.mem_of_mem_take ha)
        unfold befB
        exact decide_eq_true (by omega)
      · exact (hcross a ha b hb).1
  · unfold insE
    refine List.pairwise_append.2 ⟨htd, List.pairwise_cons.2 ⟨fun b hb => ?_, hdd⟩, fun a ha b hb => ?_⟩
    · have := hnum b (List.mem_of_mem_drop hb)
      omega
    · rcases List.mem_cons.1 hb with rfl | hb
      · have := hnum a (List.mem_of_mem_take ha)
        omega
      · exact (hcross a ha b hb).2
end Go.Proofs.Ytjaoppopfeonhaa
