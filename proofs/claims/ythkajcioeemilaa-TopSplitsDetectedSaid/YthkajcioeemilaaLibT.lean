/- A region that draws its order and ends in one operation that waits for all others: the others in whatever order, and then that one. No condition. -/
import Derived.Test.YthkajcioeemilaaLib
namespace Go.Proofs.Ythkajcioeemilaa
open Go.RowKit
section
variable {P : Program} {pre : Array Oper} {z : Oper} {Q : Exit → Act → World → Prop} {md : Region.Mode}
/-- behind all others: the last one -/
def snocQ (P : Program) (pre : Array Oper) (z : Oper) (Q : Exit → Act → World → Prop) : Exit → Act → World → Prop
  | .normal, a, w => wpOp P (pre.push z) Q pre.size (Q .normal) a w
  | e, a, w => Q e a w
/-- edges and guards look back; each operation but the last is waited for by a later one -/
def snocB (md : Region.Mode) (pre : Array Oper) (z : Oper) : Bool :=
  ((List.range (pre.size + 1)).all fun j => match (pre.push z)[j]? with
    | none => true
    | some o => (o.after.all fun e => !Region.binds md e || decide (e.on < j)) && (match o.guard with | none => true | some (g, _) => decide (g < pre.size))) &&
  ((List.range pre.size).all fun i => (List.range (pre.size + 1)).any fun j => decide (i < j) && (match (pre.push z)[j]? with
    | none => false
    | some o => o.after.toList.any fun e => Region.binds md e && e.on == i))
structure Snoc (md : Region.Mode) (pre : Array Oper) (z : Oper) : Prop where
  back : ∀ (j : Nat) (o : Oper), (pre.push z)[j]? = some o → ∀ e ∈ o.after, Region.binds md e = true → e.on < j
  gd : ∀ (j : Nat) (o : Oper), (pre.push z)[j]? = some o → ∀ (g : Nat) (b : Bool), o.guard = some (g, b) → g < pre.size
  cov : ∀ i, i < pre.size → ∃ (j : Nat) (o : Oper), i < j ∧ (pre.push z)[j]? = some o ∧ ∃ e ∈ o.after, Region.binds md e = true ∧ e.on = i
theorem push_lt {j : Nat} {o : Oper} (h : (pre.push z)[j]? = some o) : j < pre.size + 1 := by
  have := (Array.getElem?_eq_some_iff.1 h).1
  simpa using this
theorem snoc_of (h : snocB md pre z = true) : Snoc md pre z := by
  unfold snocB at h
  rw [Bool.and_eq_true, List.all_eq_true, List.all_eq_true] at h
  obtain ⟨h1, h2⟩ := h
  refine ⟨fun j o ho e he hb => ?_, fun j o ho g b hg => ?_, fun i hi => ?_⟩
  · have := h1 j (List.mem_range.2 (push_lt ho))
    rw [ho] at this
    simp only [Bool.and_eq_true, Array.all_eq_true_iff_forall_mem, Bool.or_eq_true, decide_eq_true_eq] at this
    rcases this.1 e he with h | h
    · rw [hb] at h; cases h
    · exact h
  · have := h1 j (List.mem_range.2 (push_lt ho))
    rw [ho] at this
    simp only [Bool.and_eq_true] at this
    have := this.2
    rw [hg] at this
    simpa using this
  · have := h2 i (List.mem_range.2 hi)
    rw [List.any_eq_true] at this
    obtain ⟨j, _, hj⟩ := this
    simp only [Bool.and_eq_true, decide_eq_true_eq] at hj
    cases ho : (pre.push z)[j]? with
    | none => rw [ho] at hj; cases hj.2
    | some o =>
      rw [ho] at hj
      have h3 := hj.2
      simp only [List.any_eq_true, Bool.and_eq_true, beq_iff_eq] at h3
      obtain ⟨e, he, hb, heq⟩ := h3
      exact ⟨j, o, hj.1, ho, e, by simpa using he, hb, heq⟩
/-- the state of the others within the state of all -/
structure Cor (n : Nat) (l' l : Array Bool) : Prop where
  s' : l'.size = n
  s : l.size = n + 1
  eq : ∀ j, j < n → l.getD j false = l'.getD j false
  last : l.getD n false = false
def Down (md : Region.Mode) (pre : Array Oper) (l' : Array Bool) : Prop := ∀ (j : Nat) (o : Oper), l'.getD j false = true → pre[j]? = some o → ∀ e ∈ o.after, Region.binds md e = true → l'.getD e.on false = true
theorem getD_any {l : Array Bool} {j : Nat} (h : j < l.size) (d : Bool) : l.getD j d = l.getD j false := by
  simp [Array.getD, h]
theorem pre_at {i : Nat} (h : i < pre.size) : (pre.push z)[i]? = pre[i]? := by
  rw [Array.getElem?_push]
  split
  · omega
  · rfl
theorem ready_pre {l' l : Array Bool} (hs : Snoc md pre z) (hc : Cor pre.size l' l) {i : Nat} (hi : i < pre.size) : i ∈ Region.ready md (pre.push z) l ↔ i ∈ Region.ready md pre l' := by
  rw [mem_ready, mem_ready, pre_at hi]
  have e1 : l.getD i true = l'.getD i true := by
    rw [getD_any (by rw [hc.s]; omega), hc.eq i hi, ← getD_any (by rw [hc.s']; exact hi) true]
  rw [e1]
  refine and_congr_right fun _ => exists_congr fun o => and_congr_right fun ho => forall_congr' fun e => forall_congr' fun he => ?_
  have hb := hs.back i o (by rw [pre_at hi]; exact ho) e he
  refine forall_congr' fun hbi => ?_
  rw [hc.eq e.on (by have := hb hbi; omega)]
theorem all_listed {l' l : Array Bool} (hs : Snoc md pre z) (hc : Cor pre.size l' l) (hd : Down md pre l') (hr : pre.size ∈ Region.ready md (pre.push z) l) : ∀ i, i < pre.size → l'.getD i false = true := by
  obtain ⟨_, o, ho, hall⟩ := mem_ready.1 hr
  have key : ∀ d i, i < pre.size → pre.size - i ≤ d → l'.getD i false = true := by
    intro d
    induction d with
    | zero => intro i hi hd; omega
    | succ d ih =>
      intro i hi hid
      obtain ⟨j, oj, hij, hoj, e, he, hb, heq⟩ := hs.cov i hi
      by_cases hjn : j = pre.size
      · subst hjn
        rw [ho] at hoj
        injection hoj with hoj
        subst hoj
        have := hall e he hb
        rw [heq, hc.eq i hi] at this
        exact this
      · have hjl : j < pre.size := by have := push_lt hoj; omega
        have := hd j oj (ih j hjl (by omega)) (by rw [← pre_at (z := z) hjl]; exact hoj) e he hb
        rw [heq] at this
        exact this
  exact fun i hi => key _ i hi (Nat.le_refl _)
theorem ready_some {l' : Array Bool} (hs : Snoc md pre z) (hl : l'.size = pre.size) : ∀ i, i < pre.size → l'.getD i false = false → ∃ r, r ∈ Region.ready md pre l' := by
  intro i
  induction i using Nat.strongRecOn with
  | ind i ih =>
    intro hi hf
    by_cases h : ∃ e ∈ (pre[i]).after, Region.binds md e = true ∧ l'.getD e.on false = false
    · obtain ⟨e, he, hb, hef⟩ := h
      have := hs.back i pre[i] (by rw [pre_at hi]; exact Array.getElem?_eq_getElem hi) e he hb
      exact ih e.on this (by omega) hef
    · refine ⟨i, mem_ready.2 ⟨by rw [getD_any (by rw [hl]; exact hi)]; exact hf, pre[i], Array.getElem?_eq_getElem hi, fun e he hb => ?_⟩⟩
      cases hq : l'.getD e.on false
      · exact absurd ⟨e, he, hb, hq⟩ h
      · rfl
theorem ready_all {ops : Array Oper} {l : Array Bool} (hl : l.size = ops.size) (h : ∀ i, i < ops.size → l.getD i false = true) : Region.ready md ops l = [] := by
  refine List.eq_nil_iff_forall_not_mem.2 fun i hi => ?_
  obtain ⟨h0, o, ho, _⟩ := mem_ready.1 hi
  have hlt := (Array.getElem?_eq_some_iff.1 ho).1
  rw [getD_any (by rw [hl]; exact hlt), h i hlt] at h0
  cases h0
theorem last_ready {l' l : Array Bool} (hs : Snoc md pre z) (hc : Cor pre.size l' l) (h : ∀ i, i < pre.size → l'.getD i false = true) : pre.size ∈ Region.ready md (pre.push z) l := by
  refine mem_ready.2 ⟨by rw [getD_any (by rw [hc.s]; omega)]; exact hc.last, z, by simp, fun e he hb => ?_⟩
  have := hs.back pre.size z (by simp) e he hb
  rw [hc.eq e.on this]
  exact h e.on this
theorem done_all {l' l : Array Bool} (hc : Cor pre.size l' l) (h : ∀ i, i < pre.size → l'.getD i false = true) : Region.ready md (pre.push z) (l.setIfInBounds pre.size true) = [] := by
  refine ready_all (by simp [hc.s]) fun i hi => ?_
  have hi' : i < pre.size + 1 := by simpa using hi
  by_cases hin : i = pre.size
  · subst hin
    have : pre.size < l.size := by rw [hc.s]; omega
    simp [Array.getD, this]
  · rw [getD_set_ne false (Ne.symm hin), hc.eq i (by omega)]
    exact h i (by omega)
theorem Cor.set {l' l : Array Bool} {n i : Nat} (h : Cor n l' l) (hi : i < n) : Cor n (l'.setIfInBounds i true) (l.setIfInBounds i true) := by
  refine ⟨by simp [h.s'], by simp [h.s], fun j hj => ?_, by rw [getD_set_ne false (by omega)]; exact h.last⟩
  by_cases hij : i = j
  · subst hij
    have h1 : i < l.size := by rw [h.s]; omega
    have h2 : i < l'.size := by rw [h.s']; omega
    simp [Array.getD, h1, h2]
  · rw [getD_set_ne false hij, getD_set_ne false hij]
    exact h.eq j hj
theorem Down.set {l' : Array Bool} {i : Nat} (h : Down md pre l') (hi : i ∈ Region.ready md pre l') : Down md pre (l'.setIfInBounds i true) := by
  intro j o hj ho e he hb
  refine getD_set_true ?_
  by_cases hij : i = j
  · subst hij
    obtain ⟨_, o2, ho2, hall⟩ := mem_ready.1 hi
    rw [ho] at ho2
    injection ho2 with ho2
    subst ho2
    exact hall e he hb
  · rw [getD_set_ne false hij] at hj
    exact h j o hj ho e he hb
theorem wpOp_push {i : Nat} (hs : Snoc md pre z) (hi : i < pre.size) {K K' : Act → World → Prop} (hk : ∀ a w, K' a w → K a w) {a : Act} {w : World} (h : wpOp P pre (snocQ P pre z Q) i K' a w) : wpOp P (pre.push z) Q i K a w := by
  unfold wpOp at *
  rw [pre_at hi]
  have hpi := Array.getElem?_eq_getElem hi
  rw [hpi] at h ⊢
  dsimp only at h ⊢
  have hw : Region.wanted pre[i] (yielded (pre.push z) a.tmps) = Region.wanted pre[i] (yielded pre a.tmps) := by
    unfold Region.wanted
    cases hg : (pre[i]).guard with
    | none => rfl
    | some gb =>
      obtain ⟨g, b⟩ := gb
      have := hs.gd i pre[i] (by rw [pre_at hi, hpi]) g b hg
      simp only [yielded, pre_at this]
  rw [hw]
  split
  · next h9 =>
    rw [if_pos h9] at h
    refine h.imp (fun h => ?_) (fun h => ⟨h.1, h.2⟩)
    unfold Oper.wp at *
    generalize (execOp a.eval pre[i]).run P w = r at *
    cases r with
    | ok n w' =>
      cases n <;> simp only [Oper.upon] at h ⊢ <;>
        first
          | exact hk _ _ h
          | exact Calls.mono h (fun e w'' he => by cases e <;> first | exact hk _ _ he | exact he)
          | exact Rows.mono h (fun _ _ he => hk _ _ he)
    | halt x w' => cases x <;> simp only [Oper.upon] at h ⊢ <;> exact h
  · next h9 =>
    rw [if_neg h9] at h
    exact hk _ _ h
theorem snoc_any (hs : Snoc md pre z) : ∀ (fuel : Nat) (l' l : Array Bool) (a : Act) (w : World), Cor pre.size l' l → Down md pre l' → wpAny P md pre (snocQ P pre z Q) fuel l' a w → wpAny P md (pre.push z) Q (fuel + 1) l a w := by
  intro fuel
  have hnil : ∀ {l' : Array Bool}, l'.size = pre.size → Region.ready md pre l' = [] → ∀ i, i < pre.size → l'.getD i false = true := by
    intro l' hl hr i hi
    cases hq : l'.getD i false
    · obtain ⟨r, hrr⟩ := ready_some hs hl i hi hq
      rw [hr] at hrr
      cases hrr
    · rfl
  have hne : ∀ {l' l : Array Bool}, Cor pre.size l' l → Region.ready md (pre.push z) l = [] → False := by
    intro l' l hc hr
    by_cases h : ∃ i, i < pre.size ∧ l'.getD i false = false
    · obtain ⟨i, hi, hf⟩ := h
      obtain ⟨r, hrr⟩ := ready_some hs hc.s' i hi hf
      have hrl : r < pre.size := by
        obtain ⟨_, o, ho, _⟩ := mem_ready.1 hrr
        exact (Array.getElem?_eq_some_iff.1 ho).1
      have := (ready_pre hs hc hrl).2 hrr
      rw [hr] at this
      cases this
    · have hall : ∀ i, i < pre.size → l'.getD i false = true := fun i hi => by
        cases hq : l'.getD i false
        · exact absurd ⟨i, hi, hq⟩ h
        · rfl
      have := last_ready hs hc hall
      rw [hr] at this
      cases this
  have hlt : ∀ {l : Array Bool} {i : Nat}, i ∈ Region.ready md (pre.push z) l → i ≠ pre.size → i < pre.size := by
    intro l i hi hne
    obtain ⟨_, o, ho, _⟩ := mem_ready.1 hi
    have := push_lt ho
    omega
  induction fuel with
  | zero =>
    intro l' l a w hc hd h
    refine ⟨fun h0 => (hne hc h0).elim, fun i hi => ?_⟩
    have hall := hnil hc.s' h.1
    by_cases hin : i = pre.size
    · subst hin
      exact wpOp_mono (fun a w hq => ⟨done_all hc hall, hq⟩) h.2
    · have := (ready_pre hs hc (hlt hi hin)).1 hi
      rw [h.1] at this
      cases this
  | succ fuel ih =>
    intro l' l a w hc hd h
    refine ⟨fun h0 => (hne hc h0).elim, fun i hi => ?_⟩
    by_cases hin : i = pre.size
    · subst hin
      have hall := all_listed hs hc hd hi
      have h0 := h.1 (ready_all hc.s' hall)
      refine wpOp_mono (fun a w hq => ⟨fun _ => hq, fun j hj => ?_⟩) h0
      rw [done_all hc hall] at hj
      cases hj
    · have hil := hlt hi hin
      have hip := (ready_pre hs hc hil).1 hi
      exact wpOp_push hs hil (fun a w hq => ih _ _ a w (hc.set hil) (hd.set hip) hq) (h.2 i hip)
theorem getD_rep (n j : Nat) : (Array.replicate n false).getD j false = false := by
  simp only [Array.getD]
  split <;> simp
/-- the others in whatever order, under one condition on the world, and then the last one -/
theorem wp_region_snoc {id : Nat} {ops : Array Oper} {S : World → Prop} {a : Act} {w : World} (pre : Array Oper) (z : Oper) (hops : ops = pre.push z) (hm : P.follows .mixedOrders = true) (hB : snocB .any pre z = true)
    (hS : S w.drew) (h : S w.drew → wpAnyH P .any pre (snocQ P pre z Q) S pre.size (Array.replicate pre.size false) a w.drew) : (Code.region id ops true).wp P Q a w := by
  subst hops
  have hs := snoc_of hB
  refine wp_region_any hm ?_
  rw [Array.size_push]
  exact snoc_any hs pre.size _ _ a _ ⟨by simp, by simp, fun j hj => by rw [getD_rep, getD_rep], by rw [getD_rep]⟩ (fun j o hj => by rw [getD_rep] at hj; cases hj) (wpAny_of_held _ _ _ _ (h hS))
/-- the same, for a region that is written out -/
theorem wp_region_snoc_lit {id : Nat} {l : List Oper} {S : World → Prop} {a : Act} {w : World} (z : Oper) (hz : l.getLast? = some z) (hm : P.follows .mixedOrders = true) (hB : snocB .any l.dropLast.toArray z = true)
    (hS : S w.drew) (h : S w.drew → wpAnyH P .any l.dropLast.toArray (snocQ P l.dropLast.toArray z Q) S l.dropLast.length (Array.replicate l.dropLast.length false) a w.drew) : (Code.region id l.toArray true).wp P Q a w := by
  refine wp_region_snoc l.dropLast.toArray z ?_ hm hB hS (by simpa using h)
  have hl : l = l.dropLast ++ [z] := by
    have hne : l ≠ [] := by rintro rfl; simp at hz
    have := List.dropLast_concat_getLast hne
    rw [List.getLast?_eq_some_getLast hne] at hz
    injection hz with hz
    rw [hz] at this
    exact this.symm
  have h2 : l.toArray = (l.dropLast ++ [z]).toArray := by rw [← hl]
  rw [h2]
  simp
/-- the last one, unguarded, at its turn -/
theorem snocQ_normal {pre : Array Oper} {z : Oper} {a : Act} {w : World} (hg : z.guard = none) (h : wpList P #[z] Q [z] a w) : snocQ P pre z Q .normal a w := by
  unfold snocQ wpOp
  simp only [Array.getElem?_push_size]
  have hw : ∀ y, Region.wanted z y = true := fun y => by simp [Region.wanted, hg]
  unfold wpList at h
  rw [if_pos (hw _)] at h ⊢
  exact h
end
end Go.Proofs.Ythkajcioeemilaa
