/- What a run's flights are, in plain words. No condition. -/
import Derived.Test.YtjaoppopfeonhaaMathD
namespace Go.Proofs.Ytjaoppopfeonhaa
def headB (j : Nat) (p : List Nat) : Bool := p.head? == some j
/-- how many payloads begin with a number -/
def cntH (j : Nat) (l : List (List Nat)) : Nat := l.countP (headB j)
theorem headB_pay (j s k : Nat) : headB j (payM s k) = (k == j) := by
  unfold headB payM
  simp
theorem cntH_ins (j : Nat) (x : Em) (l : List Em) : cntH j ((insE x l).map Em.p) = cntH j (l.map Em.p) + (if headB j x.p = true then 1 else 0) := by
  have h : cntH j (l.map Em.p) = cntH j ((l.take (atE (laterB x.t) l)).map Em.p) + cntH j ((l.drop (atE (laterB x.t) l)).map Em.p) := by
    unfold cntH
    rw [← List.countP_append, ← List.map_append, List.take_append_drop]
  rw [h]
  unfold insE cntH
  rw [List.map_append, List.map_cons, List.countP_append, List.countP_cons]
  omega
theorem mem_ins {e x : Em} {l : List Em} (h : e ∈ insE x l) : e = x ∨ e ∈ l := by
  unfold insE at h
  rcases List.mem_append.1 h with h | h
  · exact .inr (List.mem_of_mem_take h)
  · rcases List.mem_cons.1 h with h | h
    · exact .inl h
    · exact .inr (List.mem_of_mem_drop h)
theorem sendN_mem (k : Nat) : ∀ (l : Lm) (en : Int) (p : List Nat) (r : List Int), l.mi ≤ l.ma → ∀ e ∈ (sendN k l en p r).1.fl, e ∈ l.fl ∨ (e.p = p ∧ en + l.mi ≤ e.t ∧ e.t ≤ en + l.ma) := by
  induction k with
  | zero => intro l en p r _ e he; exact .inl he
  | succ k ih =>
    intro l en p r hm e he
    rw [sendN_succ] at he
    have hb := decV_b r (n := l.ma - l.mi + 1) (by omega)
    rcases ih { l with fl := insE ⟨en + l.mi + decV r (l.ma - l.mi + 1), l.nx, p⟩ l.fl, nx := l.nx + 1 } en p (decR r) hm e he with h | h
    · rcases mem_ins h with rfl | h
      · exact .inr ⟨rfl, by dsimp only; omega, by dsimp only; omega⟩
      · exact .inl h
    · exact .inr h
theorem sendN_cnt (j k : Nat) : ∀ (l : Lm) (en : Int) (p : List Nat) (r : List Int), cntH j ((sendN k l en p r).1.fl.map Em.p) = cntH j (l.fl.map Em.p) + (if headB j p = true then k else 0) := by
  induction k with
  | zero => intro l en p r; simp [sendN]
  | succ k ih =>
    intro l en p r
    rw [sendN_succ, ih]
    dsimp only
    rw [cntH_ins]
    dsimp only
    split <;> omega
/-- what a run's flights are -/
structure RunF (mi ma : Int) (st : List Sp) (k : Nat) (r : RunS) : Prop where
  mem : ∀ e ∈ r.l.fl, ∃ (j : Nat) (x : Sp) (I : Int), j < k ∧ st[j]? = some x ∧ e.p = payM x.s j ∧ r.id[j]? = some I ∧ I + mi ≤ e.t ∧ e.t ≤ I + ma
  cnt : ∀ j, j < k → r.cp[j]? = some ((cntH j (r.l.fl.map Em.p) : Nat) : Int)
  tms : ∀ (j : Nat) (T I : Int), r.tm[j]? = some T → r.id[j]? = some I → T ≤ I
theorem cntH_none {j : Nat} {l : List (List Nat)} (h : ∀ p ∈ l, headB j p = false) : cntH j l = 0 := by
  unfold cntH
  rw [List.countP_eq_zero]
  intro p hp
  rw [h p hp]
  simp
theorem RunF.new {mi ma : Int} {st : List Sp} {k : Nat} {r : RunS} (h : RunF mi ma st k r) {j : Nat} (hj : k ≤ j) : cntH j (r.l.fl.map Em.p) = 0 := by
  refine cntH_none (fun p hp => ?_)
  obtain ⟨e, he, rfl⟩ := List.mem_map.1 hp
  obtain ⟨i, x, I, hi, _, hp, _⟩ := h.mem e he
  rw [hp, headB_pay, beq_eq_false_iff_ne]
  omega
theorem step_fl {mi ma ra : Int} {n k : Nat} {r : RunS} (h : OkR mi ma ra n k r) (x : Sp) (hk : k < 20) (hma : ma ≤ 100) :
    (stepR r k x).l = (sendN (timesOf (decV r.rs 3)) { r.l with idle := endM r.l (nowR r x) (payM x.s k).length } (endM r.l (nowR r x) (payM x.s k).length) (payM x.s k) (decR r.rs)).1 ∧ (stepR r k x).rs = (sendN (timesOf (decV r.rs 3)) { r.l with idle := endM r.l (nowR r x) (payM x.s k).length } (endM r.l (nowR r x) (payM x.s k).length) (payM x.s k) (decR r.rs)).2 := by
  obtain ⟨a1, a2, a3, a4, a5⟩ := endR_b h x
  have b1 := h.now0
  have b2 := h.fl
  have b3 := h.nx
  have b4 := h.ma
  have b6 := pay_len x.s k
  have hs := send_ok (l := r.l) (now := nowR r x) (p := payM x.s k) (cs := r.rs) h.ok h.dn ⟨by omega, by omega⟩ (by omega) (by omega) (by omega) (by omega)
  unfold stepR sendR
  rw [hs]
  exact ⟨rfl, rfl⟩
theorem step_F {mi ma ra : Int} {n k : Nat} {st : List Sp} {r : RunS} (h : OkR mi ma ra n k r) (hF : RunF mi ma st k r) (x : Sp) (hx : st[k]? = some x) (hk : k < 20) (hma : ma ≤ 100) : RunF mi ma st (k + 1) (stepR r k x) := by
  obtain ⟨hl, _⟩ := step_fl h x hk hma
  obtain ⟨_, _, hid⟩ := step_ok h x hk hma
  obtain ⟨a1, a2, a3, a4, a5⟩ := endR_b h x
  have hI : (stepR r k x).id = r.id ++ [endM r.l (nowR r x) (payM x.s k).length] := by rw [← hid]; rfl
  have hT : (stepR r k x).tm = r.tm ++ [nowR r x] := rfl
  have hC : (stepR r k x).cp = r.cp ++ [((timesOf (decV r.rs 3) : Nat) : Int)] := rfl
  have hmima : r.l.mi ≤ r.l.ma := h.ok.mima
  refine ⟨fun e he => ?_, fun j hj => ?_, fun j T I hT' hI' => ?_⟩
  · rw [hl] at he
    rcases sendN_mem _ { r.l with idle := endM r.l (nowR r x) (payM x.s k).length } _ _ _ hmima e he with he | ⟨hp, h1, h2⟩
    · obtain ⟨j, y, I, h1, h2, h3, h4, h5⟩ := hF.mem e he
      refine ⟨j, y, I, by omega, h2, h3, ?_, h5⟩
      rw [hI, List.getElem?_append_left (by rw [h.lid]; exact h1)]
      exact h4
    · refine ⟨k, x, _, by omega, hx, hp, ?_, by rw [← h.mi]; exact h1, by rw [← h.ma]; exact h2⟩
      rw [hI, List.getElem?_append_right (by rw [h.lid]; exact Nat.le_refl _), h.lid, Nat.sub_self]
      rfl
  · rw [hl, sendN_cnt, headB_pay, hC]
    dsimp only
    by_cases hjk : j < k
    · rw [List.getElem?_append_left (by rw [h.lcp]; exact hjk), hF.cnt j hjk, if_neg (by simp; omega)]
      rfl
    · obtain rfl : j = k := by omega
      rw [List.getElem?_append_right (by rw [h.lcp]; exact Nat.le_refl _), h.lcp, Nat.sub_self, hF.new (Nat.le_refl _), if_pos (by simp), Nat.zero_add]
      rfl
  · rw [hT] at hT'
    rw [hI] at hI'
    by_cases hjk : j < k
    · rw [List.getElem?_append_left (by rw [h.ltm]; exact hjk)] at hT'
      rw [List.getElem?_append_left (by rw [h.lid]; exact hjk)] at hI'
      exact hF.tms j T I hT' hI'
    · rw [List.getElem?_append_right (by rw [h.ltm]; omega), h.ltm] at hT'
      rw [List.getElem?_append_right (by rw [h.lid]; omega), h.lid] at hI'
      obtain rfl : j = k := by
        have := (List.getElem?_eq_some_iff.1 hT').1
        simp at this
        omega
      rw [Nat.sub_self] at hT' hI'
      simp at hT' hI'
      subst hT' hI'
      exact a3
theorem runK_F {mi ma ra : Int} {cs : List Int} {st : List Sp} (h : 0 ≤ mi ∧ mi ≤ ma ∧ ma ≤ 100 ∧ 0 ≤ ra ∧ ra ≤ 100) (hs : st.length ≤ 20) : ∀ k, k ≤ st.length → RunF mi ma st k (runK mi ma ra cs st k) := by
  intro k
  induction k with
  | zero => intro _; exact ⟨nofun, fun j hj => by omega, fun j T I hT _ => by simp [runK, run0] at hT⟩
  | succ k ih =>
    intro hk
    rw [runK_succ (List.getElem?_eq_getElem (by omega))]
    exact step_F (runK_ok h hs k (by omega)) (ih (by omega)) _ (List.getElem?_eq_getElem (by omega)) (by omega) h.2.2.1
theorem deliv_ok {l : Lm} (h : OkL l) (now : Int) : delivM l now = ({ l with fl := l.fl.drop (atE (laterB now) l.fl) }, (l.fl.take (atE (laterB now) l.fl)).map Em.p) := by
  unfold delivM
  rw [if_neg (by rw [chkL_of h]; simp)]
/-- what is delivered has arrived -/
theorem deliv_mem {l : Lm} (h : OkL l) {now : Int} {e : Em} (he : e ∈ l.fl.take (atE (laterB now) l.fl)) : e ∈ l.fl ∧ e.t ≤ now := ⟨List.mem_of_mem_take he, (cut_facts (okP_of h).ord now).1 e he⟩
/-- what has all arrived is delivered -/
theorem deliv_cnt {l : Lm} (h : OkL l) {now : Int} {j : Nat} (hj : ∀ e ∈ l.fl, headB j e.p = true → e.t ≤ now) : cntH j ((l.fl.take (atE (laterB now) l.fl)).map Em.p) = cntH j (l.fl.map Em.p) := by
  have h2 : cntH j (l.fl.map Em.p) = cntH j ((l.fl.take (atE (laterB now) l.fl)).map Em.p) + cntH j ((l.fl.drop (atE (laterB now) l.fl)).map Em.p) := by
    unfold cntH
    rw [← List.countP_append, ← List.map_append, List.take_append_drop]
  rw [h2, cntH_none (l := (l.fl.drop (atE (laterB now) l.fl)).map Em.p), Nat.add_zero]
  intro p hp
  obtain ⟨e, he, rfl⟩ := List.mem_map.1 hp
  rcases Bool.eq_false_or_eq_true (headB j e.p) with hb | hb
  · have h3 := hj e (List.mem_of_mem_drop he) hb
    have h4 := (cut_facts (okP_of h).ord now).2 e he
    omega
  · exact hb
/-- at the greatest time all is delivered -/
theorem deliv_all {l : Lm} (h : OkL l) : delivM l 1073741824 = ({ l with fl := [] }, l.fl.map Em.p) := by
  have hd : l.fl.drop (atE (laterB 1073741824) l.fl) = [] := by
    rcases hx : l.fl.drop (atE (laterB 1073741824) l.fl) with _ | ⟨e, l'⟩
    · rfl
    · have he : e ∈ l.fl.drop (atE (laterB 1073741824) l.fl) := by rw [hx]; simp
      have h4 := (cut_facts (okP_of h).ord 1073741824).2 e he
      have h5 := (wrong_fact (h.each e (List.mem_of_mem_drop he))).2.1
      omega
  have ht : l.fl.take (atE (laterB 1073741824) l.fl) = l.fl := by
    have := List.take_append_drop (atE (laterB 1073741824) l.fl) l.fl
    rw [hd, List.append_nil] at this
    exact this
  rw [deliv_ok h, hd, ht]
theorem cntH_take {j i : Nat} {l : List (List Nat)} {p : List Nat} (h : l[i]? = some p) : cntH j (l.take (i + 1)) = cntH j (l.take i) + (if headB j p = true then 1 else 0) := by
  rw [List.take_add_one, h]
  unfold cntH
  rw [List.countP_append]
  simp
end Go.Proofs.Ytjaoppopfeonhaa
