/- What an answer does to a transmission's sender; what holds behind each step. No condition. -/
import Derived.Test.YtanmndhdhlmjgaaMathL
import Derived.Test.YtanmndhdhlmjgaaRj
import Derived.Test.YtanmndhdhlmjgaaRg
namespace Go.Proofs.Ytanmndhdhlmjgaa
theorem tw_spec : ∀ l : List Om, (l.takeWhile (·.ak)).length ≤ l.length ∧ (∀ i (h : i < l.length), i < (l.takeWhile (·.ak)).length → l[i].ak = true) ∧ (∀ h : (l.takeWhile (·.ak)).length < l.length, (l[(l.takeWhile (·.ak)).length]'h).ak = false)
  | [] => ⟨by simp, fun i h => by simp at h, fun h => by simp at h⟩
  | o :: l => by
    have ih := tw_spec l
    by_cases ho : o.ak = true
    · have e : (o :: l).takeWhile (·.ak) = o :: l.takeWhile (·.ak) := by rw [List.takeWhile_cons, if_pos ho]
      refine ⟨by rw [e]; simp only [List.length_cons]; omega, fun i h hi => ?_, fun h => ?_⟩
      · rw [e, List.length_cons] at hi
        cases i with
        | zero => exact ho
        | succ i => exact ih.2.1 i (by simpa using h) (by omega)
      · have h2 : (l.takeWhile (·.ak)).length < l.length := by rw [e] at h; simpa using h
        have h3 := ih.2.2 h2
        simp only [e, List.length_cons, List.getElem_cons_succ]
        exact h3
    · have e : (o :: l).takeWhile (·.ak) = [] := by rw [List.takeWhile_cons, if_neg ho]
      refine ⟨by rw [e]; simp, fun i h hi => by rw [e] at hi; simp at hi, fun h => ?_⟩
      simp only [e, List.length_nil, List.getElem_cons_zero]
      rwa [Bool.not_eq_true] at ho
theorem selB_pos (ack : Int) : ∀ (l : List Xm) (e : Int), selB ack e l = true → ∀ x ∈ l, 1 ≤ x.c
  | y :: l, e, h, x, hx => by
    rw [selB] at h
    split at h
    · cases h
    · rcases List.mem_cons.1 hx with rfl | hx
      · omega
      · exact selB_pos ack l _ h x hx
theorem sel_pos {p : Pm} (h : chkP p = 0) : ∀ x ∈ p.sel, 1 ≤ x.c := by
  unfold chkP at h
  split at h
  · cases h
  split at h
  · cases h
  split at h
  · cases h
  rename_i h3
  exact selB_pos p.ack p.sel p.ack (by simpa using h3)
/-- what an answer leaves -/
structure AkdI (pu : List (List Nat)) (rc : Int → Prop) (rn now : Int) (P : Nat) (rl : Int) (s : Sm) (p : Pm) (s2 : Sm) : Prop where
  si : SI pu rc rn now P s2
  next : s2.next = s.next
  lim : s2.lim = s.lim
  q : s2.q = s.q
  base : s.base ≤ s2.base
  crd : s2.base + s2.cred ≤ max (max (s.base + s.cred) (p.ack + p.cred)) s.next
  done : p.ack = s.next → s2.out = [] ∧ rl ≤ s2.cred
  keep : s2.base = s.base → s.cred ≤ s2.cred
theorem ack_i {pu : List (List Nat)} {rc : Int → Prop} {rn now rl : Int} {P K : Nat} {s : Sm} {p : Pm} (h : SI pu rc rn now P s) (hp : PyI K pu) (hK : K ≤ 1000) (h0 : 0 ≤ now) (hn : now ≤ 100000) (hP : P ≤ 100000) (ha : AnI rc rn rl p) (hr1 : ∀ n, rc n → n ≠ rn) (hr2 : ∀ n, rc n → n < s.next) (hr3 : ∀ n, n < rn → rc n) (hrl : 0 ≤ rl ∧ rl ≤ 8) : AkdI pu rc rn now P rl s p (ackS s now p).1 := by
  have hc := h.chk hp hK hn hP
  have e1 := h.b0
  have e2 := h.brn
  have e3 := h.rnx
  have e4 := h.end_
  have e5 := h.cr0
  have e6 := h.crd
  have e7 := ha.ack
  have e8 := ha.cred
  unfold ackS
  split
  · rename_i hna
    have hnb : p.ack < s.base := by
      rcases Int.lt_or_le p.ack s.base with hb | hb
      · exact hb
      · exfalso
        have hx : acceptB s now p = true := by
          unfold acceptB
          rw [Bool.and_eq_true, decide_eq_true_eq]
          refine ⟨⟨hc, by omega, ha.chk, ha.kind, by rw [ha.ses, h.ses], hb, by omega⟩, ?_⟩
          rw [Bool.not_eq_true', List.any_eq_false]
          intro x hx
          simp only [decide_eq_true_eq]
          intro hlt
          by_cases hxc : x.c < 1
          · -- extents are not empty
            have := (sel_pos ha.chk x hx)
            omega
          · have h9 := hr2 _ (ha.cov x hx (x.s + x.c - 1) (by omega) (by omega))
            omega
        rw [hx] at hna
        cases hna
    exact ⟨h, rfl, rfl, rfl, Int.le_refl _, Int.le_trans (Int.le_max_left _ _) (Int.le_max_left _ _), fun e => by omega, fun _ => Int.le_refl _⟩
  · rename_i hac
    rw [Bool.not_eq_false] at hac
    dsimp only
    obtain ⟨l, hl⟩ : ∃ l, l = s.out.map (ackO p) := ⟨_, rfl⟩
    rw [← hl]
    have hll : l.length = s.out.length := by rw [hl, List.length_map]
    obtain ⟨t1, t2, t3⟩ := tw_spec l
    obtain ⟨f, hf⟩ : ∃ f, f = (l.takeWhile (·.ak)).length := ⟨_, rfl⟩
    rw [← hf] at t1 t2 ⊢
    have t3 : ∀ hh : f < l.length, l[f].ak = false := by subst hf; exact t3
    clear hf
    have hab : ∀ n, ackedB p n = true → rc n := fun n hn => by
      unfold ackedB at hn
      rw [Bool.or_eq_true, decide_eq_true_eq, List.any_eq_true] at hn
      rcases hn with hn | ⟨x, hx, hxn⟩
      · exact hr3 n (by omega)
      · rw [decide_eq_true_eq] at hxn
        exact ha.cov x hx n hxn.1 hxn.2
    have hao : ∀ o : Om, (ackO p o).seq = o.seq ∧ (ackO p o).p = o.p ∧ (ackO p o).cnt = o.cnt ∧ (ackO p o).time = o.time ∧ ((ackO p o).ak = true → o.ak = true ∨ ackedB p o.seq = true) ∧ (ackedB p o.seq = true → (ackO p o).ak = true) := fun o => by
      unfold ackO
      split
      · rename_i hk
        rw [Bool.and_eq_true] at hk
        exact ⟨rfl, rfl, rfl, rfl, fun _ => .inr hk.2, fun _ => rfl⟩
      · rename_i hk
        refine ⟨rfl, rfl, rfl, rfl, fun e => .inl e, fun e => ?_⟩
        rw [e, Bool.and_true, Bool.not_eq_true', Bool.not_eq_false] at hk
        exact hk
    have hat : ∀ i (hi : i < l.length) (hs : i < s.out.length), l[i] = ackO p s.out[i] := fun i hi hs => by
      have : l[i]? = some (ackO p s.out[i]) := by rw [hl, List.getElem?_map, List.getElem?_eq_getElem hs]; rfl
      rw [List.getElem?_eq_getElem hi] at this
      injection this
    have hrec : ∀ i (hi : i < l.length), l[i].ak = true → rc (s.base + i) := fun i hi hk => by
      have ho := h.out i (by omega)
      rw [hat i hi (by omega)] at hk
      rcases (hao _).2.2.2.2.1 hk with hk | hk
      · exact ho.ak hk
      · rw [ho.seq] at hk
        exact hab _ hk
    have hbf : s.base + f ≤ rn := by
      rcases Int.lt_or_le rn (s.base + f) with hlt | hle
      · exfalso
        have hi : (rn - s.base).toNat < l.length := by omega
        have h1 := hrec _ hi (t2 _ hi (by omega))
        exact hr1 _ h1 (by omega)
      · exact hle
    refine ⟨⟨h.ses, h.lim, h.tmo, by dsimp only; omega, hbf, e3, by dsimp only; rw [List.length_drop]; omega, by dsimp only; rw [List.length_drop]; have := h.outl; omega, h.nxl, h.q, by dsimp only; omega, by dsimp only; omega, fun i hi => ?_⟩, rfl, rfl, rfl, by dsimp only; omega, by dsimp only; omega, fun hd => ⟨?_, by dsimp only; omega⟩, fun hb => ?_⟩
    · dsimp only at hi ⊢
      rw [List.length_drop] at hi
      have hi2 : f + i < l.length := by omega
      have hi3 : f + i < s.out.length := by omega
      have ho := h.out (f + i) hi3
      have hx := hao s.out[f + i]
      rw [List.getElem_drop, hat (f + i) hi2 hi3]
      have hn : s.base + ((f + i : Nat) : Int) = s.base + f + i := by push_cast; omega
      rw [hn] at ho
      refine ⟨hx.1.trans ho.seq, by rw [hx.2.2.1]; exact ho.cnt, by rw [hx.2.2.2.1]; exact ho.time, by rw [hx.2.1]; exact ho.p, fun hk => ?_, fun hz => ?_⟩
      · rcases hx.2.2.2.2.1 hk with hk | hk
        · exact ho.ak hk
        · rw [ho.seq] at hk
          exact hab _ hk
      · subst hz
        have h4 := t3 (by omega)
        rw [hat f (by omega) (by omega)] at h4
        simpa using h4
    · -- everything is acknowledged
      have hall : f = l.length := by
        rcases Nat.lt_or_ge f l.length with hlt | hge
        · exfalso
          have h4 := t3 hlt
          rw [hat f hlt (by omega)] at h4
          have ho := h.out f (by omega)
          have h5 := (hao s.out[f]).2.2.2.2.2 (by unfold ackedB; rw [ho.seq, Bool.or_eq_true, decide_eq_true_eq]; left; omega)
          rw [h5] at h4
          cases h4
        · omega
      dsimp only
      rw [hall, List.drop_length]
    · dsimp only at hb ⊢
      omega
end Go.Proofs.Ytanmndhdhlmjgaa
/- What holds behind each step of a transmission. No condition. -/
namespace Go.Proofs.Ytanmndhdhlmjgaa
/-- what holds of a transmission behind at most K pushes, P polls, A arrivals -/
structure Inv (K P A : Nat) (m : RunM) : Prop where
  pu : PyI K m.pu
  si : SI m.pu (rcv m.r) m.r.next m.now P m.s
  ri : RI m.pu m.s.next m.r m.dl
  pk : ∀ p ∈ m.pk, PI m.pu m.s.next p
  an : ∀ p ∈ m.an, AnI (rcv m.r) m.r.next m.r.lim p
  now : 0 ≤ m.now ∧ m.now ≤ 7 * P
  pkl : m.pk.length ≤ 17 * P
  anl : m.an.length ≤ A
section
variable {K P A : Nat} {m : RunM}
theorem Inv.mono (h : Inv K P A m) {K' P' A' : Nat} (h1 : K ≤ K') (h2 : P ≤ P') (h3 : A ≤ A') : Inv K' P' A' m := by
  refine ⟨⟨Nat.le_trans h.pu.len h1, h.pu.two⟩, { h.si with out := fun i hi => ?_ }, h.ri, h.pk, h.an, by have := h.now; omega, by have := h.pkl; omega, by have := h.anl; omega⟩
  have h4 := (h.si.out i hi).mono [] (fun _ h => h) (Int.le_refl _) h2
  rw [List.append_nil] at h4
  exact h4
theorem selB_few (ack : Int) : ∀ (l : List Xm) (e : Int), selB ack e l = true → ack ≤ e → (l.length : Int) ≤ ack + 64 - e ∨ l = []
  | [], _, _, _ => .inr rfl
  | x :: l, e, h, he => by
    rw [selB] at h
    split at h
    · cases h
    · rename_i hx
      left
      rcases selB_few ack l _ h (by omega) with h2 | h2
      · rw [List.length_cons]; push_cast; omega
      · rw [h2]; simp; omega
theorem chkP_sel {p : Pm} (h : chkP p = 0) : p.sel.length ≤ 10000 := by
  unfold chkP at h
  split at h
  · cases h
  split at h
  · cases h
  split at h
  · cases h
  rename_i h3
  rcases selB_few p.ack p.sel p.ack (by simpa using h3) (Int.le_refl _) with h4 | h4
  · omega
  · rw [h4]; simp
theorem PI.small {pu : List (List Nat)} {nx : Int} {p : Pm} (h : PI pu nx p) : SmallP p := by
  have h1 := chkP_ok h.chk
  have h2 := chkP_sel h.chk
  exact ⟨h2, by omega⟩
theorem Inv.right (h : Inv K P A m) (hK : K ≤ 1000) (hP : P ≤ 10000) : RightI m := by
  have h1 := h.ri.n0
  have h2 := h.ri.rnx
  have h3 := h.ri.nxl
  have h4 := h.now
  have hd : (m.dl.length : Int) = m.r.next := by rw [h.ri.dl, List.length_take]; omega
  have hp := h.pu.len
  refine ⟨by omega, ?_, hd, h.si.chk h.pu hK (by omega) (by omega), h.ri.chk h.pu hK, h.si.brn, h2, h3, by omega⟩
  rw [show m.dl.length = m.r.next.toNat by omega]
  exact h.ri.dl
theorem Inv.fit (h : Inv K P A m) (hK : K ≤ 80) (hP : P ≤ 2000) (hA : A ≤ 50000) : Fit m := by
  have hr := h.right (by omega) (by omega)
  have h1 := h.pu.len
  have h2 := h.now
  have h3 := h.pkl
  have h4 := h.anl
  have h5 := hr.n
  refine ⟨hr.cs, hr.cr, ?_, by omega, by omega, by omega, by omega, by omega, fun p hp => (h.pk p hp).small, fun p hp => ?_⟩
  · rw [h.si.q, List.length_drop]; omega
  · have h6 := h.an p hp
    have h7 := chkP_ok h6.chk
    exact ⟨chkP_sel h6.chk, by omega⟩
theorem Inv.push (h : Inv K P A m) (hK : K ≤ 79) (hP : P ≤ 2000) (hA : A ≤ 50000) : Inv (K + 1) P A (pshM m) := by
  have hf := h.fit (by omega) hP hA
  unfold pshM
  rw [hf.push]
  dsimp only
  have h1 := h.pu.len
  refine ⟨⟨by dsimp only; rw [List.length_append, List.length_singleton]; omega, fun p hp => ?_⟩, h.si.push _, h.ri.push _, fun p hp => (h.pk p hp).mono _ (Int.le_refl _), h.an, h.now, h.pkl, h.anl⟩
  rcases List.mem_append.1 hp with hp | hp
  · exact h.pu.two p hp
  · rw [List.mem_singleton] at hp
    rw [hp]
    rfl
theorem data_pi {pu : List (List Nat)} {rc : Int → Prop} {now n : Int} {P i : Nat} {o : Om} {nx : Int} {K : Nat} (h : OI pu rc now P n i o) (hp : PyI K pu) (hK : K ≤ 1000) (hn : n < nx) : PI pu nx (dataP 1 o) := by
  have h1 := h.p.1
  have h2 := h.p.lt
  have h3 := hp.len
  have h4 := h.p
  rw [← h.seq] at h4
  refine ⟨rfl, ?_, .inl ⟨rfl, by show 0 ≤ o.seq; rw [h.seq]; exact h1, by show o.seq < nx; rw [h.seq]; exact hn, h4⟩⟩
  unfold chkP dataP
  dsimp only
  rw [if_neg (by omega), if_neg (by rw [h.seq]; omega), if_neg (by simp [selB]), if_neg (by rw [hp.two _ h.p.mem]; omega), if_neg (by simp)]
theorem probe_pi {pu : List (List Nat)} {nx nx' : Int} (h : 0 ≤ nx ∧ nx ≤ 1000) : PI pu nx' ⟨2, 1, nx, 0, 0, [], []⟩ := by
  refine ⟨rfl, ?_, .inr rfl⟩
  unfold chkP
  dsimp only
  rw [if_neg (by omega), if_neg (by omega), if_neg (by simp [selB]), if_neg (by simp), if_neg (by simp)]
/-- a poll -/
theorem Inv.poll (h : Inv K P A m) (hK : K ≤ 80) (hP : P ≤ 2000) {t : Int} (ht : 0 ≤ t ∧ t ≤ 7) :
    Inv K (P + 1) A (pollM m t) ∧ PollI m.pu (rcv m.r) m.r.next (m.now + t) (P + 1) m.s (pollS m.s (m.now + t)) ∧
      (5 ≤ t → (pollS m.s (m.now + t)).2 = (pollS m.s (m.now + t)).1.out.flatMap (segO 1) ++ probeP (pollS m.s (m.now + t)).1) ∧
      ((pollS m.s (m.now + t)).1.q = [] ∨ min m.s.lim m.s.cred ≤ (pollS m.s (m.now + t)).1.out.length) := by
  have h1 := h.now
  obtain ⟨a, b, c⟩ := poll_i (now' := m.now + t) h.si h.pu (by omega) h1.1 (by omega) (by omega) (by omega)
  refine ⟨⟨h.pu, a.si, h.ri.next a.next.1 a.si.nxl, fun p hp => ?_, h.an, by show 0 ≤ m.now + t ∧ m.now + t ≤ 7 * (P + 1 : Nat); push_cast; omega, ?_, h.anl⟩, a, fun h5 => b (by omega), c⟩
  · rcases List.mem_append.1 hp with hp | hp
    · have h2 := (h.pk p hp).mono [] a.next.1
      rw [List.append_nil] at h2
      exact h2
    · rcases a.ps p hp with ⟨o, ho, rfl⟩ | rfl
      · obtain ⟨i, hi, rfl⟩ := List.getElem_of_mem ho
        have h3 := a.si.end_
        exact data_pi (a.si.out i hi) h.pu (by omega) (by show _ < (pollS m.s (m.now + t)).1.next; rw [h3]; omega)
      · have h2 := a.si.nxl
        have h3 := h.pu.len
        have h4 := a.si.rnx
        have h5 := h.ri.n0
        exact probe_pi (by omega)
  · show (m.pk ++ (pollS m.s (m.now + t)).2).length ≤ _
    rw [List.length_append]
    have := h.pkl
    have := a.few
    omega
/-- an arrival -/
theorem Inv.arr (h : Inv K P A m) (hK : K ≤ 80) {p : Pm} (hp : PI m.pu m.s.next p) : Inv K P (A + 1) (arrM m p) ∧ ArrI m.pu m.s.next m.r m.dl p (recvR m.r p) := by
  have a := arr_i h.ri h.pu (by omega) hp
  refine ⟨⟨h.pu, h.si.recv a.rc a.ge a.ri.rnx, a.ri, h.pk, fun q hq => ?_, h.now, h.pkl, ?_⟩, a⟩
  · show AnI (rcv (recvR m.r p).1) (recvR m.r p).1.next (recvR m.r p).1.lim q
    rcases List.mem_append.1 hq with hq | hq
    · have h2 := (h.an q hq).mono a.rc a.ge
      rw [← a.lim] at h2
      exact h2
    · rw [a.an, List.mem_singleton] at hq
      rw [hq]
      exact (answ_i a.ri h.pu (by omega)).1
  · show (m.an ++ (recvR m.r p).2.2).length ≤ _
    rw [List.length_append, a.an, List.length_singleton]
    have := h.anl
    omega
/-- an answer -/
theorem Inv.ans (h : Inv K P A m) (hK : K ≤ 80) (hP : P ≤ 2000) {p : Pm} (hp : AnI (rcv m.r) m.r.next m.r.lim p) : Inv K P A (ansM m p) ∧ AkdI m.pu (rcv m.r) m.r.next m.now P m.r.lim m.s p (ackS m.s m.now p).1 := by
  have h1 := h.now
  have h2 := h.ri.lim
  have a := ack_i h.si h.pu (by omega) h1.1 (by omega) (by omega) hp (fun n hn => rcv_not h.ri hn) (fun n hn => rcv_lt h.ri hn) (fun n hn => .inl hn) (by omega)
  have hx : (ansM m p).s.next = m.s.next := a.next
  refine ⟨⟨h.pu, a.si, ?_, fun q hq => ?_, h.an, h.now, h.pkl, h.anl⟩, a⟩
  · rw [hx]; exact h.ri
  · rw [hx]; exact h.pk q hq
theorem Inv.step (h : Inv K P A m) (hK : K ≤ 79) (hP : P ≤ 1999) (hA : A ≤ 49999) (n : Int) : Inv (K + 1) (P + 1) (A + 1) (stepR m n) := by
  unfold stepR
  split
  · exact (h.push hK (by omega) (by omega)).mono (by omega) (by omega) (by omega)
  split
  · exact (h.poll (by omega) (by omega) (t := ((stepK n % 8 : Nat) : Int)) (by omega)).1.mono (by omega) (by omega) (by omega)
  split
  · split
    · rename_i p hp
      exact (h.arr (by omega) (h.pk p (pickP_mem hp))).1.mono (by omega) (by omega) (by omega)
    · exact h.mono (by omega) (by omega) (by omega)
  · split
    · rename_i p hp
      exact (h.ans (by omega) (by omega) (h.an p (pickP_mem hp))).1.mono (by omega) (by omega) (by omega)
    · exact h.mono (by omega) (by omega) (by omega)
end
theorem inv_run0 (a b : Nat) : Inv 0 0 0 (run0 a b) := by
  unfold run0
  refine ⟨⟨by simp, nofun⟩, ⟨rfl, by dsimp only; omega, rfl, by simp, by simp, by simp, by simp, by dsimp only; simp; omega, by simp, by simp, by dsimp only; omega, by dsimp only; omega, fun i hi => by simp at hi⟩, ⟨rfl, by dsimp only; omega, by simp, ⟨nofun, nofun, nofun, List.Pairwise.nil⟩, by simp, nofun, nofun, by simp, by simp⟩, nofun, nofun, by simp, by simp, by simp⟩
theorem inv_runK (a b : Nat) (ns : List Int) : ∀ k, k ≤ ns.length → k ≤ 60 → Inv k k k (runK (run0 a b) ns k)
  | 0, _, _ => by rw [runK_zero]; exact inv_run0 a b
  | k + 1, h, h2 => by
    rw [runK_succ _ _ (by omega)]
    exact (inv_runK a b ns k (by omega) (by omega)).step (by omega) (by omega) (by omega) _
theorem goes_run (a b : Nat) (ns : List Int) (hl : ns.length ≤ 60) : Goes (run0 a b) ns :=
  ⟨fun k hk => (inv_runK a b ns k hk (by omega)).fit (by omega) (by omega) (by omega), fun k hk => (inv_runK a b ns k hk (by omega)).right (by omega) (by omega)⟩
end Go.Proofs.Ytanmndhdhlmjgaa
