/- What holds behind each step of a transmission. No condition. -/
import Derived.Test.YtanmndhdhlmjgaaMathN
import Derived.Test.YtanmndhdhlmjgaaRg
namespace Go.Proofs.Ytanmndhdhlmjgaa
/-- what holds of a transmission behind at most K pushes, P polls, A arrivals -/
structure Inv (K P A : Nat) (m : RunM) : Prop where
  pu : PyI K m.pu
  si : SI m.pu (rcv m.r) m.r.next m.now P m.s
  ri : RI m.pu m.s.next m.r m.dl
  pk : ∀ p ∈ m.pk, PI m.pu m.s.next p
  an : ∀ p ∈ m.an, AnI (rcv m.r) m.r.next m.r.lim p
  now : 0 ≤ m.now ∧ m.now ≤ 7 * P
  pkl : m.pk.length ≤ 17 * P
  anl : m.an.length ≤ A
section
variable {K P A : Nat} {m : RunM}
theorem Inv.mono (h : Inv K P A m) {K' P' A' : Nat} (h1 : K ≤ K') (h2 : P ≤ P') (h3 : A ≤ A') : Inv K' P' A' m := by
  refine ⟨⟨Nat.le_trans h.pu.len h1, h.pu.two⟩, { h.si with out := fun i hi => ?_ }, h.ri, h.pk, h.an, by have := h.now; omega, by have := h.pkl; omega, by have := h.anl; omega⟩
  have h4 := (h.si.out i hi).mono [] (fun _ h => h) (Int.le_refl _) h2
  rw [List.append_nil] at h4
  exact h4
theorem selB_few (ack : Int) : ∀ (l : List Xm) (e : Int), selB ack e l = true → ack ≤ e → (l.length : Int) ≤ ack + 64 - e ∨ l = []
  | [], _, _, _ => .inr rfl
  | x :: l, e, h, he => by
    rw [selB] at h
    split at h
    · cases h
    · rename_i hx
      left
      rcases selB_few ack l _ h (by omega) with h2 | h2
      · rw [List.length_cons]; push_cast; omega
      · rw [h2]; simp; omega
theorem chkP_sel {p : Pm} (h : chkP p = 0) : p.sel.length ≤ 10000 := by
  unfold chkP at h
  split at h
  · cases h
  split at h
  · cases h
  split at h
  · cases h
  rename_i h3
  rcases selB_few p.ack p.sel p.ack (by simpa using h3) (Int.le_refl _) with h4 | h4
  · omega
  · rw [h4]; simp
theorem PI.small {pu : List (List Nat)} {nx : Int} {p : Pm} (h : PI pu nx p) : SmallP p := by
  have h1 := chkP_ok h.chk
  have h2 := chkP_sel h.chk
  exact ⟨h2, by omega⟩
theorem Inv.right (h : Inv K P A m) (hK : K ≤ 1000) (hP : P ≤ 10000) : RightI m := by
  have h1 := h.ri.n0
  have h2 := h.ri.rnx
  have h3 := h.ri.nxl
  have h4 := h.now
  have hd : (m.dl.length : Int) = m.r.next := by rw [h.ri.dl, List.length_take]; omega
  have hp := h.pu.len
  refine ⟨by omega, ?_, hd, h.si.chk h.pu hK (by omega) (by omega), h.ri.chk h.pu hK, h.si.brn, h2, h3, by omega⟩
  rw [show m.dl.length = m.r.next.toNat by omega]
  exact h.ri.dl
theorem Inv.fit (h : Inv K P A m) (hK : K ≤ 80) (hP : P ≤ 2000) (hA : A ≤ 50000) : Fit m := by
  have hr := h.right (by omega) (by omega)
  have h1 := h.pu.len
  have h2 := h.now
  have h3 := h.pkl
  have h4 := h.anl
  have h5 := hr.n
  refine ⟨hr.cs, hr.cr, ?_, by omega, by omega, by omega, by omega, by omega, fun p hp => (h.pk p hp).small, fun p hp => ?_⟩
  · rw [h.si.q, List.length_drop]; omega
  · have h6 := h.an p hp
    have h7 := chkP_ok h6.chk
    exact ⟨chkP_sel h6.chk, by omega⟩
theorem Inv.push (h : Inv K P A m) (hK : K ≤ 79) (hP : P ≤ 2000) (hA : A ≤ 50000) : Inv (K + 1) P A (pshM m) := by
  have hf := h.fit (by omega) hP hA
  unfold pshM
  rw [hf.push]
  dsimp only
  have h1 := h.pu.len
  refine ⟨⟨by dsimp only; rw [List.length_append, List.length_singleton]; omega, fun p hp => ?_⟩, h.si.push _, h.ri.push _, fun p hp => (h.pk p hp).mono _ (Int.le_refl _), h.an, h.now, h.pkl, h.anl⟩
  rcases List.mem_append.1 hp with hp | hp
  · exact h.pu.two p hp
  · rw [List.mem_singleton] at hp
    rw [hp]
    rfl
theorem data_pi {pu : List (List Nat)} {rc : Int → Prop} {now n : Int} {P i : Nat} {o : Om} {nx : Int} {K : Nat} (h : OI pu rc now P n i o) (hp : PyI K pu) (hK : K ≤ 1000) (hn : n < nx) : PI pu nx (dataP 1 o) := by
  have h1 := h.p.1
  have h2 := h.p.lt
  have h3 := hp.len
  have h4 := h.p
  rw [← h.seq] at h4
  refine ⟨rfl, ?_, .inl ⟨rfl, by show 0 ≤ o.seq; rw [h.seq]; exact h1, by show o.seq < nx; rw [h.seq]; exact hn, h4⟩⟩
  unfold chkP dataP
  dsimp only
  rw [if_neg (by omega), if_neg (by rw [h.seq]; omega), if_neg (by simp [selB]), if_neg (by rw [hp.two _ h.p.mem]; omega), if_neg (by simp)]
theorem probe_pi {pu : List (List Nat)} {nx nx' : Int} (h : 0 ≤ nx ∧ nx ≤ 1000) : PI pu nx' ⟨2, 1, nx, 0, 0, [], []⟩ := by
  refine ⟨rfl, ?_, .inr rfl⟩
  unfold chkP
  dsimp only
  rw [if_neg (by omega), if_neg (by omega), if_neg (by simp [selB]), if_neg (by simp), if_neg (by simp)]
/-- a poll -/
theorem Inv.poll (h : Inv K P A m) (hK : K ≤ 80) (hP : P ≤ 2000) {t : Int} (ht : 0 ≤ t ∧ t ≤ 7) :
    Inv K (P + 1) A (pollM m t) ∧ PollI m.pu (rcv m.r) m.r.next (m.now + t) (P + 1) m.s (pollS m.s (m.now + t)) ∧
      (5 ≤ t → (pollS m.s (m.now + t)).2 = (pollS m.s (m.now + t)).1.out.flatMap (segO 1) ++ probeP (pollS m.s (m.now + t)).1) ∧
      ((pollS m.s (m.now + t)).1.q = [] ∨ min m.s.lim m.s.cred ≤ (pollS m.s (m.now + t)).1.out.length) := by
  have h1 := h.now
  obtain ⟨a, b, c⟩ := poll_i (now' := m.now + t) h.si h.pu (by omega) h1.1 (by omega) (by omega) (by omega)
  refine ⟨⟨h.pu, a.si, h.ri.next a.next.1 a.si.nxl, fun p hp => ?_, h.an, by show 0 ≤ m.now + t ∧ m.now + t ≤ 7 * (P + 1 : Nat); push_cast; omega, ?_, h.anl⟩, a, fun h5 => b (by omega), c⟩
  · rcases List.mem_append.1 hp with hp | hp
    · have h2 := (h.pk p hp).mono [] a.next.1
      rw [List.append_nil] at h2
      exact h2
    · rcases a.ps p hp with ⟨o, ho, rfl⟩ | rfl
      · obtain ⟨i, hi, rfl⟩ := List.getElem_of_mem ho
        have h3 := a.si.end_
        exact data_pi (a.si.out i hi) h.pu (by omega) (by show _ < (pollS m.s (m.now + t)).1.next; rw [h3]; omega)
      · have h2 := a.si.nxl
        have h3 := h.pu.len
        have h4 := a.si.rnx
        have h5 := h.ri.n0
        exact probe_pi (by omega)
  · show (m.pk ++ (pollS m.s (m.now + t)).2).length ≤ _
    rw [List.length_append]
    have := h.pkl
    have := a.few
    omega
/-- an arrival -/
theorem Inv.arr (h : Inv K P A m) (hK : K ≤ 80) {p : Pm} (hp : PI m.pu m.s.next p) : Inv K P (A + 1) (arrM m p) ∧ ArrI m.pu m.s.next m.r m.dl p (recvR m.r p) := by
  have a := arr_i h.ri h.pu (by omega) hp
  refine ⟨⟨h.pu, h.si.recv a.rc a.ge a.ri.rnx, a.ri, h.pk, fun q hq => ?_, h.now, h.pkl, ?_⟩, a⟩
  · show AnI (rcv (recvR m.r p).1) (recvR m.r p).1.next (recvR m.r p).1.lim q
    rcases List.mem_append.1 hq with hq | hq
    · have h2 := (h.an q hq).mono a.rc a.ge
      rw [← a.lim] at h2
      exact h2
    · rw [a.an, List.mem_singleton] at hq
      rw [hq]
      exact (answ_i a.ri h.pu (by omega)).1
  · show (m.an ++ (recvR m.r p).2.2).length ≤ _
    rw [List.length_append, a.an, List.length_singleton]
    have := h.anl
    omega
/-- an answer -/
theorem Inv.ans (h : Inv K P A m) (hK : K ≤ 80) (hP : P ≤ 2000) {p : Pm} (hp : AnI (rcv m.r) m.r.next m.r.lim p) : Inv K P A (ansM m p) ∧ AkdI m.pu (rcv m.r) m.r.next m.now P m.r.lim m.s p (ackS m.s m.now p).1 := by
  have h1 := h.now
  have h2 := h.ri.lim
  have a := ack_i h.si h.pu (by omega) h1.1 (by omega) (by omega) hp (fun n hn => rcv_not h.ri hn) (fun n hn => rcv_lt h.ri hn) (fun n hn => .inl hn) (by omega)
  have hx : (ansM m p).s.next = m.s.next := a.next
  refine ⟨⟨h.pu, a.si, ?_, fun q hq => ?_, h.an, h.now, h.pkl, h.anl⟩, a⟩
  · rw [hx]; exact h.ri
  · rw [hx]; exact h.pk q hq
theorem Inv.step (h : Inv K P A m) (hK : K ≤ 79) (hP : P ≤ 1999) (hA : A ≤ 49999) (n : Int) : Inv (K + 1) (P + 1) (A + 1) (stepR m n) := by
  unfold stepR
  split
  · exact (h.push hK (by omega) (by omega)).mono (by omega) (by omega) (by omega)
  split
  · exact (h.poll (by omega) (by omega) (t := ((stepK n % 8 : Nat) : Int)) (by omega)).1.mono (by omega) (by omega) (by omega)
  split
  · split
    · rename_i p hp
      exact (h.arr (by omega) (h.pk p (pickP_mem hp))).1.mono (by omega) (by omega) (by omega)
    · exact h.mono (by omega) (by omega) (by omega)
  · split
    · rename_i p hp
      exact (h.ans (by omega) (by omega) (h.an p (pickP_mem hp))).1.mono (by omega) (by omega) (by omega)
    · exact h.mono (by omega) (by omega) (by omega)
end
theorem inv_run0 (a b : Nat) : Inv 0 0 0 (run0 a b) := by
  unfold run0
  refine ⟨⟨by simp, nofun⟩, ⟨rfl, by dsimp only; omega, rfl, by simp, by simp, by simp, by simp, by dsimp only; simp; omega, by simp, by simp, by dsimp only; omega, by dsimp only; omega, fun i hi => by simp at hi⟩, ⟨rfl, by dsimp only; omega, by simp, ⟨nofun, nofun, nofun, List.Pairwise.nil⟩, by simp, nofun, nofun, by simp, by simp⟩, nofun, nofun, by simp, by simp, by simp⟩
theorem inv_runK (a b : Nat) (ns : List Int) : ∀ k, k ≤ ns.length → k ≤ 60 → Inv k k k (runK (run0 a b) ns k)
  | 0, _, _ => by rw [runK_zero]; exact inv_run0 a b
  | k + 1, h, h2 => by
    rw [runK_succ _ _ (by omega)]
    exact (inv_runK a b ns k (by omega) (by omega)).step (by omega) (by omega) (by omega) _
theorem goes_run (a b : Nat) (ns : List Int) (hl : ns.length ≤ 60) : Goes (run0 a b) ns :=
  ⟨fun k hk => (inv_runK a b ns k hk (by omega)).fit (by omega) (by omega) (by omega), fun k hk => (inv_runK a b ns k hk (by omega)).right (by omega) (by omega)⟩
end Go.Proofs.Ytanmndhdhlmjgaa
