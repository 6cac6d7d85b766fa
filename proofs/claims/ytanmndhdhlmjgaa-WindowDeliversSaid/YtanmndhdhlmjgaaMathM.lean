/- A transmission's receiver, its answers, and what an answer does to the sender. No condition. -/
import Derived.Test.YtanmndhdhlmjgaaMathL
import Derived.Test.YtanmndhdhlmjgaaMathH
namespace Go.Proofs.Ytanmndhdhlmjgaa
/-- a number has been received -/
def rcv (r : Rm) (n : Int) : Prop := n < r.next ∨ ∃ a ∈ r.early, a.seq = n
/-- what holds of a receiver; nx: the sender's next number -/
structure RI (pu : List (List Nat)) (nx : Int) (r : Rm) (dl : List (List Nat)) : Prop where
  ses : r.ses = 1
  lim : 1 ≤ r.lim ∧ r.lim ≤ 8
  n0 : 0 ≤ r.next
  ear : EarOk r.next (r.next + r.lim) r.early
  rnx : r.next ≤ nx
  earx : ∀ a ∈ r.early, a.seq < nx
  ep : ∀ a ∈ r.early, At pu a.seq a.p
  nxl : nx ≤ pu.length
  dl : dl = pu.take r.next.toNat
theorem sorted_len : ∀ (l : List Am) (a b : Int), l.Pairwise (fun x y => x.seq < y.seq) → (∀ x ∈ l, a < x.seq ∧ x.seq < b) → a < b → (l.length : Int) ≤ b - a - 1
  | [], a, b, _, _, h => by simp; omega
  | x :: l, a, b, ho, hx, h => by
    have ho := List.pairwise_cons.1 ho
    have h1 := hx x (by simp)
    have ih := sorted_len l x.seq b ho.2 (fun y hy => ⟨ho.1 y hy, (hx y (by simp [hy])).2⟩) h1.2
    rw [List.length_cons]
    push_cast
    omega
theorem RI.few {pu : List (List Nat)} {nx : Int} {r : Rm} {dl : List (List Nat)} (h : RI pu nx r dl) : (r.early.length : Int) < r.lim := by
  have h1 := h.lim
  have h2 := sorted_len r.early r.next (r.next + r.lim) h.ear.ord (fun x hx => ⟨h.ear.lo x hx, h.ear.hi x hx⟩) (by omega)
  omega
theorem RI.chk {pu : List (List Nat)} {nx : Int} {r : Rm} {dl : List (List Nat)} {K : Nat} (h : RI pu nx r dl) (hp : PyI K pu) (hK : K ≤ 1000) : chkR r = 0 := by
  have h1 := h.lim
  have h2 := h.n0
  have h3 := h.rnx
  have h4 := h.nxl
  have h5 := hp.len
  refine (chkR_ok r).2 ⟨by rw [h.ses]; omega, by omega, by omega, h.few, ⟨h.ear.lo, fun a ha => ?_, h.ear.len, h.ear.ord⟩⟩
  have h6 := h.ear.hi a ha
  have h7 := h.earx a ha
  omega
theorem RI.push {pu : List (List Nat)} {nx : Int} {r : Rm} {dl : List (List Nat)} (h : RI pu nx r dl) (x : List Nat) : RI (pu ++ [x]) nx r dl := by
  have h1 := h.rnx
  have h2 := h.nxl
  have h3 := h.n0
  refine ⟨h.ses, h.lim, h.n0, h.ear, h.rnx, h.earx, fun a ha => (h.ep a ha).append, by rw [List.length_append]; push_cast; omega, ?_⟩
  rw [h.dl, List.take_append_of_le_length (by omega)]
theorem RI.next {pu : List (List Nat)} {nx nx' : Int} {r : Rm} {dl : List (List Nat)} (h : RI pu nx r dl) (h1 : nx ≤ nx') (h2 : nx' ≤ pu.length) : RI pu nx' r dl :=
  ⟨h.ses, h.lim, h.n0, h.ear, by have := h.rnx; omega, fun a ha => by have := h.earx a ha; omega, h.ep, h2, h.dl⟩
theorem rcv_not {pu : List (List Nat)} {nx : Int} {r : Rm} {dl : List (List Nat)} (h : RI pu nx r dl) {n : Int} (hr : rcv r n) : n ≠ r.next := by
  rcases hr with hr | ⟨a, ha, rfl⟩
  · omega
  · have := h.ear.lo a ha; omega
theorem rcv_lt {pu : List (List Nat)} {nx : Int} {r : Rm} {dl : List (List Nat)} (h : RI pu nx r dl) {n : Int} (hr : rcv r n) : n < nx := by
  rcases hr with hr | ⟨a, ha, rfl⟩
  · have := h.rnx; omega
  · exact h.earx a ha
/-- what delivering leaves -/
structure DelI (pu : List (List Nat)) (n : Int) (l : List Am) (d1 : List (List Nat)) (d2 : Int) (d3 : List Am) : Prop where
  ge : n ≤ d2
  rest : ∀ a ∈ d3, d2 < a.seq ∧ a ∈ l
  ord : d3.Pairwise (fun x y => x.seq < y.seq)
  all : ∀ a ∈ l, a.seq < d2 ∨ a ∈ d3
  pay : pu.take n.toNat ++ d1 = pu.take d2.toNat
  top : ∀ nx, n ≤ nx → (∀ a ∈ l, a.seq < nx) → d2 ≤ nx
  hit : (∃ a ∈ l, a.seq = n) → n < d2
theorem deliv_i {pu : List (List Nat)} : ∀ (l : List Am) (n : Int), 0 ≤ n → l.Pairwise (fun x y => x.seq < y.seq) → (∀ a ∈ l, n ≤ a.seq) → (∀ a ∈ l, At pu a.seq a.p) → DelI pu n l (deliv n l).1 (deliv n l).2.1 (deliv n l).2.2
  | [], n, _, _, _, _ => by
    rw [deliv]
    exact ⟨Int.le_refl _, nofun, List.Pairwise.nil, nofun, by simp, fun _ h _ => h, fun ⟨_, h, _⟩ => nomatch h⟩
  | a :: l, n, h0, ho, hl, hp => by
    have ho := List.pairwise_cons.1 ho
    rw [deliv]
    split
    · rename_i he
      have ih := deliv_i l (n + 1) (by omega) ho.2 (fun b hb => by have := ho.1 b hb; omega) (fun b hb => hp b (by simp [hb]))
      show DelI pu n (a :: l) (a.p :: (deliv (n + 1) l).1) (deliv (n + 1) l).2.1 (deliv (n + 1) l).2.2
      generalize (deliv (n + 1) l).1 = d1 at *
      generalize (deliv (n + 1) l).2.1 = d2 at *
      generalize (deliv (n + 1) l).2.2 = d3 at *
      have h1 := ih.ge
      refine ⟨by omega, fun b hb => ⟨(ih.rest b hb).1, by simp [(ih.rest b hb).2]⟩, ih.ord, fun b hb => ?_, ?_, fun nx h2 h3 => ih.top nx (by have := h3 a (by simp); omega) (fun b hb => h3 b (by simp [hb])), fun _ => by omega⟩
      · rcases List.mem_cons.1 hb with rfl | hb
        · left; omega
        · exact ih.all b hb
      · have hat := hp a (by simp)
        rw [he] at hat
        have h4 := (List.getElem?_eq_some_iff.1 hat.2).1
        rw [← ih.pay, show (n + 1).toNat = n.toNat + 1 by omega, List.take_add_one, hat.2]
        simp
    · rename_i he
      have h1 := hl a (by simp)
      show DelI pu n (a :: l) [] n (a :: l)
      refine ⟨Int.le_refl _, fun b hb => ⟨?_, hb⟩, List.pairwise_cons.2 ho, fun b hb => .inr hb, by simp, fun nx h2 _ => h2, fun ⟨b, hb, hbn⟩ => ?_⟩
      · rcases List.mem_cons.1 hb with rfl | hb
        · omega
        · have := ho.1 b hb; omega
      · exfalso
        rcases List.mem_cons.1 hb with rfl | hb
        · exact he hbn
        · have := ho.1 b hb; omega
/-- the end of a list of extents -/
def endX (e : Int) (l : List Xm) : Int := match l.getLast? with | some x => x.s + x.c | none => e
theorem endX_nil (e : Int) : endX e [] = e := rfl
theorem endX_snoc (e : Int) (l : List Xm) (x : Xm) : endX e (l ++ [x]) = x.s + x.c := by unfold endX; simp
theorem endX_cons (e : Int) (x : Xm) (l : List Xm) : endX e (x :: l) = endX (x.s + x.c) l := by
  rcases nil_or_snoc l with rfl | ⟨L, b, rfl⟩
  · rfl
  · rw [endX_snoc, ← List.cons_append, endX_snoc]
theorem selB_snoc (ack : Int) : ∀ (l : List Xm) (e : Int) (x : Xm), selB ack e (l ++ [x]) = true ↔ selB ack e l = true ∧ ¬ (x.s ≤ endX e l ∨ x.c < 1 ∨ ack + 64 < x.s ∨ ack + 64 - x.s < x.c)
  | [], e, x => by
    rw [List.nil_append, endX_nil]
    by_cases h : x.s ≤ e ∨ x.c < 1 ∨ ack + 64 < x.s ∨ ack + 64 - x.s < x.c
    · simp only [selB]; rw [if_pos h]; simp [h]
    · simp only [selB]; rw [if_neg h]; simp [h]
  | y :: l, e, x => by
    rw [List.cons_append, selB, selB, endX_cons]
    split
    · simp
    · exact selB_snoc ack l _ x
/-- the numbers of extents are among those of a list -/
def Cov (xs : List Xm) (S : Int → Prop) : Prop := ∀ x ∈ xs, ∀ n, x.s ≤ n → n < x.s + x.c → S n
theorem sel_fold (ack : Int) : ∀ (l : List Am) (xs : List Xm) (S : Int → Prop), l.Pairwise (fun x y => x.seq < y.seq) → (∀ a ∈ l, endX ack xs ≤ a.seq) → (∀ a ∈ l, ack < a.seq ∧ a.seq < ack + 64) → selB ack ack xs = true → Cov xs S → (∀ a ∈ l, S a.seq) →
    selB ack ack (l.foldl (fun x a => addX x a.seq) xs) = true ∧ Cov (l.foldl (fun x a => addX x a.seq) xs) S
  | [], xs, S, _, _, _, h, hc, _ => ⟨h, hc⟩
  | a :: l, xs, S, ho, he, hb, h, hc, hs => by
    have ho := List.pairwise_cons.1 ho
    have h1 := he a (by simp)
    have h2 := hb a (by simp)
    have hsa := hs a (by simp)
    rw [List.foldl_cons]
    have key : selB ack ack (addX xs a.seq) = true ∧ Cov (addX xs a.seq) S ∧ endX ack (addX xs a.seq) = a.seq + 1 := by
      rcases nil_or_snoc xs with rfl | ⟨ys, y, rfl⟩
      · rw [addX_nil]
        refine ⟨?_, fun x hx n hn1 hn2 => ?_, ?_⟩
        · have := (selB_snoc ack [] ack ⟨a.seq, 1⟩).2 ⟨rfl, by rw [endX_nil]; dsimp only; omega⟩
          simpa using this
        · rw [List.mem_singleton] at hx
          subst hx
          dsimp only at hn1 hn2
          rw [show n = a.seq by omega]
          exact hsa
        · exact endX_snoc ack [] _
      · rw [endX_snoc] at h1
        obtain ⟨h3, h4⟩ := (selB_snoc ack ys ack y).1 h
        rw [addX_snoc]
        split
        · rename_i heq
          refine ⟨(selB_snoc ack ys ack _).2 ⟨h3, by dsimp only; omega⟩, fun x hx n hn1 hn2 => ?_, by rw [endX_snoc]; dsimp only; omega⟩
          rcases List.mem_append.1 hx with hx | hx
          · exact hc x (List.mem_append_left _ hx) n hn1 hn2
          · rw [List.mem_singleton] at hx
            subst hx
            dsimp only at hn1 hn2
            by_cases hn : n < y.s + y.c
            · exact hc y (by simp) n hn1 hn
            · rw [show n = a.seq by omega]
              exact hsa
        · rename_i heq
          refine ⟨(selB_snoc ack (ys ++ [y]) ack _).2 ⟨h, by rw [endX_snoc]; dsimp only; omega⟩, fun x hx n hn1 hn2 => ?_, by rw [endX_snoc]⟩
          rcases List.mem_append.1 hx with hx | hx
          · exact hc x hx n hn1 hn2
          · rw [List.mem_singleton] at hx
            subst hx
            dsimp only at hn1 hn2
            rw [show n = a.seq by omega]
            exact hsa
    exact sel_fold ack l _ S ho.2 (fun b hb2 => by rw [key.2.2]; have := ho.1 b hb2; omega) (fun b hb2 => hb b (by simp [hb2])) key.1 key.2.1 (fun b hb2 => hs b (by simp [hb2]))
/-- what holds of an answer -/
structure AnI (rc : Int → Prop) (rn rl : Int) (p : Pm) : Prop where
  ses : p.ses = 1
  kind : p.kind = 1
  chk : chkP p = 0
  ack : 0 ≤ p.ack ∧ p.ack ≤ rn
  cred : p.cred = rl
  cov : Cov p.sel rc
theorem AnI.mono {rc rc' : Int → Prop} {rn rn' rl : Int} {p : Pm} (h : AnI rc rn rl p) (h1 : ∀ n, rc n → rc' n) (h2 : rn ≤ rn') : AnI rc' rn' rl p :=
  ⟨h.ses, h.kind, h.chk, by have := h.ack; omega, h.cred, fun x hx n a b => h1 n (h.cov x hx n a b)⟩
theorem answ_i {pu : List (List Nat)} {nx : Int} {r : Rm} {dl : List (List Nat)} {K : Nat} (h : RI pu nx r dl) (hp : PyI K pu) (hK : K ≤ 1000) : AnI (rcv r) r.next r.lim (answP r) ∧ (answP r).ack = r.next := by
  have h1 := h.lim
  have h2 := h.n0
  have h3 := h.rnx
  have h4 := h.nxl
  have h5 := hp.len
  have hs := sel_fold r.next r.early [] (rcv r) h.ear.ord (fun a ha => by rw [endX_nil]; have := h.ear.lo a ha; omega) (fun a ha => ⟨h.ear.lo a ha, by have := h.ear.hi a ha; omega⟩) rfl nofun (fun a ha => .inr ⟨a, ha, rfl⟩)
  refine ⟨⟨h.ses, rfl, ?_, ⟨h2, Int.le_refl _⟩, rfl, hs.2⟩, rfl⟩
  unfold chkP answP
  dsimp only
  rw [if_neg (by omega), if_neg (by rw [h.ses]; omega), if_neg (by unfold selA; rw [hs.1]; simp), if_neg (by simp), if_neg (by simp)]
/-- what holds of a packet -/
structure PI (pu : List (List Nat)) (nx : Int) (p : Pm) : Prop where
  ses : p.ses = 1
  chk : chkP p = 0
  data : (p.kind = 0 ∧ 0 ≤ p.seq ∧ p.seq < nx ∧ At pu p.seq p.p) ∨ p.kind = 2
theorem PI.mono {pu : List (List Nat)} {nx nx' : Int} {p : Pm} (h : PI pu nx p) (l : List (List Nat)) (hn : nx ≤ nx') : PI (pu ++ l) nx' p :=
  ⟨h.ses, h.chk, h.data.imp (fun h => ⟨h.1, h.2.1, by omega, h.2.2.2.append⟩) id⟩
theorem insA_has (a : Am) : ∀ l : List Am, ∃ b ∈ insA a l, b.seq = a.seq
  | [] => ⟨a, by simp [insA], rfl⟩
  | c :: l => by
    rw [insA]
    split
    · obtain ⟨b, hb, h⟩ := insA_has a l
      exact ⟨b, by simp [hb], h⟩
    · split
      · rename_i h
        exact ⟨c, by simp, h⟩
      · exact ⟨a, by simp, rfl⟩
theorem insA_old (a : Am) : ∀ (l : List Am) (b : Am), b ∈ l → ∃ c ∈ insA a l, c.seq = b.seq
  | c :: l, b, hb => by
    rw [insA]
    split
    · rcases List.mem_cons.1 hb with rfl | hb
      · exact ⟨b, by simp, rfl⟩
      · obtain ⟨d, hd, h⟩ := insA_old a l b hb
        exact ⟨d, by simp [hd], h⟩
    · split
      · exact ⟨b, hb, rfl⟩
      · exact ⟨b, by simp [List.mem_cons.1 hb], rfl⟩
/-- what an arrival leaves -/
structure ArrI (pu : List (List Nat)) (nx : Int) (r : Rm) (dl : List (List Nat)) (p : Pm) (q : Rm × List (List Nat) × List Pm) : Prop where
  ri : RI pu nx q.1 (dl ++ q.2.1)
  lim : q.1.lim = r.lim
  ge : r.next ≤ q.1.next
  rc : ∀ n, rcv r n → rcv q.1 n
  an : q.2.2 = [answP q.1]
  hit : p.kind = 0 → p.seq = r.next → r.next < q.1.next
theorem arr_i {pu : List (List Nat)} {nx : Int} {r : Rm} {dl : List (List Nat)} {K : Nat} {p : Pm} (h : RI pu nx r dl) (hp : PyI K pu) (hK : K ≤ 1000) (hpk : PI pu nx p) : ArrI pu nx r dl p (recvR r p) := by
  have h1 := h.lim
  have h2 := h.n0
  have h3 := h.rnx
  have h4 := h.nxl
  have h5 := hp.len
  have hc := h.chk hp hK
  have hk1 : p.kind ≠ 1 := by rcases hpk.data with hd | hd <;> omega
  unfold recvR
  rw [if_neg (by rw [hc, hpk.chk, hpk.ses, h.ses]; simp; exact hk1)]
  dsimp only
  obtain ⟨r1, hr1⟩ : ∃ r1, r1 = (if p.kind = 0 then keepR r p else r) := ⟨_, rfl⟩
  rw [← hr1]
  have e1 : r1.ses = r.ses ∧ r1.lim = r.lim ∧ r1.next = r.next := by
    rw [hr1]
    split
    · have := keep_next r p; exact ⟨this.2.1, this.2.2, this.1⟩
    · exact ⟨rfl, rfl, rfl⟩
  have e2 : r1.early.Pairwise (fun x y => x.seq < y.seq) ∧ (∀ a ∈ r1.early, (r.next ≤ a.seq ∧ a.seq < r.next + r.lim) ∧ a.seq < nx ∧ At pu a.seq a.p) ∧ (∀ a ∈ r.early, ∃ b ∈ r1.early, b.seq = a.seq) ∧ (p.kind = 0 → p.seq = r.next → ∃ b ∈ r1.early, b.seq = r.next) := by
    have g0 : ∀ a ∈ r.early, (r.next ≤ a.seq ∧ a.seq < r.next + r.lim) ∧ a.seq < nx ∧ At pu a.seq a.p := fun a ha => ⟨⟨by have := h.ear.lo a ha; omega, h.ear.hi a ha⟩, h.earx a ha, h.ep a ha⟩
    rw [hr1]
    split
    · rename_i h0
      unfold keepR
      split
      · rename_i hw
        refine ⟨h.ear.ord, g0, fun a ha => ⟨a, ha, rfl⟩, fun _ e => ?_⟩
        rcases hpk.data with hd | hd
        · omega
        · omega
      · rename_i hw
        have hd : 0 ≤ p.seq ∧ p.seq < nx ∧ At pu p.seq p.p := by
          rcases hpk.data with hd | hd
          · exact hd.2
          · omega
        refine ⟨insA_ord _ h.ear.ord, fun a ha => ?_, fun a ha => ?_, fun _ e => ?_⟩
        · rcases insA_mem ha with rfl | ha
          · exact ⟨by dsimp only; omega, hd.2.1, hd.2.2⟩
          · exact g0 a ha
        · exact insA_old _ _ a ha
        · obtain ⟨b, hb, hb2⟩ := insA_has ⟨p.seq, p.p⟩ r.early
          exact ⟨b, hb, hb2.trans e⟩
    · exact ⟨h.ear.ord, g0, fun a ha => ⟨a, ha, rfl⟩, fun e _ => by contradiction⟩
  clear hr1
  have hd := deliv_i (pu := pu) r1.early r1.next (by rw [e1.2.2]; exact h2) e2.1 (fun a ha => by rw [e1.2.2]; exact (e2.2.1 a ha).1.1) (fun a ha => (e2.2.1 a ha).2.2)
  obtain ⟨⟨d1, d2, d3⟩, hdd⟩ : ∃ d, deliv r1.next r1.early = d := ⟨_, rfl⟩
  rw [hdd] at hd ⊢
  clear hdd
  dsimp only at hd ⊢
  have f1 := hd.ge
  have f2 := hd.top nx (by rw [e1.2.2]; exact h3) (fun a ha => (e2.2.1 a ha).2.1)
  rw [e1.2.2] at f1
  have hpay := hd.pay
  rw [e1.2.2] at hpay
  refine ⟨⟨e1.1.trans h.ses, by rw [e1.2.1]; exact h1, by dsimp only; omega, ⟨fun a ha => (hd.rest a ha).1, fun a ha => ?_, fun a ha => ?_, hd.ord⟩, f2, fun a ha => (e2.2.1 a (hd.rest a ha).2).2.1, fun a ha => (e2.2.1 a (hd.rest a ha).2).2.2, h4, ?_⟩, e1.2.1, f1, fun n hn => ?_, rfl, fun k0 ks => ?_⟩
  · have := (e2.2.1 a (hd.rest a ha).2).1.2
    dsimp only
    rw [e1.2.1]
    omega
  · have := (e2.2.1 a (hd.rest a ha).2).2.2
    rw [hp.two _ this.mem]
    omega
  · rw [h.dl]
    exact hpay
  · rcases hn with hn | ⟨a, ha, rfl⟩
    · left; dsimp only; omega
    · obtain ⟨b, hb, hba⟩ := e2.2.2.1 a ha
      rcases hd.all b hb with hb2 | hb2
      · left; dsimp only; omega
      · exact .inr ⟨b, hb2, hba⟩
  · have := hd.hit (by rw [e1.2.2]; exact e2.2.2.2 k0 ks)
    rw [e1.2.2] at this
    exact this
end Go.Proofs.Ytanmndhdhlmjgaa
