/- The walk of the reference's Receive. Conditions: small. -/
import Derived.Test.YtanmndhdhlmjgaaYg
import Derived.Test.YtanmndhdhlmjgaaMathH
import Derived.Test.YtanmndhdhlmjgaaWq
import Derived.Test.YtanmndhdhlmjgaaYa
import Derived.Test.YtanmndhdhlmjgaaXc
namespace Go.Proofs.Ytanmndhdhlmjgaa
open Go.RowKit
theorem Turn.grownNew {base : Nat} {T : List TypeId} {A C D : World} {b : Option Nat} (h : Turn base T A C) (hg : C.grownBy D b) (hb : ∀ g, b = some g → A.heap.size ≤ g) : Turn base T A D := by
  have key : ∀ k, k < A.heap.size → D.heap[k]? = C.heap[k]? := fun k hk => hg.block k (Nat.lt_of_lt_of_le hk h.size) (fun q => by have := hb k q.symm; omega)
  exact ⟨hg.os.trans h.os, hg.tape.trans h.tape, hg.output.trans h.output, Nat.le_trans h.size hg.size, fun k hk hs => (key k hs).trans (h.low k hk hs),
    fun k o hk hno => (key k (Array.getElem?_eq_some_iff.1 hk).1).trans (h.block k o hk hno)⟩
section
variable {α : Type} {E : α → List Value} {R : World → Nat → α → Prop} {t : TypeId} {sz : Nat} {base low : Nat} {l : List α} {b : α} {w : World} {v : Value} {P : Program}
theorem wpList_pushH {ops : Array Oper} {rest : List Oper} {o : Oper} {a : Act} {Q : Exit → Act → World → Prop} (hgd : o.guard = none) (s x : Operand) (st : TypeId) (ho : o.op = .call { callee := .builtin .append, args := #[s, x], argTypes := #[st, st] }) (z : Value) (bytes : Nat) (ht : P.underlying st = some (.slice t)) (hinf : (P.info? t).map (fun i => (i.zero, i.size, i.bytes)) = some (some z, sz, bytes)) (hzs : z.cells.size = sz) (hsz : 0 < sz) (hE1 : ∀ u ∈ E b, u.oneCell' = true) (hEl : (E b).length = sz)
    (hs : a.eval s = v) (h : Own1 E R t sz w base low v l) (hl : base ≤ low) (hR : Abides R [t]) (hrb : R w base b) {g c : Nat} (hx : a.eval x = .slice (some ⟨g, 0, none⟩) 1 c) (hg : Blk w g t (E b).toArray) (hn : l.length ≤ 1000000) (hby : bytes ≤ 100) (hlow : low ≤ w.heap.size)
    (hK : ∀ v' w', PushedG E R t sz base low l b w v v' w' → wpList P ops Q rest (a.put o.dst v') w') : wpList P ops Q (o :: rest) a w := by
  obtain ⟨v', w', hrun, hp⟩ := run_pushG (P := P) st o.type z bytes ht hinf hzs hsz hE1 hEl h hl hR hrb (c := c) hg hn hby hlow
  refine wpList_plain hgd fun K hK' => ?_
  unfold Oper.wp execOp
  simp only [ho, resolve, invoke, builtin, Sem.run_bind, Sem.run_pure, Result.andThen_ok, List.map_toArray, List.map_cons, List.map_nil, hs, hx, hrun]
  exact hK' _ _ (hK v' w' hp)
end
theorem own_block_lt {w : World} {base : Nat} {e : TypeId} {size : Nat} {v : Value} {n : Nat} {xs : List Value} (h : w.ownsRow base e size v n xs) : ∀ k, v.ownBlock = some k → k < w.heap.size := by
  intro k hk
  rcases h.2 with ⟨rfl, _⟩ | ⟨g, cap, cur, rfl, _, hb, _⟩
  · simp [Value.ownBlock] at hk
  · simp [Value.ownBlock] at hk
    subst hk
    exact (Array.getElem?_eq_some_iff.1 hb).1
theorem byt_drew {V : World} {base : Nat} {e : Ae} (h : AeR V base e) : Byt V.drew base e.A e.p := Byt.up h (Below.refl _ V).drew
/-- the first loop's memory: the two arguments, the two results, the list in the making -/
structure AlM (w : World) (base : Nat) (r : Rm) (p : Pm) (ve vs vp : Value) (N : Nat) (va : Value) (es : List Ae) (W : World) : Prop where
  bR : Blk W w.heap.size 33 (rcC r ve)
  bK : Blk W (w.heap.size + 1) 55 (pkC p vs vp)
  bO : Blk W (w.heap.size + 1 + 1) 33 #[.int .i64 0, .int .i64 0, .int .i64 0, .slice none 0 0]
  bN : Blk W N 33 #[.int .i64 r.ses, .int .i64 r.lim, .int .i64 r.next, .slice none 0 0]
  all : Own1 encA AeR 84 2 W base w.heap.size va es
  bel : Below w.heap.size w W
section
variable {w : World} {base : Nat} {r : Rm} {p : Pm} {ve vs vp : Value} {N : Nat} {va : Value} {es : List Ae} {W W' : World}
theorem AlM.below (h : AlM w base r p ve vs vp N va es W) (hb : Below W.heap.size W W') : AlM w base r p ve vs vp N va es W' :=
  ⟨h.bR.below hb h.bR.lt, h.bK.below hb h.bK.lt, h.bO.below hb h.bO.lt, h.bN.below hb h.bN.lt, h.all.up hb (aeR_ab (by simp)), h.bel.trans (hb.mono h.bel.size)⟩
theorem AlM.push {b : Ae} {v' : Value} (h : AlM w base r p ve vs vp N va es W) (hp : Pushed encA AeR 84 2 base w.heap.size es b W v' W') : AlM w base r p ve vs vp N v' (es ++ [b]) W' :=
  ⟨h.bR.turn hp.turn (by simp), h.bK.turn hp.turn (by simp), h.bO.turn hp.turn (by simp), h.bN.turn hp.turn (by simp), hp.own, Turn.belowT h.bel hp.turn (Nat.le_refl _) h.bel.size⟩
end
/-- the second loop's memory: the result, what waits, what is delivered -/
structure DvM (w : World) (base : Nat) (r : Rm) (N : Nat) (W0 : World) (nx : Int) (vE vD : Value) (ea : List Ae) (qd : List Qe) (W : World) : Prop where
  bO : Blk W (w.heap.size + 1 + 1) 33 #[.int .i64 0, .int .i64 0, .int .i64 0, .slice none 0 0]
  bN : Blk W N 33 #[.int .i64 r.ses, .int .i64 r.lim, .int .i64 nx, vE]
  ear : Own1 encA AeR 84 2 W base W0.heap.size vE ea
  del : Own1 encQ QeR 42 1 W base W0.heap.size vD qd
  old : Turn base [33] W0 W
  bel : Below w.heap.size w W
section
variable {w : World} {base : Nat} {r : Rm} {N : Nat} {W0 : World} {nx : Int} {vE vD : Value} {ea : List Ae} {qd : List Qe} {W W' : World}
theorem DvM.below (h : DvM w base r N W0 nx vE vD ea qd W) (hb : Below W.heap.size W W') : DvM w base r N W0 nx vE vD ea qd W' :=
  ⟨h.bO.below hb h.bO.lt, h.bN.below hb h.bN.lt, h.ear.up hb (aeR_ab (by simp)), h.del.up hb (qeR_ab (by simp)), h.old.then_ hb, h.bel.trans (hb.mono h.bel.size)⟩
theorem DvM.cell (h : DvM w base r N W0 nx vE vD ea qd W) (hbw : base ≤ w.heap.size) (hN : w.heap.size + 1 + 1 < N) (k : Nat) (u : Value) (nx' : Int) (vE' : Value) (ea' : List Ae) (hc : (#[.int .i64 r.ses, .int .i64 r.lim, .int .i64 nx, vE] : Array Value).setIfInBounds k u = #[.int .i64 r.ses, .int .i64 r.lim, .int .i64 nx', vE'])
    (he : Own1 encA AeR 84 2 W base W0.heap.size vE' ea') : DvM w base r N W0 nx' vE' vD ea' qd (W.setCell ⟨N, k, none⟩ u) := by
  have hT : Turn base [33] W (W.setCell ⟨N, k, none⟩ u) := (Turn.refl base [33] W).set h.bN (by simp) (by omega) k u
  have hk := h.bN.set_ k u
  rw [hc] at hk
  exact ⟨h.bO.far (p := ⟨N, k, none⟩) (by dsimp only; omega) u, hk, he.turn hT (by simp) (aeR_ab (by simp)), h.del.turn hT (by simp) (qeR_ab (by simp)), h.old.trans hT, h.bel.setCell (p := ⟨N, k, none⟩) (by dsimp only; omega) u⟩
theorem DvM.pushD {b : Qe} {v' : Value} (h : DvM w base r N W0 nx vE vD ea qd W) (hw0 : base ≤ W0.heap.size) (hww : w.heap.size ≤ W0.heap.size) (hp : PushedG encQ QeR 42 1 base W0.heap.size qd b W vD v' W') : DvM w base r N W0 nx vE v' ea (qd ++ [b]) W' := by
  have hT := hp.p.turn
  have hTb := hT.base hw0
  exact ⟨h.bO.turn hT (by simp), h.bN.turn hT (by simp), h.ear.turn hTb (by simp) (aeR_ab (by simp)), hp.p.own, h.old.grownNew hp.g (fun g e => own_block_ge h.del.own g e), Turn.belowT h.bel hT hww h.bel.size⟩
/-- what waits has grown, its cell has not yet -/
theorem DvM.pushE {b : Ae} {v' : Value} (h : DvM w base r N W0 nx vE vD ea qd W) (hw0 : base ≤ W0.heap.size) (hww : w.heap.size ≤ W0.heap.size) (hbw : base ≤ w.heap.size) (hN : w.heap.size + 1 + 1 < N) (hp : PushedG encA AeR 84 2 base W0.heap.size ea b W vE v' W') : DvM w base r N W0 nx v' vD (ea ++ [b]) qd (W'.setCell ⟨N, 3, none⟩ v') := by
  have hT := hp.p.turn
  have hTb := hT.base hw0
  have hbN := h.bN.turn hT (by simp)
  have hbO := h.bO.turn hT (by simp)
  have hT2 : Turn base [33] W' (W'.setCell ⟨N, 3, none⟩ v') := (Turn.refl base [33] W').set hbN (by simp) (by omega) 3 v'
  exact ⟨hbO.far (p := ⟨N, 3, none⟩) (by dsimp only; omega) v', hbN.set_ 3 v', hp.p.own.turn hT2 (by simp) (aeR_ab (by simp)), (h.del.turn hTb (by simp) (qeR_ab (by simp))).turn hT2 (by simp) (qeR_ab (by simp)), (h.old.grownNew hp.g (fun g e => own_block_ge h.ear.own g e)).trans hT2, (Turn.belowT h.bel hT hww h.bel.size).setCell (p := ⟨N, 3, none⟩) (by dsimp only; omega) v'⟩
end
set_option maxRecDepth 100000 in
set_option maxHeartbeats 16000000 in
set_option linter.unusedSimpArgs false in
theorem refReceive_any (r : Rm) (p : Pm) (v pv : Value) (base : Nat) (w : World) (hv : RcV w base r v) (hs : SmallR r) (hp : PkV w base p pv) (hsp : SmallP p) (hbw : base ≤ w.heap.size) :
    Calls Try.prog 33 #[v, pv] w (RecvR w base r p) := by
  have HV := Lib.hid hv
  have HP := Lib.hid hp
  obtain ⟨ve, rfl, es0, hE, heE⟩ := hv
  obtain ⟨Ae0, ce, rfl, hlc, hcm, -⟩ := hE.val
  obtain ⟨vs, vp, rfl, hX, Ap, cp, rfl, hB⟩ := hp
  obtain ⟨As, cs, rfl, hls, hcs⟩ := hX.form
  clear hX hlc hcm hls hcs
  obtain ⟨no, hno⟩ : ∃ n, es0.length = n := ⟨_, rfl⟩
  have hnr : r.early.length = no := by rw [← heE, List.length_map, hno]
  obtain ⟨ns, hns⟩ : ∃ n, p.sel.length = n := ⟨_, rfl⟩
  obtain ⟨np, hnp⟩ : ∃ n, p.p.length = n := ⟨_, rfl⟩
  rw [hno] at HV ⊢
  rw [hns, hnp] at HP ⊢
  have HSM := Lib.hid (And.intro hs hsp)
  have HEE := Lib.hid (And.intro hE (And.intro heE (And.intro hno (And.intro hnr (And.intro hB hnp)))))
  clear hs hsp hE heE hno hnr hns hnp hB
  unfold rcC at HV ⊢
  unfold pkC at HP ⊢
  have HW : Hid (Blk (((w.alloc (.cells #[.int .i64 r.ses, .int .i64 r.lim, .int .i64 r.next, .slice Ae0 no ce] 33)).alloc (.cells #[.int .i64 p.kind, .int .i64 p.ses, .int .i64 p.seq, .int .i64 p.ack, .int .i64 p.cred, .slice As ns cs, .slice Ap np cp] 55)).alloc (.cells #[.int .i64 0, .int .i64 0, .int .i64 0, .slice none 0 0] 33)) (w.heap.size) 33 #[.int .i64 r.ses, .int .i64 r.lim, .int .i64 r.next, .slice Ae0 no ce] ∧ Blk (((w.alloc (.cells #[.int .i64 r.ses, .int .i64 r.lim, .int .i64 r.next, .slice Ae0 no ce] 33)).alloc (.cells #[.int .i64 p.kind, .int .i64 p.ses, .int .i64 p.seq, .int .i64 p.ack, .int .i64 p.cred, .slice As ns cs, .slice Ap np cp] 55)).alloc (.cells #[.int .i64 0, .int .i64 0, .int .i64 0, .slice none 0 0] 33)) (w.heap.size + 1) 55 #[.int .i64 p.kind, .int .i64 p.ses, .int .i64 p.seq, .int .i64 p.ack, .int .i64 p.cred, .slice As ns cs, .slice Ap np cp] ∧ Blk (((w.alloc (.cells #[.int .i64 r.ses, .int .i64 r.lim, .int .i64 r.next, .slice Ae0 no ce] 33)).alloc (.cells #[.int .i64 p.kind, .int .i64 p.ses, .int .i64 p.seq, .int .i64 p.ack, .int .i64 p.cred, .slice As ns cs, .slice Ap np cp] 55)).alloc (.cells #[.int .i64 0, .int .i64 0, .int .i64 0, .slice none 0 0] 33)) (w.heap.size + 1 + 1) 33 #[.int .i64 0, .int .i64 0, .int .i64 0, .slice none 0 0] ∧ Below w.heap.size w (((w.alloc (.cells #[.int .i64 r.ses, .int .i64 r.lim, .int .i64 r.next, .slice Ae0 no ce] 33)).alloc (.cells #[.int .i64 p.kind, .int .i64 p.ses, .int .i64 p.seq, .int .i64 p.ack, .int .i64 p.cred, .slice As ns cs, .slice Ap np cp] 55)).alloc (.cells #[.int .i64 0, .int .i64 0, .int .i64 0, .slice none 0 0] 33))) := by
    have h1 := ((Blk.new w 33 #[.int .i64 r.ses, .int .i64 r.lim, .int .i64 r.next, .slice Ae0 no ce]).alloc (.cells #[.int .i64 p.kind, .int .i64 p.ses, .int .i64 p.seq, .int .i64 p.ack, .int .i64 p.cred, .slice As ns cs, .slice Ap np cp] 55)).alloc (.cells #[.int .i64 0, .int .i64 0, .int .i64 0, .slice none 0 0] 33)
    have h2 := (Blk.new (w.alloc (.cells #[.int .i64 r.ses, .int .i64 r.lim, .int .i64 r.next, .slice Ae0 no ce] 33)) 55 #[.int .i64 p.kind, .int .i64 p.ses, .int .i64 p.seq, .int .i64 p.ack, .int .i64 p.cred, .slice As ns cs, .slice Ap np cp]).alloc (.cells #[.int .i64 0, .int .i64 0, .int .i64 0, .slice none 0 0] 33)
    have h3 := Blk.new ((w.alloc (.cells #[.int .i64 r.ses, .int .i64 r.lim, .int .i64 r.next, .slice Ae0 no ce] 33)).alloc (.cells #[.int .i64 p.kind, .int .i64 p.ses, .int .i64 p.seq, .int .i64 p.ack, .int .i64 p.cred, .slice As ns cs, .slice Ap np cp] 55)) 33 #[.int .i64 0, .int .i64 0, .int .i64 0, .slice none 0 0]
    rw [World.size_alloc] at h2 h3
    rw [World.size_alloc] at h3
    exact ⟨h1, h2, h3, (((Below.refl _ w).alloc (Nat.le_refl _) _).alloc (by simp) _).alloc (by simp; omega) _⟩
  obtain ⟨ev, hev⟩ : ∃ n, chkR r = n := ⟨_, rfl⟩
  obtain ⟨pe, hpe⟩ : ∃ n, chkP p = n := ⟨_, rfl⟩
  have hc1 := refCheckReceiver_any r _ base (((w.alloc (.cells #[.int .i64 r.ses, .int .i64 r.lim, .int .i64 r.next, .slice Ae0 no ce] 33)).alloc (.cells #[.int .i64 p.kind, .int .i64 p.ses, .int .i64 p.seq, .int .i64 p.ack, .int .i64 p.cred, .slice As ns cs, .slice Ap np cp] 55)).alloc (.cells #[.int .i64 0, .int .i64 0, .int .i64 0, .slice none 0 0] 33)) (HV.out.up HW.out.2.2.2) HSM.out.1
  rw [hev] at hc1
  have HC1 := Lib.hid hc1
  have HE := Lib.hid (And.intro hev hpe)
  clear hc1 hev hpe
  go_enter Try.func33, Try.ntmps33
  go_wp2_with fail
  generalize (((w.alloc (.cells #[.int .i64 r.ses, .int .i64 r.lim, .int .i64 r.next, .slice Ae0 no ce] 33)).alloc (.cells #[.int .i64 p.kind, .int .i64 p.ses, .int .i64 p.seq, .int .i64 p.ack, .int .i64 p.cred, .slice As ns cs, .slice Ap np cp] 55)).alloc (.cells #[.int .i64 0, .int .i64 0, .int .i64 0, .slice none 0 0] 33)) = W at *
  refine HC1.out.mono ?_
  clear HC1
  rintro e w1 ⟨rfl, hb1⟩
  have HW1 := Lib.hid (And.intro (HW.out.1.below hb1 HW.out.1.lt) (And.intro (HW.out.2.1.below hb1 HW.out.2.1.lt) (And.intro (HW.out.2.2.1.below hb1 HW.out.2.2.1.lt) (HW.out.2.2.2.trans (hb1.mono HW.out.2.2.2.size)))))
  clear hb1
  have xc0 : w1.cell? ⟨w.heap.size, 0, none⟩ = some (.int .i64 r.ses) := HW1.out.1.cell 0
  have xc1 : w1.cell? ⟨w.heap.size, 1, none⟩ = some (.int .i64 r.lim) := HW1.out.1.cell 1
  have xc2 : w1.cell? ⟨w.heap.size, 2, none⟩ = some (.int .i64 r.next) := HW1.out.1.cell 2
  have xc3 : w1.cell? ⟨w.heap.size, 3, none⟩ = some (.slice Ae0 no ce) := HW1.out.1.cell 3
  have xk0 : w1.cell? ⟨w.heap.size + 1, 0, none⟩ = some (.int .i64 p.kind) := HW1.out.2.1.cell 0
  have xk1 : w1.cell? ⟨w.heap.size + 1, 1, none⟩ = some (.int .i64 p.ses) := HW1.out.2.1.cell 1
  have xk2 : w1.cell? ⟨w.heap.size + 1, 2, none⟩ = some (.int .i64 p.seq) := HW1.out.2.1.cell 2
  have xk3 : w1.cell? ⟨w.heap.size + 1, 3, none⟩ = some (.int .i64 p.ack) := HW1.out.2.1.cell 3
  have xk4 : w1.cell? ⟨w.heap.size + 1, 4, none⟩ = some (.int .i64 p.cred) := HW1.out.2.1.cell 4
  have xk5 : w1.cell? ⟨w.heap.size + 1, 5, none⟩ = some (.slice As ns cs) := HW1.out.2.1.cell 5
  have xk6 : w1.cell? ⟨w.heap.size + 1, 6, none⟩ = some (.slice Ap np cp) := HW1.out.2.1.cell 6
  have xd0 : w1.cell? ⟨w.heap.size + 1 + 1, 0, none⟩ = some (.int .i64 0) := HW1.out.2.2.1.cell 0
  have xd1 : w1.cell? ⟨w.heap.size + 1 + 1, 1, none⟩ = some (.int .i64 0) := HW1.out.2.2.1.cell 1
  have xd2 : w1.cell? ⟨w.heap.size + 1 + 1, 2, none⟩ = some (.int .i64 0) := HW1.out.2.2.1.cell 2
  have xd3 : w1.cell? ⟨w.heap.size + 1 + 1, 3, none⟩ = some (.slice none 0 0) := HW1.out.2.2.1.cell 3
  have xy0 := HW1.out.2.2.1.frozen 0
  have xy1 := HW1.out.2.2.1.frozen 1
  have xy2 := HW1.out.2.2.1.frozen 2
  have xy3 := HW1.out.2.2.1.frozen 3
  have lR := HW1.out.1.lt
  have lK := HW1.out.2.1.lt
  have lO := HW1.out.2.2.1.lt
  by_cases he : ev = 0
  rotate_left 1
  · have k0 : ((ev : Int) != 0) = true := by simpa using he
    have HM : Hid (recvR r p = (r, [], [])) := by show _ = _; unfold recvR; rw [if_pos (.inl (by rw [HE.out.1]; exact he))]
    have hkF := set33_blk HW1.out.2.2.1 (.int .i64 r.ses) (.int .i64 r.lim) (.int .i64 r.next) (.slice Ae0 no ce)
    have hbF := set33_below HW1.out.2.2.2 (g := w.heap.size + 1 + 1) (by omega) (.int .i64 r.ses) (.int .i64 r.lim) (.int .i64 r.next) (.slice Ae0 no ce)
    have HF := Lib.hid (And.intro hkF hbF)
    clear hkF hbF
    go_wp2_with fail
    refine bodyPost_ret (results_cell_tmp2 (t := 33) rfl _ _ (w.heap.size + 1 + 1) _ _ rfl HF.out.1 Try.underlying33 rfl (by kernel_rfl)) rfl ?_
    exact ⟨⟨_, _, _, rfl, by rw [HM.out]; exact HV.out.up HF.out.2, by rw [HM.out]; exact qsV_nil _ _, by rw [HM.out]; exact ksV_nil _ _⟩, HF.out.2⟩
  have k0 : ((ev : Int) != 0) = false := by simp [he]
  have HE0 := Lib.hid he
  clear he
  have hc2 := refPCheck_any p _ base w1 (HP.out.up HW1.out.2.2.2) HSM.out.2
  rw [HE.out.2] at hc2
  have HC2 := Lib.hid hc2
  clear hc2
  go_wp2_with fail
  refine HC2.out.mono ?_
  clear HC2
  rintro e w2 ⟨rfl, hb1⟩
  clear xc0 xc1 xc2 xc3 xk0 xk1 xk2 xk3 xk4 xk5 xk6 xd0 xd1 xd2 xd3 xy0 xy1 xy2 xy3 lR lK lO
  have HW2 := Lib.hid (And.intro (HW1.out.1.below hb1 HW1.out.1.lt) (And.intro (HW1.out.2.1.below hb1 HW1.out.2.1.lt) (And.intro (HW1.out.2.2.1.below hb1 HW1.out.2.2.1.lt) (HW1.out.2.2.2.trans (hb1.mono HW1.out.2.2.2.size)))))
  clear hb1
  have xc0 : w2.cell? ⟨w.heap.size, 0, none⟩ = some (.int .i64 r.ses) := HW2.out.1.cell 0
  have xc1 : w2.cell? ⟨w.heap.size, 1, none⟩ = some (.int .i64 r.lim) := HW2.out.1.cell 1
  have xc2 : w2.cell? ⟨w.heap.size, 2, none⟩ = some (.int .i64 r.next) := HW2.out.1.cell 2
  have xc3 : w2.cell? ⟨w.heap.size, 3, none⟩ = some (.slice Ae0 no ce) := HW2.out.1.cell 3
  have xk0 : w2.cell? ⟨w.heap.size + 1, 0, none⟩ = some (.int .i64 p.kind) := HW2.out.2.1.cell 0
  have xk1 : w2.cell? ⟨w.heap.size + 1, 1, none⟩ = some (.int .i64 p.ses) := HW2.out.2.1.cell 1
  have xk2 : w2.cell? ⟨w.heap.size + 1, 2, none⟩ = some (.int .i64 p.seq) := HW2.out.2.1.cell 2
  have xk3 : w2.cell? ⟨w.heap.size + 1, 3, none⟩ = some (.int .i64 p.ack) := HW2.out.2.1.cell 3
  have xk4 : w2.cell? ⟨w.heap.size + 1, 4, none⟩ = some (.int .i64 p.cred) := HW2.out.2.1.cell 4
  have xk5 : w2.cell? ⟨w.heap.size + 1, 5, none⟩ = some (.slice As ns cs) := HW2.out.2.1.cell 5
  have xk6 : w2.cell? ⟨w.heap.size + 1, 6, none⟩ = some (.slice Ap np cp) := HW2.out.2.1.cell 6
  have xd0 : w2.cell? ⟨w.heap.size + 1 + 1, 0, none⟩ = some (.int .i64 0) := HW2.out.2.2.1.cell 0
  have xd1 : w2.cell? ⟨w.heap.size + 1 + 1, 1, none⟩ = some (.int .i64 0) := HW2.out.2.2.1.cell 1
  have xd2 : w2.cell? ⟨w.heap.size + 1 + 1, 2, none⟩ = some (.int .i64 0) := HW2.out.2.2.1.cell 2
  have xd3 : w2.cell? ⟨w.heap.size + 1 + 1, 3, none⟩ = some (.slice none 0 0) := HW2.out.2.2.1.cell 3
  have xy0 := HW2.out.2.2.1.frozen 0
  have xy1 := HW2.out.2.2.1.frozen 1
  have xy2 := HW2.out.2.2.1.frozen 2
  have xy3 := HW2.out.2.2.1.frozen 3
  have lR := HW2.out.1.lt
  have lK := HW2.out.2.1.lt
  have lO := HW2.out.2.2.1.lt
  by_cases hp : pe = 0
  rotate_left 1
  · have k1 : ((pe : Int) != 0) = true := by simpa using hp
    have HM : Hid (recvR r p = (r, [], [])) := by show _ = _; unfold recvR; rw [if_pos (.inr (.inl (by rw [HE.out.2]; exact hp)))]
    have hkF := set33_blk HW2.out.2.2.1 (.int .i64 r.ses) (.int .i64 r.lim) (.int .i64 r.next) (.slice Ae0 no ce)
    have hbF := set33_below HW2.out.2.2.2 (g := w.heap.size + 1 + 1) (by omega) (.int .i64 r.ses) (.int .i64 r.lim) (.int .i64 r.next) (.slice Ae0 no ce)
    have HF := Lib.hid (And.intro hkF hbF)
    clear hkF hbF
    go_wp2_with fail
    refine bodyPost_ret (results_cell_tmp2 (t := 33) rfl _ _ (w.heap.size + 1 + 1) _ _ rfl HF.out.1 Try.underlying33 rfl (by kernel_rfl)) rfl ?_
    exact ⟨⟨_, _, _, rfl, by rw [HM.out]; exact HV.out.up HF.out.2, by rw [HM.out]; exact qsV_nil _ _, by rw [HM.out]; exact ksV_nil _ _⟩, HF.out.2⟩
  have k1 : ((pe : Int) != 0) = false := by simp [hp]
  have HP0 := Lib.hid hp
  clear hp
  by_cases hk : p.kind = 1
  · have k2 : (p.kind == 1) = true := by simpa using hk
    have HK := Lib.hid hk
    clear hk
    have HM : Hid (recvR r p = (r, [], [])) := by show _ = _; unfold recvR; rw [if_pos (.inr (.inr (.inl HK.out)))]
    have hkF := set33_blk HW2.out.2.2.1 (.int .i64 r.ses) (.int .i64 r.lim) (.int .i64 r.next) (.slice Ae0 no ce)
    have hbF := set33_below HW2.out.2.2.2 (g := w.heap.size + 1 + 1) (by omega) (.int .i64 r.ses) (.int .i64 r.lim) (.int .i64 r.next) (.slice Ae0 no ce)
    have HF := Lib.hid (And.intro hkF hbF)
    clear hkF hbF
    go_wp2_with fail
    refine bodyPost_ret (results_cell_tmp2 (t := 33) rfl _ _ (w.heap.size + 1 + 1) _ _ rfl HF.out.1 Try.underlying33 rfl (by kernel_rfl)) rfl ?_
    exact ⟨⟨_, _, _, rfl, by rw [HM.out]; exact HV.out.up HF.out.2, by rw [HM.out]; exact qsV_nil _ _, by rw [HM.out]; exact ksV_nil _ _⟩, HF.out.2⟩
  have k2 : (p.kind == 1) = false := by simpa using hk
  have HK1 := Lib.hid hk
  clear hk
  by_cases hd : p.ses = r.ses
  rotate_left 1
  · have k3 : (p.ses != r.ses) = true := by simpa using hd
    have HK := Lib.hid hd
    clear hd
    have HM : Hid (recvR r p = (r, [], [])) := by show _ = _; unfold recvR; rw [if_pos (.inr (.inr (.inr HK.out)))]
    have hkF := set33_blk HW2.out.2.2.1 (.int .i64 r.ses) (.int .i64 r.lim) (.int .i64 r.next) (.slice Ae0 no ce)
    have hbF := set33_below HW2.out.2.2.2 (g := w.heap.size + 1 + 1) (by omega) (.int .i64 r.ses) (.int .i64 r.lim) (.int .i64 r.next) (.slice Ae0 no ce)
    have HF := Lib.hid (And.intro hkF hbF)
    clear hkF hbF
    go_wp2_with fail
    refine bodyPost_ret (results_cell_tmp2 (t := 33) rfl _ _ (w.heap.size + 1 + 1) _ _ rfl HF.out.1 Try.underlying33 rfl (by kernel_rfl)) rfl ?_
    exact ⟨⟨_, _, _, rfl, by rw [HM.out]; exact HV.out.up HF.out.2, by rw [HM.out]; exact qsV_nil _ _, by rw [HM.out]; exact ksV_nil _ _⟩, HF.out.2⟩
  have k3 : (p.ses != r.ses) = false := by simpa using hd
  have HK3 := Lib.hid hd
  clear hd
  have hROk := (chkR_ok r).1 (by rw [HE.out.1]; exact HE0.out)
  have hsqb : ∀ a ∈ r.early, 0 ≤ a.seq ∧ a.seq ≤ 2147483648 := fun a ha => by
    have h1 := hROk.ear.lo a ha
    have h2 := hROk.ear.hi a ha
    have h3 := hROk.next
    omega
  have hlen : r.early.length ≤ 64 := by have := hROk.few; have := hROk.lim; omega
  have hnx := hROk.next
  have hlm := hROk.lim
  have hpl := hROk.ear.len
  have hcpk := chkP_ok (p := p) (by rw [HE.out.2]; exact HP0.out)
  have HMM := Lib.hid (recvR_eq (r := r) (p := p) (by rw [HE.out.1]; exact HE0.out) (by rw [HE.out.2]; exact HP0.out) HK1.out HK3.out)
  have HRO := Lib.hid (And.intro hsqb (And.intro hlen (And.intro hpl hcpk)))
  have hps := hcpk.1
  clear hROk hsqb hlen hpl hcpk
  have hM0 : AlM w base r p (.slice Ae0 no ce) (.slice As ns cs) (.slice Ap np cp) w2.heap.size (.slice none 0 0) [] (w2.alloc (.cells #[.int .i64 r.ses, .int .i64 r.lim, .int .i64 r.next, .slice none 0 0] 33)) := by
    have hb := (Below.refl w2.heap.size w2).alloc (Nat.le_refl _) (.cells #[.int .i64 r.ses, .int .i64 r.lim, .int .i64 r.next, .slice none 0 0] 33)
    exact ⟨HW2.out.1.below hb HW2.out.1.lt, HW2.out.2.1.below hb HW2.out.2.1.lt, HW2.out.2.2.1.below hb HW2.out.2.2.1.lt, Blk.new w2 33 _, Own1.nil, HW2.out.2.2.2.trans (hb.mono HW2.out.2.2.2.size)⟩
  have HM0 := Lib.hid hM0
  have hON : w.heap.size + 1 + 1 < w2.heap.size := HW2.out.2.2.1.lt
  clear hM0
  go_upto_region 4 with fail
  obtain ⟨N, hN⟩ : ∃ x, x = w2.heap.size := ⟨_, rfl⟩
  rw [← hN] at HM0 hON ⊢
  clear hN xc0 xc1 xc2 xc3 xk0 xk1 xk2 xk3 xk4 xk5 xk6 xd0 xd1 xd2 xd3 xy0 xy1 xy2 xy3 lR lK lO
  generalize (w2.alloc (.cells #[.int .i64 r.ses, .int .i64 r.lim, .int .i64 r.next, .slice none 0 0] 33)) = V at *
  have xk0 : V.cell? ⟨w.heap.size + 1, 0, none⟩ = some (.int .i64 p.kind) := HM0.out.bK.cell 0
  have xk2 : V.cell? ⟨w.heap.size + 1, 2, none⟩ = some (.int .i64 p.seq) := HM0.out.bK.cell 2
  have xc1 : V.cell? ⟨w.heap.size, 1, none⟩ = some (.int .i64 r.lim) := HM0.out.bR.cell 1
  have xc2 : V.cell? ⟨w.heap.size, 2, none⟩ = some (.int .i64 r.next) := HM0.out.bR.cell 2
  have lR := HM0.out.bR.lt
  have lK := HM0.out.bK.lt
  have kw : IntKind.i64.wrap (r.next + r.lim) = r.next + r.lim := by rw [IntWalk.i64_in _ (by omega)]
  go_cut [8] from 42 to 66 (fun s8 wx => s8 = .bool (keep0 r p) ∧ wx = V)
  case first =>
    by_cases h0 : p.kind = 0
    rotate_left 1
    · have k4 : (p.kind == 0) = false := by simpa using h0
      have HH := Lib.hid h0
      clear h0
      have HK : Hid (keep0 r p = false) := by show _ = _; unfold keep0; exact decide_eq_false (by rintro ⟨h0, h1, h2, h3⟩; exact HH.out h0)
      go_wp2_with fail
      go_meet
      exact ⟨by rw [HK.out], rfl⟩
    have k4 : (p.kind == 0) = true := by simpa using h0
    have HH0 := Lib.hid h0
    clear h0
    by_cases h1 : r.next ≤ p.seq
    rotate_left 1
    · have k5 : decide (r.next ≤ p.seq) = false := decide_eq_false h1
      have k5b : (r.next ≤ p.seq) = False := eq_false h1
      have HH := Lib.hid h1
      clear h1
      have HK : Hid (keep0 r p = false) := by show _ = _; unfold keep0; exact decide_eq_false (by rintro ⟨h0, h1, h2, h3⟩; exact HH.out h1)
      go_wp2_with fail
      go_meet
      exact ⟨by rw [HK.out], rfl⟩
    have k5 : decide (r.next ≤ p.seq) = true := decide_eq_true h1
    have HH1 := Lib.hid h1
    have k5b : (r.next ≤ p.seq) = True := eq_true h1
    clear h1
    by_cases h2 : p.seq < r.next + r.lim
    rotate_left 1
    · have k6 : decide (p.seq < r.next + r.lim) = false := decide_eq_false h2
      have k6b : (p.seq < r.next + r.lim) = False := eq_false h2
      have HH := Lib.hid h2
      clear h2
      have HK : Hid (keep0 r p = false) := by show _ = _; unfold keep0; exact decide_eq_false (by rintro ⟨h0, h1, h2, h3⟩; exact HH.out h2)
      go_wp2_with fail
      go_meet
      exact ⟨by rw [HK.out], rfl⟩
    have k6 : decide (p.seq < r.next + r.lim) = true := decide_eq_true h2
    have k6b : (p.seq < r.next + r.lim) = True := eq_true h2
    have HH2 := Lib.hid h2
    clear h2
    by_cases h3 : p.seq < 1073741824
    rotate_left 1
    · have k7 : decide (p.seq < 1073741824) = false := decide_eq_false h3
      have k7b : (p.seq < 1073741824) = False := eq_false h3
      have HH := Lib.hid h3
      clear h3
      have HK : Hid (keep0 r p = false) := by show _ = _; unfold keep0; exact decide_eq_false (by rintro ⟨h0, h1, h2, h3⟩; exact HH.out h3)
      go_wp2_with fail
      go_meet
      exact ⟨by rw [HK.out], rfl⟩
    have k7 : decide (p.seq < 1073741824) = true := decide_eq_true h3
    have k7b : (p.seq < 1073741824) = True := eq_true h3
    have HH3 := Lib.hid h3
    clear h3
    have HK : Hid (keep0 r p = true) := by show _ = _; unfold keep0; exact decide_eq_true ⟨HH0.out, HH1.out, HH2.out, HH3.out⟩
    go_wp2_with fail
    go_meet
    exact ⟨by rw [HK.out], rfl⟩
  case rest =>
    obtain ⟨rfl, rfl⟩ := hcut
    clear xk0 xk2 xc1 xc2 lR lK
    go_wp2_with fail
    go_loopw [8, 9, 10, 11] (fun v8 v9 v10 v11 wr => ∃ (k : Nat) (va : Value) (es : List Ae), k ≤ no ∧ v10 = .int .i64 k ∧ v9 = va ∧ v8 = .bool (stA r p k).2 ∧ Hid (AlM w base r p (.slice Ae0 no ce) (.slice As ns cs) (.slice Ap np cp) N va es wr ∧ es.map Ae.am = (stA r p k).1)) (fun _ _ v10 _ _ => no - (intOf v10).toNat)
    case atStart => exact ⟨0, _, [], by omega, rfl, rfl, rfl, ⟨HM0.out, rfl⟩⟩
    case round =>
      obtain ⟨k, va, es, hk, rfl, rfl, rfl, HS⟩ := hrel
      clear HM0
      obtain ⟨Aa, ca, rfl, -, -⟩ := HS.out.1.all.vform
      obtain ⟨kb, hkb⟩ : ∃ b, (stA r p k).2 = b := ⟨_, rfl⟩
      rw [hkb]
      have HKB := Lib.hid hkb
      clear hkb
      have hl : es.length ≤ 100 := by
        have h1 := congrArg List.length HS.out.2
        rw [List.length_map] at h1
        have h2 := stA_len r p k (by rw [HEE.out.2.2.2.1]; exact hk)
        have h3 := HRO.out.2.1
        have h4 := HEE.out.2.2.2.1
        omega
      have hnb : no ≤ 64 := by have h3 := HRO.out.2.1; have h4 := HEE.out.2.2.2.1; omega
      have xc3 : wr.cell? ⟨w.heap.size, 3, none⟩ = some (.slice Ae0 no ce) := HS.out.1.bR.cell 3
      have lR := HS.out.1.bR.lt
      by_cases hlt : k < no
      · have ik : (k : Int) < no := by omega
        have hkl : k < es0.length := by rw [HEE.out.2.2.1]; exact hlt
        have hkr : k < r.early.length := by rw [HEE.out.2.2.2.1]; exact hlt
        have hVw := HEE.out.1.up HS.out.1.bel (aeR_ab (by simp))
        obtain ⟨b, off, c2, hv2, _, _, hblt, hc⟩ := hVw.at_ (fun _ => rfl) (by omega) (by omega)
        injection hv2 with hA hn2 hc2
        subst hA hc2
        clear hn2
        have xd0 : wr.cell? ⟨b, off + k * 2, none⟩ = some (.int .i64 es0[k].seq) := hc k hkl 0 _ rfl
        have xd1 : wr.cell? ⟨b, off + k * 2 + 1, none⟩ = some (.slice es0[k].A es0[k].p.length es0[k].c) := hc k hkl 1 _ rfl
        have hsq0 : es0[k].am = r.early[k] := by simp [← HEE.out.2.1]
        have hsqb := HRO.out.1 r.early[k] (List.getElem_mem hkr)
        have hplb := HRO.out.2.2.1 r.early[k] (List.getElem_mem hkr)
        have hst := stA_succ r p hkr
        have hby := hVw.el es0[k] (List.getElem_mem hkl)
        rw [← hsq0] at hsqb hst hplb
        change 0 ≤ es0[k].seq ∧ es0[k].seq ≤ 2147483648 at hsqb
        change es0[k].p.length ≤ 4096 at hplb
        obtain ⟨E, hEq⟩ : ∃ E, E = es0[k] := ⟨_, rfl⟩
        rw [← hEq] at xd0 xd1 hsqb hplb hst hby
        obtain ⟨pl, hpl⟩ : ∃ n, E.p.length = n := ⟨_, rfl⟩
        rw [hpl] at xd1 hplb
        clear hc hVw hsq0 hkr hkl hEq
        have hbX : Below wr.heap.size wr (wr.alloc (.cells #[.int .i64 E.seq, .slice E.A pl E.c] 84)) := (Below.refl _ wr).alloc (Nat.le_refl _) _
        have hob : ∀ g, (Value.slice Aa es.length ca).ownBlock = some g → g < wr.heap.size := fun g e => own_block_lt HS.out.1.all.own g e
        have HX := Lib.hid (And.intro (HS.out.1.below hbX) (And.intro (Blk.new wr 84 #[.int .i64 E.seq, .slice E.A pl E.c]) (And.intro (aeR_ab (T := []) (by simp) _ _ _ _ (Turn.of_below hbX) hby) (And.intro HS.out.2 (And.intro hst (And.intro hpl hob))))))
        clear hbX hob hby hst hpl
        go_upto_region 10 with fail
        obtain ⟨X, hX⟩ : ∃ x, x = wr.heap.size := ⟨_, rfl⟩
        rw [← hX] at HX ⊢
        clear hX xd0 xd1 xc3 lR HS
        generalize (wr.alloc (.cells #[.int .i64 E.seq, .slice E.A pl E.c] 84)) = V at *
        have x0 : V.cell? ⟨X, 0, none⟩ = some (.int .i64 E.seq) := HX.out.2.1.cell 0
        have x1 : V.cell? ⟨X, 1, none⟩ = some (.slice E.A pl E.c) := HX.out.2.1.cell 1
        have xk2 : V.cell? ⟨w.heap.size + 1, 2, none⟩ = some (.int .i64 p.seq) := HX.out.1.bK.cell 2
        have xk6 : V.cell? ⟨w.heap.size + 1, 6, none⟩ = some (.slice Ap np cp) := HX.out.1.bK.cell 6
        have lX := HX.out.2.1.lt
        have lK := HX.out.1.bK.lt
        by_cases hq : E.seq = p.seq
        · have q1 : (E.seq == p.seq) = true := beq_iff_eq.2 hq
          have HQ := Lib.hid hq
          clear hq
          go_upto_region 15 with fail
          refine wp_region_lexP [(0, 1), (1, 1), (3, 1), (2, 1), (4, 1), (5, 0), (6, 1), (7, 0), (8, 0), (9, 2)] [8, 9] (fun w9 => w9.cell? ⟨X, 0, none⟩ = some (.int .i64 E.seq) ∧ w9.cell? ⟨X, 1, none⟩ = some (.slice E.A pl E.c)) (by kernel_rfl) (by kernel_rfl) (by kernel_rfl) (by kernel_rfl) (by kernel_rfl) ⟨x0, x1⟩ ?_
          repeat ((first | (refine lexP_read rfl (by rfl) (by first | exact wanted_none rfl | exact wanted_some (b := true) (c := true) rfl rfl rfl | exact wanted_some (b := false) (c := false) rfl rfl rfl) (by intro w9 hS9; (try dsimp only at hS9); go_simp <;> with_reducible rfl) ?_) | (refine lexP_skip rfl (fun _ => trivial) (by first | exact wanted_some (b := true) (c := false) rfl rfl rfl | exact wanted_some (b := false) (c := true) rfl rfl rfl) ?_) | (refine lexP_builtin rfl (fun _ => trivial) (by first | exact wanted_none rfl | exact wanted_some (b := true) (c := true) rfl rfl rfl | exact wanted_some (b := false) (c := false) rfl rfl rfl) (by intro w9 hS9; (try dsimp only at hS9); go_simp <;> with_reducible rfl) ?_)); (try simp only [Act.put, List.getElem_toArray, List.getElem_cons_succ, List.getElem_cons_zero, List.setIfInBounds_toArray, List.set_cons_zero, List.set_cons_succ]))
          refine lexP_eff rfl (fun _ => trivial) ?_
          go_simp
          refine CallsIn.mono ((callsIn_wide (n := 0)).2 (copied_any E.A pl E.c E.p V.drew (by have h := (byt_drew HX.out.2.2.1).rd; rw [HX.out.2.2.2.2.2.1] at h; exact h) (by omega))) ?_
          rintro z w3 ⟨⟨v3, rfl, hown3⟩, hb3⟩
          dsimp only
          obtain ⟨A3, c3, rfl, -, -, -⟩ := own_slice hown3
          have hb1 : Below V.heap.size V w3 := (Below.refl _ V).drew.trans hb3
          have x0y := (hb1.cell (p := ⟨X, 0, none⟩) lX).trans x0
          have x1y := (hb1.cell (p := ⟨X, 1, none⟩) lX).trans x1
          have lXy := Nat.lt_of_lt_of_le lX hb1.size
          refine ⟨⟨x0y, x1y⟩, ?_⟩
          (try simp only [Act.put, List.getElem_toArray, List.getElem_cons_succ, List.getElem_cons_zero, List.setIfInBounds_toArray, List.set_cons_zero, List.set_cons_succ])
          repeat ((first | (refine lexP_read rfl (by rfl) (by first | exact wanted_none rfl | exact wanted_some (b := true) (c := true) rfl rfl rfl | exact wanted_some (b := false) (c := false) rfl rfl rfl) (by intro w9 hS9; (try dsimp only at hS9); go_simp <;> with_reducible rfl) ?_) | (refine lexP_skip rfl (fun _ => trivial) (by first | exact wanted_some (b := true) (c := false) rfl rfl rfl | exact wanted_some (b := false) (c := true) rfl rfl rfl) ?_) | (refine lexP_builtin rfl (fun _ => trivial) (by first | exact wanted_none rfl | exact wanted_some (b := true) (c := true) rfl rfl rfl | exact wanted_some (b := false) (c := false) rfl rfl rfl) (by intro w9 hS9; (try dsimp only at hS9); go_simp <;> with_reducible rfl) ?_)); (try simp only [Act.put, List.getElem_toArray, List.getElem_cons_succ, List.getElem_cons_zero, List.setIfInBounds_toArray, List.set_cons_zero, List.set_cons_succ]))
          have hbN : Below w3.heap.size w3 (w3.alloc (.cells #[.int .i64 E.seq, .slice A3 pl c3] 84)) := (Below.refl _ w3).alloc (Nat.le_refl _) _
          have hbA := hb1.trans (hbN.mono hb1.size)
          have HN := Lib.hid (And.intro (HX.out.1.below hbA) (And.intro (byt_of_own (base := base) hown3 (HX.out.2.2.2.2.2.1) |>.up hbN) (Blk.new w3 84 #[.int .i64 E.seq, .slice A3 pl c3])))
          clear hb3 hown3 hb1 hbN hbA
          refine lexP_eff rfl (fun _ => trivial) ?_
          go_simp
          (try simp only [Act.put, List.getElem_toArray, List.getElem_cons_succ, List.getElem_cons_zero, List.setIfInBounds_toArray, List.set_cons_zero, List.set_cons_succ])
          refine lexP_pushG (E := encA) (R := AeR) (t := 84) (sz := 2) (base := base) (low := w.heap.size) (l := es) (b := (⟨E.seq, A3, c3, E.p⟩ : Ae)) (v := .slice Aa es.length ca) rfl (fun _ => trivial) _ _ 31 (by rfl) _ 32 Try.underlying31 info84 rfl (by omega) (encA_one _) rfl (by rfl) HN.out.1.all hbw (aeR_ab (by simp)) HN.out.2.1 (by rfl) (by unfold encA; dsimp only; rw [HX.out.2.2.2.2.2.1]; exact HN.out.2.2) (by omega) (by omega) HN.out.1.bel.size ?_
          intro v9 w9 hp9
          obtain ⟨A9, c9, rfl, -, -⟩ := hp9.p.own.vform
          have hl9 : (es ++ [(⟨E.seq, A3, c3, E.p⟩ : Ae)]).length = es.length + 1 := by simp
          have h9 := HN.out.1.push hp9.p
          rw [hl9] at h9
          try rw [hl9]
          have H9 := Lib.hid (h9)
          clear hl9 h9 hp9 HN
          refine ⟨.inl rfl, ?_⟩
          (try simp only [Act.put, List.getElem_toArray, List.getElem_cons_succ, List.getElem_cons_zero, List.setIfInBounds_toArray, List.set_cons_zero, List.set_cons_succ])
          repeat (refine lexP_late rfl (fun _ => trivial) (by rfl) (by intro w9; go_simp <;> with_reducible rfl) ?_; (try simp only [Act.put, List.getElem_toArray, List.getElem_cons_succ, List.getElem_cons_zero, List.setIfInBounds_toArray, List.set_cons_zero, List.set_cons_succ]))
          refine lexP_nil (panQ_normal ?_)
          clear x0 x1 xk2 xk6 lX lK
          go_wp2_with fail
          go_roundw
          case rel =>
            refine ⟨k + 1, _, es ++ [(⟨E.seq, A3, c3, E.p⟩ : Ae)], by omega, by go_num, rfl, ?_, ?_⟩
            · rw [HX.out.2.2.2.2.1]
              unfold stepA
              rw [if_neg (by rintro ⟨_, h, _⟩; exact h HQ.out)]; simp [show E.am.seq = p.seq from HQ.out]
            · refine ⟨H9.out, ?_⟩
              rw [HX.out.2.2.2.2.1]
              unfold stepA
              rw [if_neg (by rintro ⟨_, h, _⟩; exact h HQ.out), List.map_append, HX.out.2.2.2.1]; rfl
          case measure => simp [intOf]; omega
        have q1 : (E.seq == p.seq) = false := beq_eq_false_iff_ne.2 hq
        have HQ := Lib.hid hq
        clear hq
        cases kb with
        | false =>
          go_upto_region 15 with fail
          refine wp_region_lexP [(0, 1), (1, 1), (3, 1), (2, 1), (4, 1), (5, 0), (6, 1), (7, 0), (8, 0), (9, 2)] [8, 9] (fun w9 => w9.cell? ⟨X, 0, none⟩ = some (.int .i64 E.seq) ∧ w9.cell? ⟨X, 1, none⟩ = some (.slice E.A pl E.c)) (by kernel_rfl) (by kernel_rfl) (by kernel_rfl) (by kernel_rfl) (by kernel_rfl) ⟨x0, x1⟩ ?_
          repeat ((first | (refine lexP_read rfl (by rfl) (by first | exact wanted_none rfl | exact wanted_some (b := true) (c := true) rfl rfl rfl | exact wanted_some (b := false) (c := false) rfl rfl rfl) (by intro w9 hS9; (try dsimp only at hS9); go_simp <;> with_reducible rfl) ?_) | (refine lexP_skip rfl (fun _ => trivial) (by first | exact wanted_some (b := true) (c := false) rfl rfl rfl | exact wanted_some (b := false) (c := true) rfl rfl rfl) ?_) | (refine lexP_builtin rfl (fun _ => trivial) (by first | exact wanted_none rfl | exact wanted_some (b := true) (c := true) rfl rfl rfl | exact wanted_some (b := false) (c := false) rfl rfl rfl) (by intro w9 hS9; (try dsimp only at hS9); go_simp <;> with_reducible rfl) ?_)); (try simp only [Act.put, List.getElem_toArray, List.getElem_cons_succ, List.getElem_cons_zero, List.setIfInBounds_toArray, List.set_cons_zero, List.set_cons_succ]))
          refine lexP_eff rfl (fun _ => trivial) ?_
          go_simp
          refine CallsIn.mono ((callsIn_wide (n := 0)).2 (copied_any E.A pl E.c E.p V.drew (by have h := (byt_drew HX.out.2.2.1).rd; rw [HX.out.2.2.2.2.2.1] at h; exact h) (by omega))) ?_
          rintro z w3 ⟨⟨v3, rfl, hown3⟩, hb3⟩
          dsimp only
          obtain ⟨A3, c3, rfl, -, -, -⟩ := own_slice hown3
          have hb1 : Below V.heap.size V w3 := (Below.refl _ V).drew.trans hb3
          have x0y := (hb1.cell (p := ⟨X, 0, none⟩) lX).trans x0
          have x1y := (hb1.cell (p := ⟨X, 1, none⟩) lX).trans x1
          have lXy := Nat.lt_of_lt_of_le lX hb1.size
          refine ⟨⟨x0y, x1y⟩, ?_⟩
          (try simp only [Act.put, List.getElem_toArray, List.getElem_cons_succ, List.getElem_cons_zero, List.setIfInBounds_toArray, List.set_cons_zero, List.set_cons_succ])
          repeat ((first | (refine lexP_read rfl (by rfl) (by first | exact wanted_none rfl | exact wanted_some (b := true) (c := true) rfl rfl rfl | exact wanted_some (b := false) (c := false) rfl rfl rfl) (by intro w9 hS9; (try dsimp only at hS9); go_simp <;> with_reducible rfl) ?_) | (refine lexP_skip rfl (fun _ => trivial) (by first | exact wanted_some (b := true) (c := false) rfl rfl rfl | exact wanted_some (b := false) (c := true) rfl rfl rfl) ?_) | (refine lexP_builtin rfl (fun _ => trivial) (by first | exact wanted_none rfl | exact wanted_some (b := true) (c := true) rfl rfl rfl | exact wanted_some (b := false) (c := false) rfl rfl rfl) (by intro w9 hS9; (try dsimp only at hS9); go_simp <;> with_reducible rfl) ?_)); (try simp only [Act.put, List.getElem_toArray, List.getElem_cons_succ, List.getElem_cons_zero, List.setIfInBounds_toArray, List.set_cons_zero, List.set_cons_succ]))
          have hbN : Below w3.heap.size w3 (w3.alloc (.cells #[.int .i64 E.seq, .slice A3 pl c3] 84)) := (Below.refl _ w3).alloc (Nat.le_refl _) _
          have hbA := hb1.trans (hbN.mono hb1.size)
          have HN := Lib.hid (And.intro (HX.out.1.below hbA) (And.intro (byt_of_own (base := base) hown3 (HX.out.2.2.2.2.2.1) |>.up hbN) (Blk.new w3 84 #[.int .i64 E.seq, .slice A3 pl c3])))
          clear hb3 hown3 hb1 hbN hbA
          refine lexP_eff rfl (fun _ => trivial) ?_
          go_simp
          (try simp only [Act.put, List.getElem_toArray, List.getElem_cons_succ, List.getElem_cons_zero, List.setIfInBounds_toArray, List.set_cons_zero, List.set_cons_succ])
          refine lexP_pushG (E := encA) (R := AeR) (t := 84) (sz := 2) (base := base) (low := w.heap.size) (l := es) (b := (⟨E.seq, A3, c3, E.p⟩ : Ae)) (v := .slice Aa es.length ca) rfl (fun _ => trivial) _ _ 31 (by rfl) _ 32 Try.underlying31 info84 rfl (by omega) (encA_one _) rfl (by rfl) HN.out.1.all hbw (aeR_ab (by simp)) HN.out.2.1 (by rfl) (by unfold encA; dsimp only; rw [HX.out.2.2.2.2.2.1]; exact HN.out.2.2) (by omega) (by omega) HN.out.1.bel.size ?_
          intro v9 w9 hp9
          obtain ⟨A9, c9, rfl, -, -⟩ := hp9.p.own.vform
          have hl9 : (es ++ [(⟨E.seq, A3, c3, E.p⟩ : Ae)]).length = es.length + 1 := by simp
          have h9 := HN.out.1.push hp9.p
          rw [hl9] at h9
          try rw [hl9]
          have H9 := Lib.hid (h9)
          clear hl9 h9 hp9 HN
          refine ⟨.inl rfl, ?_⟩
          (try simp only [Act.put, List.getElem_toArray, List.getElem_cons_succ, List.getElem_cons_zero, List.setIfInBounds_toArray, List.set_cons_zero, List.set_cons_succ])
          repeat (refine lexP_late rfl (fun _ => trivial) (by rfl) (by intro w9; go_simp <;> with_reducible rfl) ?_; (try simp only [Act.put, List.getElem_toArray, List.getElem_cons_succ, List.getElem_cons_zero, List.setIfInBounds_toArray, List.set_cons_zero, List.set_cons_succ]))
          refine lexP_nil (panQ_normal ?_)
          clear x0 x1 xk2 xk6 lX lK
          go_wp2_with fail
          go_roundw
          case rel =>
            refine ⟨k + 1, _, es ++ [(⟨E.seq, A3, c3, E.p⟩ : Ae)], by omega, by go_num, rfl, ?_, ?_⟩
            · rw [HX.out.2.2.2.2.1]
              unfold stepA
              rw [if_neg (by rw [HKB.out]; simp), HKB.out]; rfl
            · refine ⟨H9.out, ?_⟩
              rw [HX.out.2.2.2.2.1]
              unfold stepA
              rw [if_neg (by rw [HKB.out]; simp), List.map_append, HX.out.2.2.2.1]; rfl
          case measure => simp [intOf]; omega
        | true =>
          by_cases hg : p.seq < E.seq
          rotate_left 1
          · have q2 : decide (p.seq < E.seq) = false := decide_eq_false hg
            have q2b : (p.seq < E.seq) = False := eq_false hg
            have HG := Lib.hid hg
            clear hg
            go_upto_region 15 with fail
            refine wp_region_lexP [(0, 1), (1, 1), (3, 1), (2, 1), (4, 1), (5, 0), (6, 1), (7, 0), (8, 0), (9, 2)] [8, 9] (fun w9 => w9.cell? ⟨X, 0, none⟩ = some (.int .i64 E.seq) ∧ w9.cell? ⟨X, 1, none⟩ = some (.slice E.A pl E.c)) (by kernel_rfl) (by kernel_rfl) (by kernel_rfl) (by kernel_rfl) (by kernel_rfl) ⟨x0, x1⟩ ?_
            repeat ((first | (refine lexP_read rfl (by rfl) (by first | exact wanted_none rfl | exact wanted_some (b := true) (c := true) rfl rfl rfl | exact wanted_some (b := false) (c := false) rfl rfl rfl) (by intro w9 hS9; (try dsimp only at hS9); go_simp <;> with_reducible rfl) ?_) | (refine lexP_skip rfl (fun _ => trivial) (by first | exact wanted_some (b := true) (c := false) rfl rfl rfl | exact wanted_some (b := false) (c := true) rfl rfl rfl) ?_) | (refine lexP_builtin rfl (fun _ => trivial) (by first | exact wanted_none rfl | exact wanted_some (b := true) (c := true) rfl rfl rfl | exact wanted_some (b := false) (c := false) rfl rfl rfl) (by intro w9 hS9; (try dsimp only at hS9); go_simp <;> with_reducible rfl) ?_)); (try simp only [Act.put, List.getElem_toArray, List.getElem_cons_succ, List.getElem_cons_zero, List.setIfInBounds_toArray, List.set_cons_zero, List.set_cons_succ]))
            refine lexP_eff rfl (fun _ => trivial) ?_
            go_simp
            refine CallsIn.mono ((callsIn_wide (n := 0)).2 (copied_any E.A pl E.c E.p V.drew (by have h := (byt_drew HX.out.2.2.1).rd; rw [HX.out.2.2.2.2.2.1] at h; exact h) (by omega))) ?_
            rintro z w3 ⟨⟨v3, rfl, hown3⟩, hb3⟩
            dsimp only
            obtain ⟨A3, c3, rfl, -, -, -⟩ := own_slice hown3
            have hb1 : Below V.heap.size V w3 := (Below.refl _ V).drew.trans hb3
            have x0y := (hb1.cell (p := ⟨X, 0, none⟩) lX).trans x0
            have x1y := (hb1.cell (p := ⟨X, 1, none⟩) lX).trans x1
            have lXy := Nat.lt_of_lt_of_le lX hb1.size
            refine ⟨⟨x0y, x1y⟩, ?_⟩
            (try simp only [Act.put, List.getElem_toArray, List.getElem_cons_succ, List.getElem_cons_zero, List.setIfInBounds_toArray, List.set_cons_zero, List.set_cons_succ])
            repeat ((first | (refine lexP_read rfl (by rfl) (by first | exact wanted_none rfl | exact wanted_some (b := true) (c := true) rfl rfl rfl | exact wanted_some (b := false) (c := false) rfl rfl rfl) (by intro w9 hS9; (try dsimp only at hS9); go_simp <;> with_reducible rfl) ?_) | (refine lexP_skip rfl (fun _ => trivial) (by first | exact wanted_some (b := true) (c := false) rfl rfl rfl | exact wanted_some (b := false) (c := true) rfl rfl rfl) ?_) | (refine lexP_builtin rfl (fun _ => trivial) (by first | exact wanted_none rfl | exact wanted_some (b := true) (c := true) rfl rfl rfl | exact wanted_some (b := false) (c := false) rfl rfl rfl) (by intro w9 hS9; (try dsimp only at hS9); go_simp <;> with_reducible rfl) ?_)); (try simp only [Act.put, List.getElem_toArray, List.getElem_cons_succ, List.getElem_cons_zero, List.setIfInBounds_toArray, List.set_cons_zero, List.set_cons_succ]))
            have hbN : Below w3.heap.size w3 (w3.alloc (.cells #[.int .i64 E.seq, .slice A3 pl c3] 84)) := (Below.refl _ w3).alloc (Nat.le_refl _) _
            have hbA := hb1.trans (hbN.mono hb1.size)
            have HN := Lib.hid (And.intro (HX.out.1.below hbA) (And.intro (byt_of_own (base := base) hown3 (HX.out.2.2.2.2.2.1) |>.up hbN) (Blk.new w3 84 #[.int .i64 E.seq, .slice A3 pl c3])))
            clear hb3 hown3 hb1 hbN hbA
            refine lexP_eff rfl (fun _ => trivial) ?_
            go_simp
            (try simp only [Act.put, List.getElem_toArray, List.getElem_cons_succ, List.getElem_cons_zero, List.setIfInBounds_toArray, List.set_cons_zero, List.set_cons_succ])
            refine lexP_pushG (E := encA) (R := AeR) (t := 84) (sz := 2) (base := base) (low := w.heap.size) (l := es) (b := (⟨E.seq, A3, c3, E.p⟩ : Ae)) (v := .slice Aa es.length ca) rfl (fun _ => trivial) _ _ 31 (by rfl) _ 32 Try.underlying31 info84 rfl (by omega) (encA_one _) rfl (by rfl) HN.out.1.all hbw (aeR_ab (by simp)) HN.out.2.1 (by rfl) (by unfold encA; dsimp only; rw [HX.out.2.2.2.2.2.1]; exact HN.out.2.2) (by omega) (by omega) HN.out.1.bel.size ?_
            intro v9 w9 hp9
            obtain ⟨A9, c9, rfl, -, -⟩ := hp9.p.own.vform
            have hl9 : (es ++ [(⟨E.seq, A3, c3, E.p⟩ : Ae)]).length = es.length + 1 := by simp
            have h9 := HN.out.1.push hp9.p
            rw [hl9] at h9
            try rw [hl9]
            have H9 := Lib.hid (h9)
            clear hl9 h9 hp9 HN
            refine ⟨.inl rfl, ?_⟩
            (try simp only [Act.put, List.getElem_toArray, List.getElem_cons_succ, List.getElem_cons_zero, List.setIfInBounds_toArray, List.set_cons_zero, List.set_cons_succ])
            repeat (refine lexP_late rfl (fun _ => trivial) (by rfl) (by intro w9; go_simp <;> with_reducible rfl) ?_; (try simp only [Act.put, List.getElem_toArray, List.getElem_cons_succ, List.getElem_cons_zero, List.setIfInBounds_toArray, List.set_cons_zero, List.set_cons_succ]))
            refine lexP_nil (panQ_normal ?_)
            clear x0 x1 xk2 xk6 lX lK
            go_wp2_with fail
            go_roundw
            case rel =>
              refine ⟨k + 1, _, es ++ [(⟨E.seq, A3, c3, E.p⟩ : Ae)], by omega, by go_num, rfl, ?_, ?_⟩
              · rw [HX.out.2.2.2.2.1]
                unfold stepA
                rw [if_neg (by rintro ⟨_, _, h⟩; exact HG.out h), HKB.out, show (E.am.seq == p.seq) = false from beq_eq_false_iff_ne.2 HQ.out]; rfl
              · refine ⟨H9.out, ?_⟩
                rw [HX.out.2.2.2.2.1]
                unfold stepA
                rw [if_neg (by rintro ⟨_, _, h⟩; exact HG.out h), List.map_append, HX.out.2.2.2.1]; rfl
            case measure => simp [intOf]; omega
          have q2 : decide (p.seq < E.seq) = true := decide_eq_true hg
          have q2b : (p.seq < E.seq) = True := eq_true hg
          have HG := Lib.hid hg
          clear hg
          go_upto_region 13 with fail
          refine wp_region_lexP [(0, 1), (1, 1), (3, 1), (2, 1), (4, 1), (5, 0), (6, 1), (7, 0), (8, 0), (9, 2)] [8, 9] (fun w9 => w9.cell? ⟨w.heap.size + 1, 2, none⟩ = some (.int .i64 p.seq) ∧ w9.cell? ⟨w.heap.size + 1, 6, none⟩ = some (.slice Ap np cp)) (by kernel_rfl) (by kernel_rfl) (by kernel_rfl) (by kernel_rfl) (by kernel_rfl) ⟨xk2, xk6⟩ ?_
          repeat ((first | (refine lexP_read rfl (by rfl) (by first | exact wanted_none rfl | exact wanted_some (b := true) (c := true) rfl rfl rfl | exact wanted_some (b := false) (c := false) rfl rfl rfl) (by intro w9 hS9; (try dsimp only at hS9); go_simp <;> with_reducible rfl) ?_) | (refine lexP_skip rfl (fun _ => trivial) (by first | exact wanted_some (b := true) (c := false) rfl rfl rfl | exact wanted_some (b := false) (c := true) rfl rfl rfl) ?_) | (refine lexP_builtin rfl (fun _ => trivial) (by first | exact wanted_none rfl | exact wanted_some (b := true) (c := true) rfl rfl rfl | exact wanted_some (b := false) (c := false) rfl rfl rfl) (by intro w9 hS9; (try dsimp only at hS9); go_simp <;> with_reducible rfl) ?_)); (try simp only [Act.put, List.getElem_toArray, List.getElem_cons_succ, List.getElem_cons_zero, List.setIfInBounds_toArray, List.set_cons_zero, List.set_cons_succ]))
          refine lexP_eff rfl (fun _ => trivial) ?_
          go_simp
          refine CallsIn.mono ((callsIn_wide (n := 0)).2 (copied_any Ap np cp p.p V.drew (by have h := ((HEE.out.2.2.2.2.1.up HX.out.1.bel).up (Below.refl _ V).drew).rd; rw [HEE.out.2.2.2.2.2] at h; exact h) (by have h := HRO.out.2.2.2.2.2.2; have h2 := HEE.out.2.2.2.2.2; omega))) ?_
          rintro z w3 ⟨⟨v3, rfl, hown3⟩, hb3⟩
          dsimp only
          obtain ⟨A3, c3, rfl, -, -, -⟩ := own_slice hown3
          have hb1 : Below V.heap.size V w3 := (Below.refl _ V).drew.trans hb3
          have xk2y := (hb1.cell (p := ⟨w.heap.size + 1, 2, none⟩) lK).trans xk2
          have xk6y := (hb1.cell (p := ⟨w.heap.size + 1, 6, none⟩) lK).trans xk6
          have lKy := Nat.lt_of_lt_of_le lK hb1.size
          refine ⟨⟨xk2y, xk6y⟩, ?_⟩
          (try simp only [Act.put, List.getElem_toArray, List.getElem_cons_succ, List.getElem_cons_zero, List.setIfInBounds_toArray, List.set_cons_zero, List.set_cons_succ])
          repeat ((first | (refine lexP_read rfl (by rfl) (by first | exact wanted_none rfl | exact wanted_some (b := true) (c := true) rfl rfl rfl | exact wanted_some (b := false) (c := false) rfl rfl rfl) (by intro w9 hS9; (try dsimp only at hS9); go_simp <;> with_reducible rfl) ?_) | (refine lexP_skip rfl (fun _ => trivial) (by first | exact wanted_some (b := true) (c := false) rfl rfl rfl | exact wanted_some (b := false) (c := true) rfl rfl rfl) ?_) | (refine lexP_builtin rfl (fun _ => trivial) (by first | exact wanted_none rfl | exact wanted_some (b := true) (c := true) rfl rfl rfl | exact wanted_some (b := false) (c := false) rfl rfl rfl) (by intro w9 hS9; (try dsimp only at hS9); go_simp <;> with_reducible rfl) ?_)); (try simp only [Act.put, List.getElem_toArray, List.getElem_cons_succ, List.getElem_cons_zero, List.setIfInBounds_toArray, List.set_cons_zero, List.set_cons_succ]))
          have hbN : Below w3.heap.size w3 (w3.alloc (.cells #[.int .i64 p.seq, .slice A3 np c3] 84)) := (Below.refl _ w3).alloc (Nat.le_refl _) _
          have hbA := hb1.trans (hbN.mono hb1.size)
          have HN := Lib.hid (And.intro (HX.out.1.below hbA) (And.intro (byt_of_own (base := base) hown3 (HEE.out.2.2.2.2.2) |>.up hbN) (Blk.new w3 84 #[.int .i64 p.seq, .slice A3 np c3])))
          have HNX := Lib.hid (And.intro (HX.out.2.1.below hbA HX.out.2.1.lt) (aeR_ab (T := []) (by simp) _ _ _ _ (Turn.of_below hbA) HX.out.2.2.1))
          clear hb3 hown3 hb1 hbN hbA
          refine lexP_eff rfl (fun _ => trivial) ?_
          go_simp
          (try simp only [Act.put, List.getElem_toArray, List.getElem_cons_succ, List.getElem_cons_zero, List.setIfInBounds_toArray, List.set_cons_zero, List.set_cons_succ])
          refine lexP_pushG (E := encA) (R := AeR) (t := 84) (sz := 2) (base := base) (low := w.heap.size) (l := es) (b := (⟨p.seq, A3, c3, p.p⟩ : Ae)) (v := .slice Aa es.length ca) rfl (fun _ => trivial) _ _ 31 (by rfl) _ 32 Try.underlying31 info84 rfl (by omega) (encA_one _) rfl (by rfl) HN.out.1.all hbw (aeR_ab (by simp)) HN.out.2.1 (by rfl) (by unfold encA; dsimp only; rw [HEE.out.2.2.2.2.2]; exact HN.out.2.2) (by omega) (by omega) HN.out.1.bel.size ?_
          intro v9 w8 hp9
          obtain ⟨A9a, c9a, rfl, -, -⟩ := hp9.p.own.vform
          have hl9 : (es ++ [(⟨p.seq, A3, c3, p.p⟩ : Ae)]).length = es.length + 1 := by simp
          have h9 := HN.out.1.push hp9.p
          have hx9 := HNX.out.1.grown hp9.g (fun e => by have h := HX.out.2.2.2.2.2.2 X (by first | exact e | exact e.symm); omega)
          have hy9 := aeR_ab (T := [84]) (by simp) _ _ _ _ (hp9.p.turn.base hbw) HNX.out.2
          rw [hl9] at h9
          try rw [hl9]
          have H9 := Lib.hid (And.intro h9 (And.intro hx9 hy9))
          clear hl9 h9 hp9 HN hx9 hy9 HNX
          refine ⟨.inl rfl, ?_⟩
          (try simp only [Act.put, List.getElem_toArray, List.getElem_cons_succ, List.getElem_cons_zero, List.setIfInBounds_toArray, List.set_cons_zero, List.set_cons_succ])
          repeat (refine lexP_late rfl (fun _ => trivial) (by rfl) (by intro w9; go_simp <;> with_reducible rfl) ?_; (try simp only [Act.put, List.getElem_toArray, List.getElem_cons_succ, List.getElem_cons_zero, List.setIfInBounds_toArray, List.set_cons_zero, List.set_cons_succ]))
          refine lexP_nil (panQ_normal ?_)
          clear x0 x1 xk2 xk6 lX lK
          obtain ⟨b1, hb1⟩ : ∃ b1 : Ae, b1 = ⟨p.seq, A3, c3, p.p⟩ := ⟨_, rfl⟩
          have HB1 : Hid (b1.am = ⟨p.seq, p.p⟩) := by show _ = _; rw [hb1]; rfl
          rw [← hb1] at H9
          clear hb1
          obtain ⟨es2, hes2⟩ : ∃ l, l = es ++ [b1] := ⟨_, rfl⟩
          have hn2 : es.length + 1 = es2.length := by rw [hes2]; simp
          have HE2 : Hid (es2.map Ae.am = es.map Ae.am ++ [⟨p.seq, p.p⟩]) := by show _ = _; rw [hes2, List.map_append, List.map_singleton, HB1.out]
          rw [← hes2, hn2] at H9
          rw [hn2]
          have hl2 : es2.length ≤ 101 := by omega
          clear hes2 hn2
          have x0 : w8.cell? ⟨X, 0, none⟩ = some (.int .i64 E.seq) := H9.out.2.1.cell 0
          have x1 : w8.cell? ⟨X, 1, none⟩ = some (.slice E.A pl E.c) := H9.out.2.1.cell 1
          have xk2 : w8.cell? ⟨w.heap.size + 1, 2, none⟩ = some (.int .i64 p.seq) := H9.out.1.bK.cell 2
          have xk6 : w8.cell? ⟨w.heap.size + 1, 6, none⟩ = some (.slice Ap np cp) := H9.out.1.bK.cell 6
          have lX := H9.out.2.1.lt
          have lK := H9.out.1.bK.lt
          have HY := Lib.hid H9.out.2.2
          have H8 := Lib.hid H9.out.1
          clear H9
          go_upto_region 15 with fail
          refine wp_region_lexP [(0, 1), (1, 1), (3, 1), (2, 1), (4, 1), (5, 0), (6, 1), (7, 0), (8, 0), (9, 2)] [8, 9] (fun w9 => w9.cell? ⟨X, 0, none⟩ = some (.int .i64 E.seq) ∧ w9.cell? ⟨X, 1, none⟩ = some (.slice E.A pl E.c)) (by kernel_rfl) (by kernel_rfl) (by kernel_rfl) (by kernel_rfl) (by kernel_rfl) ⟨x0, x1⟩ ?_
          repeat ((first | (refine lexP_read rfl (by rfl) (by first | exact wanted_none rfl | exact wanted_some (b := true) (c := true) rfl rfl rfl | exact wanted_some (b := false) (c := false) rfl rfl rfl) (by intro w9 hS9; (try dsimp only at hS9); go_simp <;> with_reducible rfl) ?_) | (refine lexP_skip rfl (fun _ => trivial) (by first | exact wanted_some (b := true) (c := false) rfl rfl rfl | exact wanted_some (b := false) (c := true) rfl rfl rfl) ?_) | (refine lexP_builtin rfl (fun _ => trivial) (by first | exact wanted_none rfl | exact wanted_some (b := true) (c := true) rfl rfl rfl | exact wanted_some (b := false) (c := false) rfl rfl rfl) (by intro w9 hS9; (try dsimp only at hS9); go_simp <;> with_reducible rfl) ?_)); (try simp only [Act.put, List.getElem_toArray, List.getElem_cons_succ, List.getElem_cons_zero, List.setIfInBounds_toArray, List.set_cons_zero, List.set_cons_succ]))
          refine lexP_eff rfl (fun _ => trivial) ?_
          go_simp
          refine CallsIn.mono ((callsIn_wide (n := 0)).2 (copied_any E.A pl E.c E.p w8.drew (by have h := (byt_drew HY.out).rd; rw [HX.out.2.2.2.2.2.1] at h; exact h) (by omega))) ?_
          rintro z w3 ⟨⟨v3, rfl, hown3⟩, hb3⟩
          dsimp only
          obtain ⟨A3, c3, rfl, -, -, -⟩ := own_slice hown3
          have hb1 : Below w8.heap.size w8 w3 := (Below.refl _ w8).drew.trans hb3
          have x0y := (hb1.cell (p := ⟨X, 0, none⟩) lX).trans x0
          have x1y := (hb1.cell (p := ⟨X, 1, none⟩) lX).trans x1
          have lXy := Nat.lt_of_lt_of_le lX hb1.size
          refine ⟨⟨x0y, x1y⟩, ?_⟩
          (try simp only [Act.put, List.getElem_toArray, List.getElem_cons_succ, List.getElem_cons_zero, List.setIfInBounds_toArray, List.set_cons_zero, List.set_cons_succ])
          repeat ((first | (refine lexP_read rfl (by rfl) (by first | exact wanted_none rfl | exact wanted_some (b := true) (c := true) rfl rfl rfl | exact wanted_some (b := false) (c := false) rfl rfl rfl) (by intro w9 hS9; (try dsimp only at hS9); go_simp <;> with_reducible rfl) ?_) | (refine lexP_skip rfl (fun _ => trivial) (by first | exact wanted_some (b := true) (c := false) rfl rfl rfl | exact wanted_some (b := false) (c := true) rfl rfl rfl) ?_) | (refine lexP_builtin rfl (fun _ => trivial) (by first | exact wanted_none rfl | exact wanted_some (b := true) (c := true) rfl rfl rfl | exact wanted_some (b := false) (c := false) rfl rfl rfl) (by intro w9 hS9; (try dsimp only at hS9); go_simp <;> with_reducible rfl) ?_)); (try simp only [Act.put, List.getElem_toArray, List.getElem_cons_succ, List.getElem_cons_zero, List.setIfInBounds_toArray, List.set_cons_zero, List.set_cons_succ]))
          have hbN : Below w3.heap.size w3 (w3.alloc (.cells #[.int .i64 E.seq, .slice A3 pl c3] 84)) := (Below.refl _ w3).alloc (Nat.le_refl _) _
          have hbA := hb1.trans (hbN.mono hb1.size)
          have HN := Lib.hid (And.intro (H8.out.below hbA) (And.intro (byt_of_own (base := base) hown3 (HX.out.2.2.2.2.2.1) |>.up hbN) (Blk.new w3 84 #[.int .i64 E.seq, .slice A3 pl c3])))
          clear hb3 hown3 hb1 hbN hbA
          refine lexP_eff rfl (fun _ => trivial) ?_
          go_simp
          (try simp only [Act.put, List.getElem_toArray, List.getElem_cons_succ, List.getElem_cons_zero, List.setIfInBounds_toArray, List.set_cons_zero, List.set_cons_succ])
          refine lexP_pushG (E := encA) (R := AeR) (t := 84) (sz := 2) (base := base) (low := w.heap.size) (l := es2) (b := (⟨E.seq, A3, c3, E.p⟩ : Ae)) (v := .slice A9a es2.length c9a) rfl (fun _ => trivial) _ _ 31 (by rfl) _ 32 Try.underlying31 info84 rfl (by omega) (encA_one _) rfl (by rfl) HN.out.1.all hbw (aeR_ab (by simp)) HN.out.2.1 (by rfl) (by unfold encA; dsimp only; rw [HX.out.2.2.2.2.2.1]; exact HN.out.2.2) (by omega) (by omega) HN.out.1.bel.size ?_
          intro v9 w9 hp9
          obtain ⟨A9, c9, rfl, -, -⟩ := hp9.p.own.vform
          have hl9 : (es2 ++ [(⟨E.seq, A3, c3, E.p⟩ : Ae)]).length = es2.length + 1 := by simp
          have h9 := HN.out.1.push hp9.p
          rw [hl9] at h9
          try rw [hl9]
          have H9 := Lib.hid (h9)
          clear hl9 h9 hp9 HN
          refine ⟨.inl rfl, ?_⟩
          (try simp only [Act.put, List.getElem_toArray, List.getElem_cons_succ, List.getElem_cons_zero, List.setIfInBounds_toArray, List.set_cons_zero, List.set_cons_succ])
          repeat (refine lexP_late rfl (fun _ => trivial) (by rfl) (by intro w9; go_simp <;> with_reducible rfl) ?_; (try simp only [Act.put, List.getElem_toArray, List.getElem_cons_succ, List.getElem_cons_zero, List.setIfInBounds_toArray, List.set_cons_zero, List.set_cons_succ]))
          refine lexP_nil (panQ_normal ?_)
          clear x0 x1 xk2 xk6 lX lK
          go_wp2_with fail
          go_roundw
          case rel =>
            refine ⟨k + 1, _, es2 ++ [(⟨E.seq, A3, c3, E.p⟩ : Ae)], by omega, by go_num, rfl, ?_, ?_⟩
            · rw [HX.out.2.2.2.2.1]
              unfold stepA
              rw [if_pos ⟨HKB.out, HQ.out, HG.out⟩]
            · refine ⟨H9.out, ?_⟩
              rw [HX.out.2.2.2.2.1]
              unfold stepA
              rw [if_pos ⟨HKB.out, HQ.out, HG.out⟩, List.map_append, HE2.out, HX.out.2.2.2.1]; rfl
          case measure => simp [intOf]; omega
      · obtain rfl : k = no := by omega
        have HF1 : Hid ((stA r p r.early.length).2 = kb ∧ es.map Ae.am = (stA r p r.early.length).1) := by
          show _ ∧ _
          rw [HEE.out.2.2.2.1]
          exact ⟨HKB.out, HS.out.2⟩
        have HM1 := Lib.hid HS.out.1
        have xk2 : wr.cell? ⟨w.heap.size + 1, 2, none⟩ = some (.int .i64 p.seq) := HM1.out.bK.cell 2
        have xk6 : wr.cell? ⟨w.heap.size + 1, 6, none⟩ = some (.slice Ap np cp) := HM1.out.bK.cell 6
        have lK := HM1.out.bK.lt
        clear HS HKB hlt
        go_upto_if 110 with (fail)
        go_cut [9] from 111 to 119 (fun s9 wx => ∃ (va : Value) (ea : List Ae), s9 = va ∧ Hid (AlM w base r p (.slice Ae0 k ce) (.slice As ns cs) (.slice Ap np cp) N va ea wx ∧ ea.map Ae.am = allR r p))
        case first =>
          cases kb with
          | false =>
            go_wp2_with fail
            go_meet
            refine ⟨_, es, rfl, HM1.out, ?_⟩
            unfold allR finA
            rw [HF1.out.1, if_neg (by simp)]
            exact HF1.out.2
          | true =>
            go_upto_region 17 with fail
            refine wp_region_lexP [(0, 1), (1, 1), (3, 1), (2, 1), (4, 1), (5, 0), (6, 1), (7, 0), (8, 0), (9, 2)] [8, 9] (fun w9 => w9.cell? ⟨w.heap.size + 1, 2, none⟩ = some (.int .i64 p.seq) ∧ w9.cell? ⟨w.heap.size + 1, 6, none⟩ = some (.slice Ap np cp)) (by kernel_rfl) (by kernel_rfl) (by kernel_rfl) (by kernel_rfl) (by kernel_rfl) ⟨xk2, xk6⟩ ?_
            repeat ((first | (refine lexP_read rfl (by rfl) (by first | exact wanted_none rfl | exact wanted_some (b := true) (c := true) rfl rfl rfl | exact wanted_some (b := false) (c := false) rfl rfl rfl) (by intro w9 hS9; (try dsimp only at hS9); go_simp <;> with_reducible rfl) ?_) | (refine lexP_skip rfl (fun _ => trivial) (by first | exact wanted_some (b := true) (c := false) rfl rfl rfl | exact wanted_some (b := false) (c := true) rfl rfl rfl) ?_) | (refine lexP_builtin rfl (fun _ => trivial) (by first | exact wanted_none rfl | exact wanted_some (b := true) (c := true) rfl rfl rfl | exact wanted_some (b := false) (c := false) rfl rfl rfl) (by intro w9 hS9; (try dsimp only at hS9); go_simp <;> with_reducible rfl) ?_)); (try simp only [Act.put, List.getElem_toArray, List.getElem_cons_succ, List.getElem_cons_zero, List.setIfInBounds_toArray, List.set_cons_zero, List.set_cons_succ]))
            refine lexP_eff rfl (fun _ => trivial) ?_
            go_simp
            refine CallsIn.mono ((callsIn_wide (n := 0)).2 (copied_any Ap np cp p.p wr.drew (by have h := ((HEE.out.2.2.2.2.1.up HM1.out.bel).up (Below.refl _ wr).drew).rd; rw [HEE.out.2.2.2.2.2] at h; exact h) (by have h := HRO.out.2.2.2.2.2.2; have h2 := HEE.out.2.2.2.2.2; omega))) ?_
            rintro z w3 ⟨⟨v3, rfl, hown3⟩, hb3⟩
            dsimp only
            obtain ⟨A3, c3, rfl, -, -, -⟩ := own_slice hown3
            have hb1 : Below wr.heap.size wr w3 := (Below.refl _ wr).drew.trans hb3
            have xk2y := (hb1.cell (p := ⟨w.heap.size + 1, 2, none⟩) lK).trans xk2
            have xk6y := (hb1.cell (p := ⟨w.heap.size + 1, 6, none⟩) lK).trans xk6
            have lKy := Nat.lt_of_lt_of_le lK hb1.size
            refine ⟨⟨xk2y, xk6y⟩, ?_⟩
            (try simp only [Act.put, List.getElem_toArray, List.getElem_cons_succ, List.getElem_cons_zero, List.setIfInBounds_toArray, List.set_cons_zero, List.set_cons_succ])
            repeat ((first | (refine lexP_read rfl (by rfl) (by first | exact wanted_none rfl | exact wanted_some (b := true) (c := true) rfl rfl rfl | exact wanted_some (b := false) (c := false) rfl rfl rfl) (by intro w9 hS9; (try dsimp only at hS9); go_simp <;> with_reducible rfl) ?_) | (refine lexP_skip rfl (fun _ => trivial) (by first | exact wanted_some (b := true) (c := false) rfl rfl rfl | exact wanted_some (b := false) (c := true) rfl rfl rfl) ?_) | (refine lexP_builtin rfl (fun _ => trivial) (by first | exact wanted_none rfl | exact wanted_some (b := true) (c := true) rfl rfl rfl | exact wanted_some (b := false) (c := false) rfl rfl rfl) (by intro w9 hS9; (try dsimp only at hS9); go_simp <;> with_reducible rfl) ?_)); (try simp only [Act.put, List.getElem_toArray, List.getElem_cons_succ, List.getElem_cons_zero, List.setIfInBounds_toArray, List.set_cons_zero, List.set_cons_succ]))
            have hbN : Below w3.heap.size w3 (w3.alloc (.cells #[.int .i64 p.seq, .slice A3 np c3] 84)) := (Below.refl _ w3).alloc (Nat.le_refl _) _
            have hbA := hb1.trans (hbN.mono hb1.size)
            have HN := Lib.hid (And.intro (HM1.out.below hbA) (And.intro (byt_of_own (base := base) hown3 (HEE.out.2.2.2.2.2) |>.up hbN) (Blk.new w3 84 #[.int .i64 p.seq, .slice A3 np c3])))
            clear hb3 hown3 hb1 hbN hbA
            refine lexP_eff rfl (fun _ => trivial) ?_
            go_simp
            (try simp only [Act.put, List.getElem_toArray, List.getElem_cons_succ, List.getElem_cons_zero, List.setIfInBounds_toArray, List.set_cons_zero, List.set_cons_succ])
            refine lexP_pushG (E := encA) (R := AeR) (t := 84) (sz := 2) (base := base) (low := w.heap.size) (l := es) (b := (⟨p.seq, A3, c3, p.p⟩ : Ae)) (v := .slice Aa es.length ca) rfl (fun _ => trivial) _ _ 31 (by rfl) _ 32 Try.underlying31 info84 rfl (by omega) (encA_one _) rfl (by rfl) HN.out.1.all hbw (aeR_ab (by simp)) HN.out.2.1 (by rfl) (by unfold encA; dsimp only; rw [HEE.out.2.2.2.2.2]; exact HN.out.2.2) (by omega) (by omega) HN.out.1.bel.size ?_
            intro v9 w9 hp9
            obtain ⟨A9, c9, rfl, -, -⟩ := hp9.p.own.vform
            have hl9 : (es ++ [(⟨p.seq, A3, c3, p.p⟩ : Ae)]).length = es.length + 1 := by simp
            have h9 := HN.out.1.push hp9.p
            rw [hl9] at h9
            try rw [hl9]
            have H9 := Lib.hid (h9)
            clear hl9 h9 hp9 HN
            refine ⟨.inl rfl, ?_⟩
            (try simp only [Act.put, List.getElem_toArray, List.getElem_cons_succ, List.getElem_cons_zero, List.setIfInBounds_toArray, List.set_cons_zero, List.set_cons_succ])
            repeat (refine lexP_late rfl (fun _ => trivial) (by rfl) (by intro w9; go_simp <;> with_reducible rfl) ?_; (try simp only [Act.put, List.getElem_toArray, List.getElem_cons_succ, List.getElem_cons_zero, List.setIfInBounds_toArray, List.set_cons_zero, List.set_cons_succ]))
            refine lexP_nil (panQ_normal ?_)
            clear xk2 xk6 lK
            try go_wp2_with fail
            go_meet
            refine ⟨_, es ++ [(⟨p.seq, A3, c3, p.p⟩ : Ae)], rfl, H9.out, ?_⟩
            unfold allR finA
            rw [HF1.out.1, if_pos rfl, List.map_append, HF1.out.2]
            rfl
        case rest =>
          obtain ⟨va2, ea, rfl, HA⟩ := hcut
          clear HM1 HF1 xk2 xk6 lK xc3 lR
          obtain ⟨A2, c2, rfl, -, -⟩ := HA.out.1.all.vform
          obtain ⟨na, hna⟩ : ∃ n, ea.length = n := ⟨_, rfl⟩
          have hnal : (allR r p).length = na := by rw [← HA.out.2, List.length_map, hna]
          have hna2 : na ≤ 100 := by have h1 := allR_len r p; have h2 := HRO.out.2.1; omega
          have hww : w.heap.size ≤ wc.heap.size := HA.out.1.bel.size
          have hw0 : base ≤ wc.heap.size := Nat.le_trans hbw hww
          have HVA := Lib.hid (And.intro HA.out.1.all.vec (And.intro HA.out.2 (And.intro hna hnal)))
          have HD0 : Hid (DvM w base r N wc r.next (.slice none 0 0) (.slice none 0 0) [] [] wc) := ⟨HA.out.1.bO, HA.out.1.bN, Own1.nil, Own1.nil, Turn.refl _ _ _, HA.out.1.bel⟩
          rw [hna]
          clear HA hna hnal
          go_wp2_with fail
          go_loopw [12, 13] (fun v12 v13 wr => ∃ (k : Nat) (nx : Int) (vE vD : Value) (el : List Ae) (qd : List Qe), k ≤ na ∧ v13 = .int .i64 k ∧ v12 = vD ∧ Hid (DvM w base r N wc nx vE vD el qd wr ∧ (qd.map Qe.p, nx, el.map Ae.am) = stD r p k)) (fun _ v13 _ => na - (intOf v13).toNat)
          case atStart => exact ⟨0, _, _, _, [], [], by omega, rfl, rfl, HD0.out, rfl⟩
          case round =>
            obtain ⟨k, nx, vE, vD, el, qd, hk, rfl, rfl, HD⟩ := hrel
            clear HD0
            obtain ⟨Ad, cd, rfl, -, -⟩ := HD.out.1.del.vform
            obtain ⟨Al, cl, rfl, -, -⟩ := HD.out.1.ear.vform
            have hbd := stD_len r p k (by rw [HVA.out.2.2.2]; exact hk)
            rw [← HD.out.2] at hbd
            dsimp only at hbd
            rw [List.length_map, List.length_map] at hbd
            have hnx1 := hbd.2.1
            have hnx2 := hbd.2.2
            have hlq : qd.length ≤ 100 := by omega
            have hle : el.length ≤ 100 := by omega
            clear hbd
            have xn2 : wr.cell? ⟨N, 2, none⟩ = some (.int .i64 nx) := HD.out.1.bN.cell 2
            have xn3 : wr.cell? ⟨N, 3, none⟩ = some (.slice Al el.length cl) := HD.out.1.bN.cell 3
            have lN := HD.out.1.bN.lt
            by_cases hlt : k < na
            · have ik : (k : Int) < na := by omega
              have hkl : k < ea.length := by rw [HVA.out.2.2.1]; exact hlt
              have hkr : k < (allR r p).length := by rw [HVA.out.2.2.2]; exact hlt
              have hVw := HVA.out.1
              have hVw := hVw.turn HD.out.1.old (by simp) (aeR_ab (by simp))
              obtain ⟨b, off, c3, hv2, _, _, hblt, hc⟩ := hVw.at_ (fun _ => rfl) (by omega) (by omega)
              injection hv2 with hA hn2 hc2
              subst hA hc2
              clear hn2
              have x0 : wr.cell? ⟨b, off + k * 2, none⟩ = some (.int .i64 ea[k].seq) := hc k hkl 0 _ rfl
              have x1 : wr.cell? ⟨b, off + k * 2 + 1, none⟩ = some (.slice ea[k].A ea[k].p.length ea[k].c) := hc k hkl 1 _ rfl
              have hsq0 : ea[k].am = (allR r p)[k] := by simp [← HVA.out.2.1]
              have hst := stD_succ r p hkr
              have hby := hVw.el ea[k] (List.getElem_mem hkl)
              rw [← hsq0, ← HD.out.2] at hst
              obtain ⟨E, hEq⟩ : ∃ E, E = ea[k] := ⟨_, rfl⟩
              rw [← hEq] at x0 x1 hst hby
              obtain ⟨pl, hpl⟩ : ∃ n, E.p.length = n := ⟨_, rfl⟩
              rw [hpl] at x1
              have HX := Lib.hid (And.intro hby (And.intro hst hpl))
              clear hc hVw hsq0 hkr hkl hEq hby hst hpl
              have hpn := HRO.out.2.1
              have hpn2 := HEE.out.2.2.2.1
              by_cases hq : E.seq = nx
              · have q1 : (E.seq == nx) = true := beq_iff_eq.2 hq
                have HQ := Lib.hid hq
                clear hq
                go_upto_region 22 with fail
                refine wp_region_lexP [(0, 1), (1, 1), (5, 1), (2, 1), (6, 1), (3, 1), (4, 1), (7, 1)] [] (fun w9 => w9.cell? ⟨N, 2, none⟩ = some (.int .i64 nx) ∧ w9.cell? ⟨b, off + k * 2, none⟩ = some (.int .i64 E.seq)) (by kernel_rfl) (by kernel_rfl) (by kernel_rfl) (by kernel_rfl) (by kernel_rfl) ⟨xn2, x0⟩ ?_
                repeat ((first | (refine lexP_read rfl (by rfl) (by first | exact wanted_none rfl | exact wanted_some (b := true) (c := true) rfl rfl rfl | exact wanted_some (b := false) (c := false) rfl rfl rfl) (by intro w9 hS9; (try dsimp only at hS9); go_simp <;> with_reducible rfl) ?_) | (refine lexP_skip rfl (fun _ => trivial) (by first | exact wanted_some (b := true) (c := false) rfl rfl rfl | exact wanted_some (b := false) (c := true) rfl rfl rfl) ?_) | (refine lexP_builtin rfl (fun _ => trivial) (by first | exact wanted_none rfl | exact wanted_some (b := true) (c := true) rfl rfl rfl | exact wanted_some (b := false) (c := false) rfl rfl rfl) (by intro w9 hS9; (try dsimp only at hS9); go_simp <;> with_reducible rfl) ?_)); (try simp only [Act.put, List.getElem_toArray, List.getElem_cons_succ, List.getElem_cons_zero, List.setIfInBounds_toArray, List.set_cons_zero, List.set_cons_succ]))
                refine lexP_nil (panQ_normal ?_)
                have HD1 := Lib.hid (HD.out.1.below (Below.refl _ wr).drew)
                have HB1 := Lib.hid (aeR_ab (T := []) (by simp) _ _ _ _ (Turn.of_below (Below.refl _ wr).drew) HX.out.1)
                have HE1 := Lib.hid HD.out.2
                have y0 : wr.drew.cell? ⟨b, off + k * 2, none⟩ = some (.int .i64 E.seq) := x0
                have y1 : wr.drew.cell? ⟨b, off + k * 2 + 1, none⟩ = some (.slice E.A pl E.c) := x1
                have yn2 : wr.drew.cell? ⟨N, 2, none⟩ = some (.int .i64 nx) := xn2
                have yn3 : wr.drew.cell? ⟨N, 3, none⟩ = some (.slice Al el.length cl) := xn3
                have lN1 := HD1.out.bN.lt
                change b < wr.drew.heap.size at hblt
                clear HD x0 x1 xn2 xn3 lN
                generalize wr.drew = V at *
                have hbN : Below V.heap.size V (V.alloc (.cells #[.slice E.A pl E.c] 42)) := (Below.refl _ V).alloc (Nat.le_refl _) _
                have HN := Lib.hid (And.intro (HD1.out.below hbN) (And.intro (show QeR (V.alloc (.cells #[.slice E.A pl E.c] 42)) base ⟨E.A, E.c, E.p⟩ from Byt.up HB1.out hbN) (Blk.new V 42 #[.slice E.A pl E.c])))
                clear hbN
                have hE1 := encQ_one (⟨E.A, E.c, E.p⟩ : Qe)
                go_upto_region 24 with (at_builtin; refine wpList_pushH (E := encQ) (R := QeR) (t := 42) (sz := 1) (base := base) (low := wc.heap.size) (l := qd) (b := (⟨E.A, E.c, E.p⟩ : Qe)) rfl (.tmp 134) (.tmp 140) 23 rfl _ 24 Try.underlying23 info42 rfl (by omega) hE1 rfl rfl HN.out.1.del hw0 (qeR_ab (by simp)) HN.out.2.1 rfl (by unfold encQ; dsimp only; rw [HX.out.2.2]; exact HN.out.2.2) (by omega) (by omega) HN.out.1.old.size ?_; intro v9 w9 hp9; obtain ⟨A9, c9, rfl, _, _⟩ := hp9.p.own.vform; have hl9 : (qd ++ [(⟨E.A, E.c, E.p⟩ : Qe)]).length = qd.length + 1 := (by simp); have h9 := HN.out.1.pushD hw0 hww hp9; rw [hl9] at h9; try rw [hl9]; have H9 := Lib.hid h9; clear hl9 h9 hp9 HN)
                clear y0 y1 yn2 yn3 lN1
                have xn2 : w9.cell? ⟨N, 2, none⟩ = some (.int .i64 nx) := H9.out.bN.cell 2
                have xz2 := H9.out.bN.frozen 2
                have lN := H9.out.bN.lt
                have kw : IntKind.i64.wrap (nx + 1) = nx + 1 := by rw [IntWalk.i64_in _ (by omega)]
                have h8 := H9.out.cell hbw hON 2 (.int .i64 (nx + 1)) (nx + 1) (.slice Al el.length cl) el rfl H9.out.ear
                have H8 := Lib.hid h8
                clear h8
                go_wp2_with fail
                go_roundw
                case rel =>
                  refine ⟨k + 1, nx + 1, _, _, el, qd ++ [(⟨E.A, E.c, E.p⟩ : Qe)], by omega, by go_num, rfl, H8.out, ?_⟩
                  rw [HX.out.2.1]
                  unfold stepD
                  rw [if_pos (show E.am.seq = nx from HQ.out), List.map_append]
                  rfl
                case measure => simp [intOf]; omega
              · have q1 : (E.seq == nx) = false := beq_eq_false_iff_ne.2 hq
                have HQ := Lib.hid hq
                clear hq
                go_upto_region 22 with fail
                refine wp_region_lexP [(0, 1), (1, 1), (5, 1), (2, 1), (6, 1), (3, 1), (4, 1), (7, 1)] [] (fun w9 => w9.cell? ⟨N, 2, none⟩ = some (.int .i64 nx) ∧ w9.cell? ⟨b, off + k * 2, none⟩ = some (.int .i64 E.seq)) (by kernel_rfl) (by kernel_rfl) (by kernel_rfl) (by kernel_rfl) (by kernel_rfl) ⟨xn2, x0⟩ ?_
                repeat ((first | (refine lexP_read rfl (by rfl) (by first | exact wanted_none rfl | exact wanted_some (b := true) (c := true) rfl rfl rfl | exact wanted_some (b := false) (c := false) rfl rfl rfl) (by intro w9 hS9; (try dsimp only at hS9); go_simp <;> with_reducible rfl) ?_) | (refine lexP_skip rfl (fun _ => trivial) (by first | exact wanted_some (b := true) (c := false) rfl rfl rfl | exact wanted_some (b := false) (c := true) rfl rfl rfl) ?_) | (refine lexP_builtin rfl (fun _ => trivial) (by first | exact wanted_none rfl | exact wanted_some (b := true) (c := true) rfl rfl rfl | exact wanted_some (b := false) (c := false) rfl rfl rfl) (by intro w9 hS9; (try dsimp only at hS9); go_simp <;> with_reducible rfl) ?_)); (try simp only [Act.put, List.getElem_toArray, List.getElem_cons_succ, List.getElem_cons_zero, List.setIfInBounds_toArray, List.set_cons_zero, List.set_cons_succ]))
                refine lexP_nil (panQ_normal ?_)
                have HD1 := Lib.hid (HD.out.1.below (Below.refl _ wr).drew)
                have HB1 := Lib.hid (aeR_ab (T := []) (by simp) _ _ _ _ (Turn.of_below (Below.refl _ wr).drew) HX.out.1)
                have HE1 := Lib.hid HD.out.2
                have y0 : wr.drew.cell? ⟨b, off + k * 2, none⟩ = some (.int .i64 E.seq) := x0
                have y1 : wr.drew.cell? ⟨b, off + k * 2 + 1, none⟩ = some (.slice E.A pl E.c) := x1
                have yn2 : wr.drew.cell? ⟨N, 2, none⟩ = some (.int .i64 nx) := xn2
                have yn3 : wr.drew.cell? ⟨N, 3, none⟩ = some (.slice Al el.length cl) := xn3
                have lN1 := HD1.out.bN.lt
                change b < wr.drew.heap.size at hblt
                clear HD x0 x1 xn2 xn3 lN
                generalize wr.drew = V at *
                go_upto_region 25 with fail
                refine wp_region_lexP [(0, 1), (2, 1), (3, 1), (1, 1), (4, 1), (5, 1), (6, 0), (7, 0), (8, 2), (9, 0)] [7, 8, 9] (fun w9 => w9.cell? ⟨N, 3, none⟩ = some (.slice Al el.length cl) ∧ w9.cell? ⟨b, off + k * 2, none⟩ = some (.int .i64 E.seq) ∧ w9.cell? ⟨b, off + k * 2 + 1, none⟩ = some (.slice E.A pl E.c)) (by kernel_rfl) (by kernel_rfl) (by kernel_rfl) (by kernel_rfl) (by kernel_rfl) ⟨yn3, y0, y1⟩ ?_
                repeat ((first | (refine lexP_read rfl (by rfl) (by first | exact wanted_none rfl | exact wanted_some (b := true) (c := true) rfl rfl rfl | exact wanted_some (b := false) (c := false) rfl rfl rfl) (by intro w9 hS9; (try dsimp only at hS9); go_simp <;> with_reducible rfl) ?_) | (refine lexP_skip rfl (fun _ => trivial) (by first | exact wanted_some (b := true) (c := false) rfl rfl rfl | exact wanted_some (b := false) (c := true) rfl rfl rfl) ?_) | (refine lexP_builtin rfl (fun _ => trivial) (by first | exact wanted_none rfl | exact wanted_some (b := true) (c := true) rfl rfl rfl | exact wanted_some (b := false) (c := false) rfl rfl rfl) (by intro w9 hS9; (try dsimp only at hS9); go_simp <;> with_reducible rfl) ?_)); (try simp only [Act.put, List.getElem_toArray, List.getElem_cons_succ, List.getElem_cons_zero, List.setIfInBounds_toArray, List.set_cons_zero, List.set_cons_succ]))
                have hbN : Below V.heap.size V (V.alloc (.cells #[.int .i64 E.seq, .slice E.A pl E.c] 84)).drew := ((Below.refl _ V).alloc (Nat.le_refl _) _).drew
                have HN := Lib.hid (And.intro (HD1.out.below hbN) (And.intro (aeR_ab (T := []) (by simp) _ _ _ _ (Turn.of_below hbN) HB1.out) (Blk.new V 84 #[.int .i64 E.seq, .slice E.A pl E.c]).drew))
                clear hbN
                refine lexP_eff rfl (fun _ => trivial) ?_
                go_simp
                (try simp only [Act.put, List.getElem_toArray, List.getElem_cons_succ, List.getElem_cons_zero, List.setIfInBounds_toArray, List.set_cons_zero, List.set_cons_succ])
                refine lexP_pushG (E := encA) (R := AeR) (t := 84) (sz := 2) (base := base) (low := wc.heap.size) (l := el) (b := E) (v := .slice Al el.length cl) rfl (fun _ => trivial) _ _ 31 (by rfl) _ 32 Try.underlying31 info84 rfl (by omega) (encA_one _) rfl (by rfl) HN.out.1.ear hw0 (aeR_ab (by simp)) HN.out.2.1 (by rfl) (by unfold encA; rw [HX.out.2.2]; exact HN.out.2.2) (by omega) (by omega) HN.out.1.old.size ?_
                intro v9 w9 hp9
                obtain ⟨A9, c9, rfl, -, -⟩ := hp9.p.own.vform
                have hl9 : (el ++ [E]).length = el.length + 1 := by simp
                have h9 := HN.out.1.pushE hw0 hww hbw hON hp9
                have hk9 := HN.out.1.bN.turn hp9.p.turn (by simp)
                have xn3 : w9.cell? ⟨N, 3, none⟩ = some (.slice Al el.length cl) := hk9.cell 3
                have xz3 := hk9.frozen 3
                have lN := hk9.lt
                rw [hl9] at h9
                try rw [hl9]
                have H9 := Lib.hid h9
                clear hl9 h9 hp9 hk9 HN
                refine ⟨.inl rfl, ?_⟩
                (try simp only [Act.put, List.getElem_toArray, List.getElem_cons_succ, List.getElem_cons_zero, List.setIfInBounds_toArray, List.set_cons_zero, List.set_cons_succ])
                repeat (refine lexP_late rfl (fun _ => trivial) (by rfl) (by intro w9; go_simp <;> with_reducible rfl) ?_; (try simp only [Act.put, List.getElem_toArray, List.getElem_cons_succ, List.getElem_cons_zero, List.setIfInBounds_toArray, List.set_cons_zero, List.set_cons_succ]))
                refine lexP_eff rfl (fun _ => trivial) ?_
                go_simp
                refine lexP_nil (panQ_normal ?_)
                clear y0 y1 yn2 yn3 lN1 xn3 xz3 lN
                go_wp2_with fail
                go_roundw
                case rel =>
                  refine ⟨k + 1, nx, _, _, el ++ [E], qd, by omega, by go_num, rfl, H9.out, ?_⟩
                  rw [HX.out.2.1]
                  unfold stepD
                  rw [if_neg (show ¬ E.am.seq = nx from HQ.out), List.map_append]
                  rfl
                case measure => simp [intOf]; omega
            · obtain rfl : k = na := by omega
              have HME : Hid (recvR r p = ((⟨r.ses, r.lim, nx, el.map Ae.am⟩ : Rm), qd.map Qe.p, [answP (⟨r.ses, r.lim, nx, el.map Ae.am⟩ : Rm)])) := by
                show _ = _
                rw [HMM.out, HVA.out.2.2.2, ← HD.out.2]
              have hmem := stD_mem r p k (by rw [HVA.out.2.2.2]; exact Nat.le_refl _)
              rw [← HD.out.2] at hmem
              dsimp only at hmem
              have hsb : ∀ a ∈ el.map Ae.am, 0 ≤ a.seq ∧ a.seq ≤ 2147483648 := fun a ha => by
                rcases allR_mem (hmem a ha) with rfl | h
                · dsimp only; omega
                · exact HRO.out.1 a h
              have hel : (el.map Ae.am).length ≤ 10000 := by rw [List.length_map]; omega
              have HML := Lib.hid (And.intro hsb hel)
              clear hmem hsb hel HMM
              obtain ⟨nl, hnl⟩ : ∃ n, el.length = n := ⟨_, rfl⟩
              obtain ⟨nq, hnq⟩ : ∃ n, qd.length = n := ⟨_, rfl⟩
              rw [hnl] at xn3
              have H5 := Lib.hid HD.out.1
              rw [hnl, hnq] at H5
              rw [hnq]
              clear HD hlt hnq
              have xn0 : wr.cell? ⟨N, 0, none⟩ = some (.int .i64 r.ses) := H5.out.bN.cell 0
              have xn1 : wr.cell? ⟨N, 1, none⟩ = some (.int .i64 r.lim) := H5.out.bN.cell 1
              have xd0 : wr.cell? ⟨w.heap.size + 1 + 1, 0, none⟩ = some (.int .i64 0) := H5.out.bO.cell 0
              have xd1 : wr.cell? ⟨w.heap.size + 1 + 1, 1, none⟩ = some (.int .i64 0) := H5.out.bO.cell 1
              have xd2 : wr.cell? ⟨w.heap.size + 1 + 1, 2, none⟩ = some (.int .i64 0) := H5.out.bO.cell 2
              have xd3 : wr.cell? ⟨w.heap.size + 1 + 1, 3, none⟩ = some (.slice none 0 0) := H5.out.bO.cell 3
              have xy0 := H5.out.bO.frozen 0
              have xy1 := H5.out.bO.frozen 1
              have xy2 := H5.out.bO.frozen 2
              have xy3 := H5.out.bO.frozen 3
              have lO := H5.out.bO.lt
              go_upto_region 26 with fail
              refine wp_region_lexV (.op 0 1 (.op 1 1 (.op 2 1 (.op 3 0 (.two 4 5 (.op 5 0 (.op 6 1 (.op 7 1 .nil))) (.op 6 1 (.op 4 0 (.op 7 1 .nil)))))))) [] (fun w9 => w9.cell? ⟨N, 0, none⟩ = some (.int .i64 r.ses) ∧ w9.cell? ⟨N, 1, none⟩ = some (.int .i64 r.lim) ∧ w9.cell? ⟨N, 2, none⟩ = some (.int .i64 nx) ∧ w9.cell? ⟨N, 3, none⟩ = some (.slice Al nl cl)) (by kernel_rfl) (by kernel_rfl) (by kernel_rfl) (by kernel_rfl) (by kernel_rfl) ⟨xn0, xn1, xn2, xn3⟩ ?_
              repeat ((first | (refine lexV_read rfl (by rfl) (by first | exact wanted_none rfl | exact wanted_some (b := true) (c := true) rfl rfl rfl | exact wanted_some (b := false) (c := false) rfl rfl rfl) (by intro w9 hS9; (try dsimp only at hS9); go_simp <;> with_reducible rfl) ?_) | (refine lexV_skip rfl (fun _ => trivial) (by first | exact wanted_some (b := true) (c := false) rfl rfl rfl | exact wanted_some (b := false) (c := true) rfl rfl rfl) ?_) | (refine lexV_builtin rfl (fun _ => trivial) (by first | exact wanted_none rfl | exact wanted_some (b := true) (c := true) rfl rfl rfl | exact wanted_some (b := false) (c := false) rfl rfl rfl) (by intro w9 hS9; (try dsimp only at hS9); go_simp <;> with_reducible rfl) ?_)); (try simp only [Act.put, List.getElem_toArray, List.getElem_cons_succ, List.getElem_cons_zero, List.setIfInBounds_toArray, List.set_cons_zero, List.set_cons_succ]))
              refine lexV_eff rfl (fun _ => trivial) ?_
              go_simp
              have hb5d : Below w.heap.size w wr.drew := H5.out.bel.drew
              have hRc5 : RcV wr.drew base (⟨r.ses, r.lim, nx, el.map Ae.am⟩ : Rm) (.agg #[.int .i64 r.ses, .int .i64 r.lim, .int .i64 nx, .slice Al nl cl]) := by
                refine ⟨_, rfl, el, ?_, rfl⟩
                exact (H5.out.ear.up (Below.refl _ wr).drew (aeR_ab (by simp))).vec
              refine CallsIn.mono ((callsIn_wide (n := 0)).2 (refanswer_any (⟨r.ses, r.lim, nx, el.map Ae.am⟩ : Rm) _ base wr.drew hRc5 HML.out.2 HML.out.1 (Nat.le_trans hbw hb5d.size))) ?_
              rintro e w6 ⟨⟨pv6, rfl, hpv6⟩, hb6⟩
              obtain ⟨vs6, vp6, rfl, hX6, A6, c6, rfl, hB6⟩ := hpv6
              have HPV := Lib.hid (show PkV w6 base (answP (⟨r.ses, r.lim, nx, el.map Ae.am⟩ : Rm)) (.agg (pkC (answP (⟨r.ses, r.lim, nx, el.map Ae.am⟩ : Rm)) vs6 (.slice A6 (answP (⟨r.ses, r.lim, nx, el.map Ae.am⟩ : Rm)).p.length c6))) from ⟨_, _, rfl, hX6, _, _, rfl, hB6⟩)
              obtain ⟨As6, cs6, rfl, -, -⟩ := hX6.form
              clear hX6 hB6 hRc5
              obtain ⟨ns6, hns6⟩ : ∃ n, (answP (⟨r.ses, r.lim, nx, el.map Ae.am⟩ : Rm)).sel.length = n := ⟨_, rfl⟩
              rw [hns6] at HPV ⊢
              clear hns6
              unfold pkC at HPV ⊢
              change Hid (PkV w6 base _ (.agg #[.int .i64 1, .int .i64 r.ses, .int .i64 0, .int .i64 nx, .int .i64 r.lim, .slice As6 ns6 cs6, .slice A6 0 c6])) at HPV
              dsimp only [answP, List.length_nil]
              have hb6' : Below wr.heap.size wr w6 := (Below.refl _ wr).drew.trans hb6
              have hkR6 := H5.out.bN.below hb6' lN
              have hkO6 := H5.out.bO.below hb6' lO
              have yc0 : w6.cell? ⟨N, 0, none⟩ = some (.int .i64 r.ses) := hkR6.cell 0
              have yc1 : w6.cell? ⟨N, 1, none⟩ = some (.int .i64 r.lim) := hkR6.cell 1
              have yc2 : w6.cell? ⟨N, 2, none⟩ = some (.int .i64 nx) := hkR6.cell 2
              have yc3 : w6.cell? ⟨N, 3, none⟩ = some (.slice Al nl cl) := hkR6.cell 3
              have yd0 : w6.cell? ⟨w.heap.size + 1 + 1, 0, none⟩ = some (.int .i64 0) := hkO6.cell 0
              have yd1 : w6.cell? ⟨w.heap.size + 1 + 1, 1, none⟩ = some (.int .i64 0) := hkO6.cell 1
              have yd2 : w6.cell? ⟨w.heap.size + 1 + 1, 2, none⟩ = some (.int .i64 0) := hkO6.cell 2
              have yd3 : w6.cell? ⟨w.heap.size + 1 + 1, 3, none⟩ = some (.slice none 0 0) := hkO6.cell 3
              have yz0 := hkO6.frozen 0
              have yz1 := hkO6.frozen 1
              have yz2 := hkO6.frozen 2
              have yz3 := hkO6.frozen 3
              have lR6 := hkR6.lt
              have lO6 := hkO6.lt
              have H6 := Lib.hid (And.intro hkR6 (And.intro hkO6 (And.intro (H5.out.bel.trans (hb6'.mono H5.out.bel.size)) (And.intro (H5.out.ear.up hb6' (aeR_ab (by simp))) (H5.out.del.up hb6' (qeR_ab (by simp)))))))
              clear hkR6 hkO6 hb6 hb5d hb6' xn0 xn1 xn2 xn3 xd0 xd1 xd2 xd3 xy0 xy1 xy2 xy3 lN lO
              refine ⟨⟨yc0, yc1, yc2, yc3⟩, ?_⟩
              (try simp only [Act.put, List.getElem_toArray, List.getElem_cons_succ, List.getElem_cons_zero, List.setIfInBounds_toArray, List.set_cons_zero, List.set_cons_succ])
              refine lexV_two ?_ ?_
              · have hkS := set33_blk H6.out.2.1 (.int .i64 r.ses) (.int .i64 r.lim) (.int .i64 nx) (.slice Al nl cl)
                have hTS := set33_turn H6.out.2.1 (base := base) (by omega) (.int .i64 r.ses) (.int .i64 r.lim) (.int .i64 nx) (.slice Al nl cl)
                have hbS := set33_below H6.out.2.2.1 (g := w.heap.size + 1 + 1) (by omega) (.int .i64 r.ses) (.int .i64 r.lim) (.int .i64 nx) (.slice Al nl cl)
                have hvS := H6.out.2.2.2.1.turn hTS (by simp) (aeR_ab (by simp))
                have hqS := H6.out.2.2.2.2.turn hTS (by simp) (qeR_ab (by simp))
                have hpS := HPV.out.turn hTS (by simp) (by simp)
                have hbA : Below ((((w6.setCell ⟨w.heap.size + 1 + 1, 0, none⟩ (.int .i64 r.ses)).setCell ⟨w.heap.size + 1 + 1, 1, none⟩ (.int .i64 r.lim)).setCell ⟨w.heap.size + 1 + 1, 2, none⟩ (.int .i64 nx)).setCell ⟨w.heap.size + 1 + 1, 3, none⟩ (.slice Al nl cl)).heap.size ((((w6.setCell ⟨w.heap.size + 1 + 1, 0, none⟩ (.int .i64 r.ses)).setCell ⟨w.heap.size + 1 + 1, 1, none⟩ (.int .i64 r.lim)).setCell ⟨w.heap.size + 1 + 1, 2, none⟩ (.int .i64 nx)).setCell ⟨w.heap.size + 1 + 1, 3, none⟩ (.slice Al nl cl)) (((((w6.setCell ⟨w.heap.size + 1 + 1, 0, none⟩ (.int .i64 r.ses)).setCell ⟨w.heap.size + 1 + 1, 1, none⟩ (.int .i64 r.lim)).setCell ⟨w.heap.size + 1 + 1, 2, none⟩ (.int .i64 nx)).setCell ⟨w.heap.size + 1 + 1, 3, none⟩ (.slice Al nl cl)).alloc (.cells #[.int .i64 1, .int .i64 r.ses, .int .i64 0, .int .i64 nx, .int .i64 r.lim, .slice As6 ns6 cs6, .slice A6 0 c6] 55)) := (Below.refl _ _).alloc (Nat.le_refl _) _
                have hkF := hkS.alloc (.cells #[.int .i64 1, .int .i64 r.ses, .int .i64 0, .int .i64 nx, .int .i64 r.lim, .slice As6 ns6 cs6, .slice A6 0 c6] 55)
                have hbF := hbS.alloc hbS.size (.cells #[.int .i64 1, .int .i64 r.ses, .int .i64 0, .int .i64 nx, .int .i64 r.lim, .slice As6 ns6 cs6, .slice A6 0 c6] 55)
                have hvF := (hvS.up hbA (aeR_ab (by simp))).vec
                have hqF := (hqS.up hbA (qeR_ab (by simp))).vec
                have hpF := hpS.up hbA
                have hgF : Blk (((((w6.setCell ⟨w.heap.size + 1 + 1, 0, none⟩ (.int .i64 r.ses)).setCell ⟨w.heap.size + 1 + 1, 1, none⟩ (.int .i64 r.lim)).setCell ⟨w.heap.size + 1 + 1, 2, none⟩ (.int .i64 nx)).setCell ⟨w.heap.size + 1 + 1, 3, none⟩ (.slice Al nl cl)).alloc (.cells #[.int .i64 1, .int .i64 r.ses, .int .i64 0, .int .i64 nx, .int .i64 r.lim, .slice As6 ns6 cs6, .slice A6 0 c6] 55)) w6.heap.size 55 #[.int .i64 1, .int .i64 r.ses, .int .i64 0, .int .i64 nx, .int .i64 r.lim, .slice As6 ns6 cs6, .slice A6 0 c6] := by
                  have h := Blk.new ((((w6.setCell ⟨w.heap.size + 1 + 1, 0, none⟩ (.int .i64 r.ses)).setCell ⟨w.heap.size + 1 + 1, 1, none⟩ (.int .i64 r.lim)).setCell ⟨w.heap.size + 1 + 1, 2, none⟩ (.int .i64 nx)).setCell ⟨w.heap.size + 1 + 1, 3, none⟩ (.slice Al nl cl)) 55 #[.int .i64 1, .int .i64 r.ses, .int .i64 0, .int .i64 nx, .int .i64 r.lim, .slice As6 ns6 cs6, .slice A6 0 c6]
                  simpa only [World.size_setCell] using h
                clear hkS hTS hbS hvS hqS hpS
                have HF := Lib.hid (And.intro hkF (And.intro hbF (And.intro hvF (And.intro hqF (And.intro hpF hgF)))))
                clear hkF hbF hvF hqF hpF hgF hbA
                refine lexV_eff rfl (fun _ => trivial) ?_
                go_simp
                (try simp only [Act.put, List.getElem_toArray, List.getElem_cons_succ, List.getElem_cons_zero, List.setIfInBounds_toArray, List.set_cons_zero, List.set_cons_succ])
                repeat ((first | (refine lexV_read rfl (by rfl) (by first | exact wanted_none rfl | exact wanted_some (b := true) (c := true) rfl rfl rfl | exact wanted_some (b := false) (c := false) rfl rfl rfl) (by intro w9 hS9; (try dsimp only at hS9); go_simp <;> with_reducible rfl) ?_) | (refine lexV_skip rfl (fun _ => trivial) (by first | exact wanted_some (b := true) (c := false) rfl rfl rfl | exact wanted_some (b := false) (c := true) rfl rfl rfl) ?_) | (refine lexV_builtin rfl (fun _ => trivial) (by first | exact wanted_none rfl | exact wanted_some (b := true) (c := true) rfl rfl rfl | exact wanted_some (b := false) (c := false) rfl rfl rfl) (by intro w9 hS9; (try dsimp only at hS9); go_simp <;> with_reducible rfl) ?_)); (try simp only [Act.put, List.getElem_toArray, List.getElem_cons_succ, List.getElem_cons_zero, List.setIfInBounds_toArray, List.set_cons_zero, List.set_cons_succ]))
                refine lexV_eff rfl (fun _ => trivial) ?_
                go_simp
                (try simp only [Act.put, List.getElem_toArray, List.getElem_cons_succ, List.getElem_cons_zero, List.setIfInBounds_toArray, List.set_cons_zero, List.set_cons_succ])
                repeat ((first | (refine lexV_read rfl (by rfl) (by first | exact wanted_none rfl | exact wanted_some (b := true) (c := true) rfl rfl rfl | exact wanted_some (b := false) (c := false) rfl rfl rfl) (by intro w9 hS9; (try dsimp only at hS9); go_simp <;> with_reducible rfl) ?_) | (refine lexV_skip rfl (fun _ => trivial) (by first | exact wanted_some (b := true) (c := false) rfl rfl rfl | exact wanted_some (b := false) (c := true) rfl rfl rfl) ?_) | (refine lexV_builtin rfl (fun _ => trivial) (by first | exact wanted_none rfl | exact wanted_some (b := true) (c := true) rfl rfl rfl | exact wanted_some (b := false) (c := false) rfl rfl rfl) (by intro w9 hS9; (try dsimp only at hS9); go_simp <;> with_reducible rfl) ?_)); (try simp only [Act.put, List.getElem_toArray, List.getElem_cons_succ, List.getElem_cons_zero, List.setIfInBounds_toArray, List.set_cons_zero, List.set_cons_succ]))
                refine lexV_nil (panQ_normal ?_)
                go_wp2_with fail
                refine bodyPost_ret (results_cell_tmp2 (t := 33) rfl _ _ (w.heap.size + 1 + 1) _ _ rfl HF.out.1 Try.underlying33 rfl (by kernel_rfl)) rfl ?_
                refine ⟨⟨_, _, _, rfl, ?_, ?_, ?_⟩, HF.out.2.1⟩
                · rw [HME.out]
                  exact ⟨_, rfl, el, HF.out.2.2.1, rfl⟩
                · rw [HME.out]
                  exact ⟨qd, HF.out.2.2.2.1, rfl⟩
                · rw [HME.out]
                  exact ksV_one HF.out.2.2.2.2.1 HF.out.2.2.2.2.2
              · have hkS := set33_blk H6.out.2.1 (.int .i64 r.ses) (.int .i64 r.lim) (.int .i64 nx) (.slice Al nl cl)
                have hTS := set33_turn H6.out.2.1 (base := base) (by omega) (.int .i64 r.ses) (.int .i64 r.lim) (.int .i64 nx) (.slice Al nl cl)
                have hbS := set33_below H6.out.2.2.1 (g := w.heap.size + 1 + 1) (by omega) (.int .i64 r.ses) (.int .i64 r.lim) (.int .i64 nx) (.slice Al nl cl)
                have hvS := H6.out.2.2.2.1.turn hTS (by simp) (aeR_ab (by simp))
                have hqS := H6.out.2.2.2.2.turn hTS (by simp) (qeR_ab (by simp))
                have hpS := HPV.out.turn hTS (by simp) (by simp)
                have hbA : Below ((((w6.setCell ⟨w.heap.size + 1 + 1, 0, none⟩ (.int .i64 r.ses)).setCell ⟨w.heap.size + 1 + 1, 1, none⟩ (.int .i64 r.lim)).setCell ⟨w.heap.size + 1 + 1, 2, none⟩ (.int .i64 nx)).setCell ⟨w.heap.size + 1 + 1, 3, none⟩ (.slice Al nl cl)).heap.size ((((w6.setCell ⟨w.heap.size + 1 + 1, 0, none⟩ (.int .i64 r.ses)).setCell ⟨w.heap.size + 1 + 1, 1, none⟩ (.int .i64 r.lim)).setCell ⟨w.heap.size + 1 + 1, 2, none⟩ (.int .i64 nx)).setCell ⟨w.heap.size + 1 + 1, 3, none⟩ (.slice Al nl cl)) (((((w6.setCell ⟨w.heap.size + 1 + 1, 0, none⟩ (.int .i64 r.ses)).setCell ⟨w.heap.size + 1 + 1, 1, none⟩ (.int .i64 r.lim)).setCell ⟨w.heap.size + 1 + 1, 2, none⟩ (.int .i64 nx)).setCell ⟨w.heap.size + 1 + 1, 3, none⟩ (.slice Al nl cl)).alloc (.cells #[.int .i64 1, .int .i64 r.ses, .int .i64 0, .int .i64 nx, .int .i64 r.lim, .slice As6 ns6 cs6, .slice A6 0 c6] 55)) := (Below.refl _ _).alloc (Nat.le_refl _) _
                have hkF := hkS.alloc (.cells #[.int .i64 1, .int .i64 r.ses, .int .i64 0, .int .i64 nx, .int .i64 r.lim, .slice As6 ns6 cs6, .slice A6 0 c6] 55)
                have hbF := hbS.alloc hbS.size (.cells #[.int .i64 1, .int .i64 r.ses, .int .i64 0, .int .i64 nx, .int .i64 r.lim, .slice As6 ns6 cs6, .slice A6 0 c6] 55)
                have hvF := (hvS.up hbA (aeR_ab (by simp))).vec
                have hqF := (hqS.up hbA (qeR_ab (by simp))).vec
                have hpF := hpS.up hbA
                have hgF : Blk (((((w6.setCell ⟨w.heap.size + 1 + 1, 0, none⟩ (.int .i64 r.ses)).setCell ⟨w.heap.size + 1 + 1, 1, none⟩ (.int .i64 r.lim)).setCell ⟨w.heap.size + 1 + 1, 2, none⟩ (.int .i64 nx)).setCell ⟨w.heap.size + 1 + 1, 3, none⟩ (.slice Al nl cl)).alloc (.cells #[.int .i64 1, .int .i64 r.ses, .int .i64 0, .int .i64 nx, .int .i64 r.lim, .slice As6 ns6 cs6, .slice A6 0 c6] 55)) w6.heap.size 55 #[.int .i64 1, .int .i64 r.ses, .int .i64 0, .int .i64 nx, .int .i64 r.lim, .slice As6 ns6 cs6, .slice A6 0 c6] := by
                  have h := Blk.new ((((w6.setCell ⟨w.heap.size + 1 + 1, 0, none⟩ (.int .i64 r.ses)).setCell ⟨w.heap.size + 1 + 1, 1, none⟩ (.int .i64 r.lim)).setCell ⟨w.heap.size + 1 + 1, 2, none⟩ (.int .i64 nx)).setCell ⟨w.heap.size + 1 + 1, 3, none⟩ (.slice Al nl cl)) 55 #[.int .i64 1, .int .i64 r.ses, .int .i64 0, .int .i64 nx, .int .i64 r.lim, .slice As6 ns6 cs6, .slice A6 0 c6]
                  simpa only [World.size_setCell] using h
                clear hkS hTS hbS hvS hqS hpS
                have HF := Lib.hid (And.intro hkF (And.intro hbF (And.intro hvF (And.intro hqF (And.intro hpF hgF)))))
                clear hkF hbF hvF hqF hpF hgF hbA
                refine lexV_eff rfl (fun _ => trivial) ?_
                go_simp
                (try simp only [Act.put, List.getElem_toArray, List.getElem_cons_succ, List.getElem_cons_zero, List.setIfInBounds_toArray, List.set_cons_zero, List.set_cons_succ])
                repeat ((first | (refine lexV_read rfl (by rfl) (by first | exact wanted_none rfl | exact wanted_some (b := true) (c := true) rfl rfl rfl | exact wanted_some (b := false) (c := false) rfl rfl rfl) (by intro w9 hS9; (try dsimp only at hS9); go_simp <;> with_reducible rfl) ?_) | (refine lexV_skip rfl (fun _ => trivial) (by first | exact wanted_some (b := true) (c := false) rfl rfl rfl | exact wanted_some (b := false) (c := true) rfl rfl rfl) ?_) | (refine lexV_builtin rfl (fun _ => trivial) (by first | exact wanted_none rfl | exact wanted_some (b := true) (c := true) rfl rfl rfl | exact wanted_some (b := false) (c := false) rfl rfl rfl) (by intro w9 hS9; (try dsimp only at hS9); go_simp <;> with_reducible rfl) ?_)); (try simp only [Act.put, List.getElem_toArray, List.getElem_cons_succ, List.getElem_cons_zero, List.setIfInBounds_toArray, List.set_cons_zero, List.set_cons_succ]))
                refine lexV_eff rfl (fun _ => trivial) ?_
                go_simp
                (try simp only [Act.put, List.getElem_toArray, List.getElem_cons_succ, List.getElem_cons_zero, List.setIfInBounds_toArray, List.set_cons_zero, List.set_cons_succ])
                repeat ((first | (refine lexV_read rfl (by rfl) (by first | exact wanted_none rfl | exact wanted_some (b := true) (c := true) rfl rfl rfl | exact wanted_some (b := false) (c := false) rfl rfl rfl) (by intro w9 hS9; (try dsimp only at hS9); go_simp <;> with_reducible rfl) ?_) | (refine lexV_skip rfl (fun _ => trivial) (by first | exact wanted_some (b := true) (c := false) rfl rfl rfl | exact wanted_some (b := false) (c := true) rfl rfl rfl) ?_) | (refine lexV_builtin rfl (fun _ => trivial) (by first | exact wanted_none rfl | exact wanted_some (b := true) (c := true) rfl rfl rfl | exact wanted_some (b := false) (c := false) rfl rfl rfl) (by intro w9 hS9; (try dsimp only at hS9); go_simp <;> with_reducible rfl) ?_)); (try simp only [Act.put, List.getElem_toArray, List.getElem_cons_succ, List.getElem_cons_zero, List.setIfInBounds_toArray, List.set_cons_zero, List.set_cons_succ]))
                refine lexV_nil (panQ_normal ?_)
                go_wp2_with fail
                refine bodyPost_ret (results_cell_tmp2 (t := 33) rfl _ _ (w.heap.size + 1 + 1) _ _ rfl HF.out.1 Try.underlying33 rfl (by kernel_rfl)) rfl ?_
                refine ⟨⟨_, _, _, rfl, ?_, ?_, ?_⟩, HF.out.2.1⟩
                · rw [HME.out]
                  exact ⟨_, rfl, el, HF.out.2.2.1, rfl⟩
                · rw [HME.out]
                  exact ⟨qd, HF.out.2.2.2.1, rfl⟩
                · rw [HME.out]
                  exact ksV_one HF.out.2.2.2.2.1 HF.out.2.2.2.2.2
end Go.Proofs.Ytanmndhdhlmjgaa
