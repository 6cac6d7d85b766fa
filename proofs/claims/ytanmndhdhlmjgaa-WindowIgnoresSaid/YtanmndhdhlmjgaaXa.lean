/- The walk of Ack. Conditions: small. -/
import Derived.Test.YtanmndhdhlmjgaaFq
import Derived.Test.YtanmndhdhlmjgaaMathD
import Derived.Test.YtanmndhdhlmjgaaWg
import Derived.Test.YtanmndhdhlmjgaaVf
import Derived.Test.YtanmndhdhlmjgaaWn
namespace Go.Proofs.Ytanmndhdhlmjgaa
open Go.RowKit
/-- what Ack leaves -/
structure AckR (w : World) (base : Nat) (s : Sm) (now : Int) (p : Pm) (e : Ending) (w' : World) : Prop where
  ret : ∃ sv n, e = .returned (.tuple #[sv, .int .i64 n]) ∧ SnV w' base (ackS s now p).1 sv ∧ n = (ackS s now p).2
  bel : Below w.heap.size w w'
/-- the loop's state: k payloads are marked -/
structure AckI (w : World) (base : Nat) (p : Pm) (a b c : Array Value) (vo vq : Value) (es : List Oe) (qs : List Qe) (k : Nat) (wr : World) : Prop where
  bs : Blk wr w.heap.size 25 a
  bk : Blk wr (w.heap.size + 1) 55 b
  bo : Blk wr (w.heap.size + 1 + 1) 25 c
  bel : Below w.heap.size w wr
  own : Own1 encO OeR 82 5 wr base w.heap.size vo (updE (ackE p) k es)
  bq : Own1 encQ QeR 42 1 wr base w.heap.size vq qs
theorem AckI.below {w : World} {base : Nat} {p : Pm} {a b c : Array Value} {vo vq : Value} {es : List Oe} {qs : List Qe} {k : Nat} {wr w' : World} (h : AckI w base p a b c vo vq es qs k wr) (hb : Below wr.heap.size wr w') : AckI w base p a b c vo vq es qs k w' :=
  ⟨h.bs.below hb h.bs.lt, h.bk.below hb h.bk.lt, h.bo.below hb h.bo.lt, h.bel.trans (hb.mono h.bel.size), h.own.up hb (oeR_ab (by simp)), h.bq.up hb (qeR_ab (by simp))⟩
theorem AckI.drew {w : World} {base : Nat} {p : Pm} {a b c : Array Value} {vo vq : Value} {es : List Oe} {qs : List Qe} {k : Nat} {wr : World} (h : AckI w base p a b c vo vq es qs k wr) : AckI w base p a b c vo vq es qs k wr.drew :=
  h.below (Below.refl _ wr).drew
theorem AckI.skip {w : World} {base : Nat} {p : Pm} {a b c : Array Value} {vo vq : Value} {es : List Oe} {qs : List Qe} {k : Nat} {wr : World} (h : AckI w base p a b c vo vq es qs k wr) (hk : k < es.length) (he : ackE p es[k] = es[k]) : AckI w base p a b c vo vq es qs (k + 1) wr :=
  ⟨h.bs, h.bk, h.bo, h.bel, by rw [updE_same _ _ hk he]; exact h.own, h.bq⟩
theorem AckI.set {w : World} {base : Nat} {p : Pm} {a b c : Array Value} {g n cc : Nat} {vq : Value} {es : List Oe} {qs : List Qe} {k : Nat} {wr : World} (h : AckI w base p a b c (.slice (some ⟨g, 0, none⟩) n cc) vq es qs k wr) (hbw : base ≤ w.heap.size) (hn : es.length = n) (hk : k < es.length) (he : ackE p es[k] = { es[k] with ak := true }) (hg : w.heap.size ≤ g) :
    AckI w base p a b c (.slice (some ⟨g, 0, none⟩) n cc) vq es qs (k + 1) (wr.setCell ⟨g, k * 5 + 3, none⟩ (.bool true)) := by
  have hl : (updE (ackE p) k es).length = n := by rw [updE_len, hn]
  have hk2 : k < (updE (ackE p) k es).length := by omega
  have hat := updE_at (ackE p) es hk hk2
  obtain ⟨hset, hT⟩ := Own1.set (base := base) (by have h := h.own; rw [← hl] at h; exact h) hbw (oeR_ab (by simp)) encO_len hk2 (j := 3) (by omega) { es[k] with ak := true } (.bool true) (by rw [hat]; rfl) (by have h2 := h.own.el _ (List.getElem_mem hk2); rw [hat] at h2; exact h2)
  rw [← he, updE_set _ _ hk, hl] at hset
  exact ⟨h.bs.turn hT (by simp), h.bk.turn hT (by simp), h.bo.turn hT (by simp), h.bel.setCell (p := ⟨g, k * 5 + 3, none⟩) hg _, hset, h.bq.turn hT (by simp) (qeR_ab (by simp))⟩
end Go.Proofs.Ytanmndhdhlmjgaa
namespace Go.Proofs.Ytanmndhdhlmjgaa.Fr
open Go.RowKit
structure AckR (w : World) (base : Nat) (s : Sm) (now : Int) (p : Pm) (v : Value) (e : Ending) (w' : World) : Prop where
  ret : ∃ sv n, e = .returned (.tuple #[sv, .int .i64 n]) ∧ SnV w' base (ackS s now p).1 sv ∧ n = (ackS s now p).2 ∧ (sv = v ∨ FreshQ w.heap.size sv)
  bel : Below w.heap.size w w'
set_option maxRecDepth 100000 in
set_option maxHeartbeats 2000000 in
set_option linter.unusedSimpArgs false in
theorem Ack_any (s : Sm) (now : Int) (p : Pm) (v pv : Value) (base : Nat) (w : World) (hv : SnV w base s v) (hs : Small s) (hp : PkV w base p pv) (hsp : SmallP p) (hbw : base ≤ w.heap.size) :
    Calls Try.prog 29 #[v, .int .i64 now, pv] w (AckR w base s now p v) := by
  have HV := Lib.hid hv
  have HP := Lib.hid hp
  obtain ⟨vo, vq, rfl, hO, hQ⟩ := hv
  obtain ⟨Ao, co, rfl, -, -⟩ := hO.form
  obtain ⟨Aq, cq, rfl, -, -⟩ := hQ.form
  obtain ⟨vs, vp, rfl, hX, Ap, cp, rfl, hB⟩ := hp
  have HXS := Lib.hid hX
  obtain ⟨As, cs, rfl, -, -⟩ := hX.form
  clear hX hB hO hQ
  obtain ⟨no, hno⟩ : ∃ n, s.out.length = n := ⟨_, rfl⟩
  obtain ⟨nq, hnq⟩ : ∃ n, s.q.length = n := ⟨_, rfl⟩
  obtain ⟨ns, hns⟩ : ∃ n, p.sel.length = n := ⟨_, rfl⟩
  obtain ⟨np, hnp⟩ : ∃ n, p.p.length = n := ⟨_, rfl⟩
  rw [hno, hnq] at HV ⊢
  rw [hns, hnp] at HP ⊢
  rw [hns] at HXS
  have HL := Lib.hid (And.intro hno (And.intro hnq (And.intro hns hnp)))
  clear hno hnq hns hnp
  have HSM := Lib.hid (And.intro hs hsp)
  clear hs hsp
  unfold snC at HV ⊢
  unfold pkC at HP ⊢
  have HW : Hid (Blk (((w.alloc (.cells #[.int .i64 s.ses, .int .i64 s.lim, .int .i64 s.tmo, .int .i64 s.base, .int .i64 s.next, .int .i64 s.cred, .slice Ao no co, .slice Aq nq cq] 25)).alloc (.cells #[.int .i64 p.kind, .int .i64 p.ses, .int .i64 p.seq, .int .i64 p.ack, .int .i64 p.cred, .slice As ns cs, .slice Ap np cp] 55)).alloc (.cells #[.int .i64 0, .int .i64 0, .int .i64 0, .int .i64 0, .int .i64 0, .int .i64 0, .slice none 0 0, .slice none 0 0] 25)) (w.heap.size) 25 #[.int .i64 s.ses, .int .i64 s.lim, .int .i64 s.tmo, .int .i64 s.base, .int .i64 s.next, .int .i64 s.cred, .slice Ao no co, .slice Aq nq cq] ∧ Blk (((w.alloc (.cells #[.int .i64 s.ses, .int .i64 s.lim, .int .i64 s.tmo, .int .i64 s.base, .int .i64 s.next, .int .i64 s.cred, .slice Ao no co, .slice Aq nq cq] 25)).alloc (.cells #[.int .i64 p.kind, .int .i64 p.ses, .int .i64 p.seq, .int .i64 p.ack, .int .i64 p.cred, .slice As ns cs, .slice Ap np cp] 55)).alloc (.cells #[.int .i64 0, .int .i64 0, .int .i64 0, .int .i64 0, .int .i64 0, .int .i64 0, .slice none 0 0, .slice none 0 0] 25)) (w.heap.size + 1) 55 #[.int .i64 p.kind, .int .i64 p.ses, .int .i64 p.seq, .int .i64 p.ack, .int .i64 p.cred, .slice As ns cs, .slice Ap np cp] ∧ Blk (((w.alloc (.cells #[.int .i64 s.ses, .int .i64 s.lim, .int .i64 s.tmo, .int .i64 s.base, .int .i64 s.next, .int .i64 s.cred, .slice Ao no co, .slice Aq nq cq] 25)).alloc (.cells #[.int .i64 p.kind, .int .i64 p.ses, .int .i64 p.seq, .int .i64 p.ack, .int .i64 p.cred, .slice As ns cs, .slice Ap np cp] 55)).alloc (.cells #[.int .i64 0, .int .i64 0, .int .i64 0, .int .i64 0, .int .i64 0, .int .i64 0, .slice none 0 0, .slice none 0 0] 25)) (w.heap.size + 1 + 1) 25 #[.int .i64 0, .int .i64 0, .int .i64 0, .int .i64 0, .int .i64 0, .int .i64 0, .slice none 0 0, .slice none 0 0] ∧ Below w.heap.size w (((w.alloc (.cells #[.int .i64 s.ses, .int .i64 s.lim, .int .i64 s.tmo, .int .i64 s.base, .int .i64 s.next, .int .i64 s.cred, .slice Ao no co, .slice Aq nq cq] 25)).alloc (.cells #[.int .i64 p.kind, .int .i64 p.ses, .int .i64 p.seq, .int .i64 p.ack, .int .i64 p.cred, .slice As ns cs, .slice Ap np cp] 55)).alloc (.cells #[.int .i64 0, .int .i64 0, .int .i64 0, .int .i64 0, .int .i64 0, .int .i64 0, .slice none 0 0, .slice none 0 0] 25))) := by
    have h1 := ((Blk.new w 25 #[.int .i64 s.ses, .int .i64 s.lim, .int .i64 s.tmo, .int .i64 s.base, .int .i64 s.next, .int .i64 s.cred, .slice Ao no co, .slice Aq nq cq]).alloc (.cells #[.int .i64 p.kind, .int .i64 p.ses, .int .i64 p.seq, .int .i64 p.ack, .int .i64 p.cred, .slice As ns cs, .slice Ap np cp] 55)).alloc (.cells #[.int .i64 0, .int .i64 0, .int .i64 0, .int .i64 0, .int .i64 0, .int .i64 0, .slice none 0 0, .slice none 0 0] 25)
    have h2 := (Blk.new (w.alloc (.cells #[.int .i64 s.ses, .int .i64 s.lim, .int .i64 s.tmo, .int .i64 s.base, .int .i64 s.next, .int .i64 s.cred, .slice Ao no co, .slice Aq nq cq] 25)) 55 #[.int .i64 p.kind, .int .i64 p.ses, .int .i64 p.seq, .int .i64 p.ack, .int .i64 p.cred, .slice As ns cs, .slice Ap np cp]).alloc (.cells #[.int .i64 0, .int .i64 0, .int .i64 0, .int .i64 0, .int .i64 0, .int .i64 0, .slice none 0 0, .slice none 0 0] 25)
    have h3 := Blk.new ((w.alloc (.cells #[.int .i64 s.ses, .int .i64 s.lim, .int .i64 s.tmo, .int .i64 s.base, .int .i64 s.next, .int .i64 s.cred, .slice Ao no co, .slice Aq nq cq] 25)).alloc (.cells #[.int .i64 p.kind, .int .i64 p.ses, .int .i64 p.seq, .int .i64 p.ack, .int .i64 p.cred, .slice As ns cs, .slice Ap np cp] 55)) 25 #[.int .i64 0, .int .i64 0, .int .i64 0, .int .i64 0, .int .i64 0, .int .i64 0, .slice none 0 0, .slice none 0 0]
    rw [World.size_alloc] at h2 h3
    rw [World.size_alloc] at h3
    exact ⟨h1, h2, h3, (((Below.refl _ w).alloc (Nat.le_refl _) _).alloc (by simp) _).alloc (by simp; omega) _⟩
  obtain ⟨ab, hab⟩ : ∃ n, acceptB s now p = n := ⟨_, rfl⟩
  have hc1 := acceptable_any s p now _ _ base base (((w.alloc (.cells #[.int .i64 s.ses, .int .i64 s.lim, .int .i64 s.tmo, .int .i64 s.base, .int .i64 s.next, .int .i64 s.cred, .slice Ao no co, .slice Aq nq cq] 25)).alloc (.cells #[.int .i64 p.kind, .int .i64 p.ses, .int .i64 p.seq, .int .i64 p.ack, .int .i64 p.cred, .slice As ns cs, .slice Ap np cp] 55)).alloc (.cells #[.int .i64 0, .int .i64 0, .int .i64 0, .int .i64 0, .int .i64 0, .int .i64 0, .slice none 0 0, .slice none 0 0] 25)) (HV.out.up HW.out.2.2.2) HSM.out.1 (HP.out.up HW.out.2.2.2) HSM.out.2
  rw [hab] at hc1
  have HC1 := Lib.hid hc1
  have HE := Lib.hid hab
  clear hc1 hab
  go_enter Try.func29, Try.ntmps29
  go_wp2_with fail
  generalize (((w.alloc (.cells #[.int .i64 s.ses, .int .i64 s.lim, .int .i64 s.tmo, .int .i64 s.base, .int .i64 s.next, .int .i64 s.cred, .slice Ao no co, .slice Aq nq cq] 25)).alloc (.cells #[.int .i64 p.kind, .int .i64 p.ses, .int .i64 p.seq, .int .i64 p.ack, .int .i64 p.cred, .slice As ns cs, .slice Ap np cp] 55)).alloc (.cells #[.int .i64 0, .int .i64 0, .int .i64 0, .int .i64 0, .int .i64 0, .int .i64 0, .slice none 0 0, .slice none 0 0] 25)) = W at *
  refine HC1.out.mono ?_
  clear HC1
  rintro e w1 ⟨rfl, hb1⟩
  have HW1 := Lib.hid (And.intro (HW.out.1.below hb1 HW.out.1.lt) (And.intro (HW.out.2.1.below hb1 HW.out.2.1.lt) (And.intro (HW.out.2.2.1.below hb1 HW.out.2.2.1.lt) (HW.out.2.2.2.trans (hb1.mono HW.out.2.2.2.size)))))
  clear hb1
  have xc0 : w1.cell? ⟨w.heap.size, 0, none⟩ = some (.int .i64 s.ses) := HW1.out.1.cell 0
  have xc1 : w1.cell? ⟨w.heap.size, 1, none⟩ = some (.int .i64 s.lim) := HW1.out.1.cell 1
  have xc2 : w1.cell? ⟨w.heap.size, 2, none⟩ = some (.int .i64 s.tmo) := HW1.out.1.cell 2
  have xc3 : w1.cell? ⟨w.heap.size, 3, none⟩ = some (.int .i64 s.base) := HW1.out.1.cell 3
  have xc4 : w1.cell? ⟨w.heap.size, 4, none⟩ = some (.int .i64 s.next) := HW1.out.1.cell 4
  have xc5 : w1.cell? ⟨w.heap.size, 5, none⟩ = some (.int .i64 s.cred) := HW1.out.1.cell 5
  have xc6 : w1.cell? ⟨w.heap.size, 6, none⟩ = some (.slice Ao no co) := HW1.out.1.cell 6
  have xc7 : w1.cell? ⟨w.heap.size, 7, none⟩ = some (.slice Aq nq cq) := HW1.out.1.cell 7
  have xk0 : w1.cell? ⟨w.heap.size + 1, 0, none⟩ = some (.int .i64 p.kind) := HW1.out.2.1.cell 0
  have xk1 : w1.cell? ⟨w.heap.size + 1, 1, none⟩ = some (.int .i64 p.ses) := HW1.out.2.1.cell 1
  have xk2 : w1.cell? ⟨w.heap.size + 1, 2, none⟩ = some (.int .i64 p.seq) := HW1.out.2.1.cell 2
  have xk3 : w1.cell? ⟨w.heap.size + 1, 3, none⟩ = some (.int .i64 p.ack) := HW1.out.2.1.cell 3
  have xk4 : w1.cell? ⟨w.heap.size + 1, 4, none⟩ = some (.int .i64 p.cred) := HW1.out.2.1.cell 4
  have xk5 : w1.cell? ⟨w.heap.size + 1, 5, none⟩ = some (.slice As ns cs) := HW1.out.2.1.cell 5
  have xk6 : w1.cell? ⟨w.heap.size + 1, 6, none⟩ = some (.slice Ap np cp) := HW1.out.2.1.cell 6
  have xd0 : w1.cell? ⟨w.heap.size + 1 + 1, 0, none⟩ = some (.int .i64 0) := HW1.out.2.2.1.cell 0
  have xd1 : w1.cell? ⟨w.heap.size + 1 + 1, 1, none⟩ = some (.int .i64 0) := HW1.out.2.2.1.cell 1
  have xd2 : w1.cell? ⟨w.heap.size + 1 + 1, 2, none⟩ = some (.int .i64 0) := HW1.out.2.2.1.cell 2
  have xd3 : w1.cell? ⟨w.heap.size + 1 + 1, 3, none⟩ = some (.int .i64 0) := HW1.out.2.2.1.cell 3
  have xd4 : w1.cell? ⟨w.heap.size + 1 + 1, 4, none⟩ = some (.int .i64 0) := HW1.out.2.2.1.cell 4
  have xd5 : w1.cell? ⟨w.heap.size + 1 + 1, 5, none⟩ = some (.int .i64 0) := HW1.out.2.2.1.cell 5
  have xd6 : w1.cell? ⟨w.heap.size + 1 + 1, 6, none⟩ = some (.slice none 0 0) := HW1.out.2.2.1.cell 6
  have xd7 : w1.cell? ⟨w.heap.size + 1 + 1, 7, none⟩ = some (.slice none 0 0) := HW1.out.2.2.1.cell 7
  have xy0 := HW1.out.2.2.1.frozen 0
  have xy1 := HW1.out.2.2.1.frozen 1
  have xy2 := HW1.out.2.2.1.frozen 2
  have xy3 := HW1.out.2.2.1.frozen 3
  have xy4 := HW1.out.2.2.1.frozen 4
  have xy5 := HW1.out.2.2.1.frozen 5
  have xy6 := HW1.out.2.2.1.frozen 6
  have xy7 := HW1.out.2.2.1.frozen 7
  have xz0 := HW1.out.1.frozen 0
  have xz1 := HW1.out.1.frozen 1
  have xz2 := HW1.out.1.frozen 2
  have xz3 := HW1.out.1.frozen 3
  have xz4 := HW1.out.1.frozen 4
  have xz5 := HW1.out.1.frozen 5
  have xz6 := HW1.out.1.frozen 6
  have xz7 := HW1.out.1.frozen 7
  have lS := HW1.out.1.lt
  have lK := HW1.out.2.1.lt
  have lO := HW1.out.2.2.1.lt
  cases ab with
  | false =>
    have HM : Hid (ackS s now p = (s, -1)) := by show _ = _; unfold ackS; rw [if_pos HE.out]
    have hkF := set25_blk HW1.out.2.2.1 (.int .i64 s.ses) (.int .i64 s.lim) (.int .i64 s.tmo) (.int .i64 s.base) (.int .i64 s.next) (.int .i64 s.cred) (.slice Ao no co) (.slice Aq nq cq)
    have hbF := set25_below HW1.out.2.2.2 (g := w.heap.size + 1 + 1) (by omega) (.int .i64 s.ses) (.int .i64 s.lim) (.int .i64 s.tmo) (.int .i64 s.base) (.int .i64 s.next) (.int .i64 s.cred) (.slice Ao no co) (.slice Aq nq cq)
    have HF := Lib.hid (And.intro hkF hbF)
    clear hkF hbF
    go_wp2_with fail
    refine bodyPost_ret (results_cell_tmp (t := 25) rfl _ _ (w.heap.size + 1 + 1) _ _ rfl HF.out.1 Try.underlying25 rfl (by kernel_rfl)) rfl ?_
    exact ⟨⟨_, _, rfl, by rw [HM.out]; exact HV.out.up HF.out.2, by rw [HM.out], .inl rfl⟩, HF.out.2⟩
  | true =>
  have hok := accept_ok HE.out
  have hrg := chkS_rng hok.1
  have hpk := chkP_ok hok.2.2
  have hbd := chkP_bd hok.2.2
  have hel : ∀ k (h : k < s.out.length), (0 ≤ s.out[k].time ∧ s.out[k].time ≤ 1073741824) := fun k h => (outE_ok (outsE_at s.base s.out 0 hrg.outs k h)).2.2.2.1
  have HOK := Lib.hid (And.intro hok (And.intro hrg (And.intro hpk (And.intro hbd hel))))
  clear hok hrg hpk hbd hel
  have hc3 := copySender_any s _ base w1 (HV.out.up HW1.out.2.2.2) HSM.out.1 (chkS_pay HOK.out.1.1).1 (chkS_pay HOK.out.1.1).2 (Nat.le_trans hbw HW1.out.2.2.2.size)
  have HC3 := Lib.hid hc3
  clear hc3
  go_wp2_with fail
  refine HC3.out.mono ?_
  clear HC3
  rintro e w2 ⟨⟨vo2, vq2, es, qs, rfl, hO2, hom, hQ2, hqm⟩, hb1⟩
  clear xc0 xc1 xc2 xc3 xc4 xc5 xc6 xc7 xk0 xk1 xk2 xk3 xk4 xk5 xk6 xd0 xd1 xd2 xd3 xd4 xd5 xd6 xd7 xy0 xy1 xy2 xy3 xy4 xy5 xy6 xy7 xz0 xz1 xz2 xz3 xz4 xz5 xz6 xz7 lS lK lO
  have HW2 := Lib.hid (And.intro (HW1.out.1.below hb1 HW1.out.1.lt) (And.intro (HW1.out.2.1.below hb1 HW1.out.2.1.lt) (And.intro (HW1.out.2.2.1.below hb1 HW1.out.2.2.1.lt) (HW1.out.2.2.2.trans (hb1.mono HW1.out.2.2.2.size)))))
  clear hb1
  obtain ⟨A2, c2, rfl, -, -⟩ := hO2.vform
  obtain ⟨Aq2, cq2, rfl, -, -⟩ := hQ2.vform
  have hle : es.length = no := by rw [← HL.out.1, ← hom, List.length_map]
  have hlq : qs.length = nq := by rw [← HL.out.2.1, ← hqm, List.length_map]
  rw [hle] at hO2 ⊢
  rw [hlq] at hQ2 ⊢
  have HQ := Lib.hid (And.intro hle (And.intro hlq (And.intro hom hqm)))
  clear hle hlq hom hqm
  unfold snC
  have xc0 : w2.cell? ⟨w.heap.size, 0, none⟩ = some (.int .i64 s.ses) := HW2.out.1.cell 0
  have xc1 : w2.cell? ⟨w.heap.size, 1, none⟩ = some (.int .i64 s.lim) := HW2.out.1.cell 1
  have xc2 : w2.cell? ⟨w.heap.size, 2, none⟩ = some (.int .i64 s.tmo) := HW2.out.1.cell 2
  have xc3 : w2.cell? ⟨w.heap.size, 3, none⟩ = some (.int .i64 s.base) := HW2.out.1.cell 3
  have xc4 : w2.cell? ⟨w.heap.size, 4, none⟩ = some (.int .i64 s.next) := HW2.out.1.cell 4
  have xc5 : w2.cell? ⟨w.heap.size, 5, none⟩ = some (.int .i64 s.cred) := HW2.out.1.cell 5
  have xc6 : w2.cell? ⟨w.heap.size, 6, none⟩ = some (.slice Ao no co) := HW2.out.1.cell 6
  have xc7 : w2.cell? ⟨w.heap.size, 7, none⟩ = some (.slice Aq nq cq) := HW2.out.1.cell 7
  have xz0 := HW2.out.1.frozen 0
  have xz1 := HW2.out.1.frozen 1
  have xz2 := HW2.out.1.frozen 2
  have xz3 := HW2.out.1.frozen 3
  have xz4 := HW2.out.1.frozen 4
  have xz5 := HW2.out.1.frozen 5
  have xz6 := HW2.out.1.frozen 6
  have xz7 := HW2.out.1.frozen 7
  have lS := HW2.out.1.lt
  have hkS := set25_blk HW2.out.1 (.int .i64 s.ses) (.int .i64 s.lim) (.int .i64 s.tmo) (.int .i64 s.base) (.int .i64 s.next) (.int .i64 s.cred) (.slice A2 no c2) (.slice Aq2 nq cq2)
  have hkK := set25_other HW2.out.2.1 (g := w.heap.size) (by omega) (.int .i64 s.ses) (.int .i64 s.lim) (.int .i64 s.tmo) (.int .i64 s.base) (.int .i64 s.next) (.int .i64 s.cred) (.slice A2 no c2) (.slice Aq2 nq cq2)
  have hkO := set25_other HW2.out.2.2.1 (g := w.heap.size) (by omega) (.int .i64 s.ses) (.int .i64 s.lim) (.int .i64 s.tmo) (.int .i64 s.base) (.int .i64 s.next) (.int .i64 s.cred) (.slice A2 no c2) (.slice Aq2 nq cq2)
  have hT0 := set25_turn HW2.out.1 hbw (.int .i64 s.ses) (.int .i64 s.lim) (.int .i64 s.tmo) (.int .i64 s.base) (.int .i64 s.next) (.int .i64 s.cred) (.slice A2 no c2) (.slice Aq2 nq cq2)
  have hb0 := set25_below HW2.out.2.2.2 (g := w.heap.size) (Nat.le_refl _) (.int .i64 s.ses) (.int .i64 s.lim) (.int .i64 s.tmo) (.int .i64 s.base) (.int .i64 s.next) (.int .i64 s.cred) (.slice A2 no c2) (.slice Aq2 nq cq2)
  have hO0 := (hO2.turn hT0 (by simp) (oeR_ab (by simp))).low HW1.out.2.2.2.size
  have hQ0 := (hQ2.turn hT0 (by simp) (qeR_ab (by simp))).low HW1.out.2.2.2.size
  have HV0 := Lib.hid (And.intro hkS (And.intro hkK (And.intro hkO (And.intro hb0 (And.intro hO0 hQ0)))))
  clear hkS hkK hkO hT0 hb0 hO0 hQ0 hO2 hQ2
  go_upto_region 4 with fail
  generalize ((((((((w2.setCell ⟨w.heap.size, 0, none⟩ (.int .i64 s.ses)).setCell ⟨w.heap.size, 1, none⟩ (.int .i64 s.lim)).setCell ⟨w.heap.size, 2, none⟩ (.int .i64 s.tmo)).setCell ⟨w.heap.size, 3, none⟩ (.int .i64 s.base)).setCell ⟨w.heap.size, 4, none⟩ (.int .i64 s.next)).setCell ⟨w.heap.size, 5, none⟩ (.int .i64 s.cred)).setCell ⟨w.heap.size, 6, none⟩ (.slice A2 no c2)).setCell ⟨w.heap.size, 7, none⟩ (.slice Aq2 nq cq2)) = V at *
  clear xc0 xc1 xc2 xc3 xc4 xc5 xc6 xc7 xz0 xz1 xz2 xz3 xz4 xz5 xz6 xz7 lS
  have xc0 : V.cell? ⟨w.heap.size, 0, none⟩ = some (.int .i64 s.ses) := HV0.out.1.cell 0
  have xc1 : V.cell? ⟨w.heap.size, 1, none⟩ = some (.int .i64 s.lim) := HV0.out.1.cell 1
  have xc2 : V.cell? ⟨w.heap.size, 2, none⟩ = some (.int .i64 s.tmo) := HV0.out.1.cell 2
  have xc3 : V.cell? ⟨w.heap.size, 3, none⟩ = some (.int .i64 s.base) := HV0.out.1.cell 3
  have xc4 : V.cell? ⟨w.heap.size, 4, none⟩ = some (.int .i64 s.next) := HV0.out.1.cell 4
  have xc5 : V.cell? ⟨w.heap.size, 5, none⟩ = some (.int .i64 s.cred) := HV0.out.1.cell 5
  have xc6 : V.cell? ⟨w.heap.size, 6, none⟩ = some (.slice A2 no c2) := HV0.out.1.cell 6
  have xc7 : V.cell? ⟨w.heap.size, 7, none⟩ = some (.slice Aq2 nq cq2) := HV0.out.1.cell 7
  have xk0 : V.cell? ⟨w.heap.size + 1, 0, none⟩ = some (.int .i64 p.kind) := HV0.out.2.1.cell 0
  have xk1 : V.cell? ⟨w.heap.size + 1, 1, none⟩ = some (.int .i64 p.ses) := HV0.out.2.1.cell 1
  have xk2 : V.cell? ⟨w.heap.size + 1, 2, none⟩ = some (.int .i64 p.seq) := HV0.out.2.1.cell 2
  have xk3 : V.cell? ⟨w.heap.size + 1, 3, none⟩ = some (.int .i64 p.ack) := HV0.out.2.1.cell 3
  have xk4 : V.cell? ⟨w.heap.size + 1, 4, none⟩ = some (.int .i64 p.cred) := HV0.out.2.1.cell 4
  have xk5 : V.cell? ⟨w.heap.size + 1, 5, none⟩ = some (.slice As ns cs) := HV0.out.2.1.cell 5
  have xk6 : V.cell? ⟨w.heap.size + 1, 6, none⟩ = some (.slice Ap np cp) := HV0.out.2.1.cell 6
  have xd0 : V.cell? ⟨w.heap.size + 1 + 1, 0, none⟩ = some (.int .i64 0) := HV0.out.2.2.1.cell 0
  have xd1 : V.cell? ⟨w.heap.size + 1 + 1, 1, none⟩ = some (.int .i64 0) := HV0.out.2.2.1.cell 1
  have xd2 : V.cell? ⟨w.heap.size + 1 + 1, 2, none⟩ = some (.int .i64 0) := HV0.out.2.2.1.cell 2
  have xd3 : V.cell? ⟨w.heap.size + 1 + 1, 3, none⟩ = some (.int .i64 0) := HV0.out.2.2.1.cell 3
  have xd4 : V.cell? ⟨w.heap.size + 1 + 1, 4, none⟩ = some (.int .i64 0) := HV0.out.2.2.1.cell 4
  have xd5 : V.cell? ⟨w.heap.size + 1 + 1, 5, none⟩ = some (.int .i64 0) := HV0.out.2.2.1.cell 5
  have xd6 : V.cell? ⟨w.heap.size + 1 + 1, 6, none⟩ = some (.slice none 0 0) := HV0.out.2.2.1.cell 6
  have xd7 : V.cell? ⟨w.heap.size + 1 + 1, 7, none⟩ = some (.slice none 0 0) := HV0.out.2.2.1.cell 7
  have xy0 := HV0.out.2.2.1.frozen 0
  have xy1 := HV0.out.2.2.1.frozen 1
  have xy2 := HV0.out.2.2.1.frozen 2
  have xy3 := HV0.out.2.2.1.frozen 3
  have xy4 := HV0.out.2.2.1.frozen 4
  have xy5 := HV0.out.2.2.1.frozen 5
  have xy6 := HV0.out.2.2.1.frozen 6
  have xy7 := HV0.out.2.2.1.frozen 7
  have xz0 := HV0.out.1.frozen 0
  have xz1 := HV0.out.1.frozen 1
  have xz2 := HV0.out.1.frozen 2
  have xz3 := HV0.out.1.frozen 3
  have xz4 := HV0.out.1.frozen 4
  have xz5 := HV0.out.1.frozen 5
  have xz6 := HV0.out.1.frozen 6
  have xz7 := HV0.out.1.frozen 7
  have lS := HV0.out.1.lt
  have lK := HV0.out.2.1.lt
  have lO := HV0.out.2.2.1.lt
  have b1 := HOK.out.2.1.base
  have b2 := HOK.out.2.1.cred
  have b3 := HOK.out.2.2.1.2.1
  have b4 := HOK.out.2.2.1.2.2.1
  have b5 := HOK.out.1.2.1
  have b6 := HOK.out.2.1.out
  have b7 := HOK.out.2.1.lim
  rw [HL.out.1] at b6
  have kw1 : IntKind.i64.wrap (s.base + s.cred) = s.base + s.cred := by rw [IntWalk.i64_in _ (by omega)]
  have kw2 : IntKind.i64.wrap (p.ack + p.cred) = p.ack + p.cred := by rw [IntWalk.i64_in _ (by omega)]
  obtain ⟨gr, hgr⟩ : ∃ x, x = max (s.base + s.cred) (p.ack + p.cred) := ⟨_, rfl⟩
  have hmax := max_run _ _ _ hgr
  have HGR := Lib.hid hgr
  clear hgr
  go_wp2_with fail

  clear xc0 xc1 xc2 xc3 xc4 xc5 xc6 xc7 xk0 xk1 xk2 xk3 xk4 xk5 xk6 xd0 xd1 xd2 xd3 xd4 xd5 xd6 xd7 xy0 xy1 xy2 xy3 xy4 xy5 xy6 xy7 xz0 xz1 xz2 xz3 xz4 xz5 xz6 xz7 lS lK lO
  have HI0 : Hid (AckI w base p #[.int .i64 s.ses, .int .i64 s.lim, .int .i64 s.tmo, .int .i64 s.base, .int .i64 s.next, .int .i64 s.cred, .slice A2 no c2, .slice Aq2 nq cq2] #[.int .i64 p.kind, .int .i64 p.ses, .int .i64 p.seq, .int .i64 p.ack, .int .i64 p.cred, .slice As ns cs, .slice Ap np cp] #[.int .i64 0, .int .i64 0, .int .i64 0, .int .i64 0, .int .i64 0, .int .i64 0, .slice none 0 0, .slice none 0 0] (.slice A2 no c2) (.slice Aq2 nq cq2) es qs 0 V) := ⟨HV0.out.1, HV0.out.2.1, HV0.out.2.2.1, HV0.out.2.2.2.1, by rw [updE_zero]; exact HV0.out.2.2.2.2.1, HV0.out.2.2.2.2.2⟩
  go_loopw [10, 37] (fun v10 v37 wr => ∃ k : Nat, k ≤ no ∧ v37 = .int .i64 k ∧ v10 = .int .i64 ((s.out.take k).foldl (samp p now) (-1)) ∧ AckI w base p #[.int .i64 s.ses, .int .i64 s.lim, .int .i64 s.tmo, .int .i64 s.base, .int .i64 s.next, .int .i64 s.cred, .slice A2 no c2, .slice Aq2 nq cq2] #[.int .i64 p.kind, .int .i64 p.ses, .int .i64 p.seq, .int .i64 p.ack, .int .i64 p.cred, .slice As ns cs, .slice Ap np cp] #[.int .i64 0, .int .i64 0, .int .i64 0, .int .i64 0, .int .i64 0, .int .i64 0, .slice none 0 0, .slice none 0 0] (.slice A2 no c2) (.slice Aq2 nq cq2) es qs k wr) (fun _ v37 _ => no - (intOf v37).toNat)
  case atStart => exact ⟨0, by omega, rfl, rfl, HI0.out⟩
  case round =>
    obtain ⟨k, hk, rfl, rfl, hI⟩ := hrel
    have HI := Lib.hid hI
    clear hI HI0
    by_cases hlt : k < no
    · have ik : (k : Int) < no := by omega
      have hke : k < es.length := by rw [HQ.out.1]; exact hlt
      have hks : k < s.out.length := by rw [HL.out.1]; exact hlt
      have hsk : s.out[k] = es[k].om := by
        have h2 : s.out[k]? = (es.map Oe.om)[k]? := by rw [HQ.out.2.2.1]
        rw [List.getElem?_map, List.getElem?_eq_getElem hke, List.getElem?_eq_getElem hks] at h2
        injection h2
      have hkl : k < (updE (ackE p) k es).length := by rw [updE_len]; exact hke
      have hat := updE_at (ackE p) es hke hkl
      obtain ⟨g, cc, cur, hv, hg, hbl, _, _, hcell⟩ := HI.out.own.form encO_len (by omega)
      injection hv with hA hn hc
      subst hA hc
      clear hn
      have hcell := hcell k hkl
      rw [hat] at hcell
      have htm := HOK.out.2.2.2.2 k hks
      have hfs := fold_succ (samp p now) (-1) s.out k hks
      rw [hsk] at htm hfs
      obtain ⟨d0, -⟩ := hcell 0 _ rfl
      obtain ⟨d1, -⟩ := hcell 1 _ rfl
      obtain ⟨d2, -⟩ := hcell 2 _ rfl
      obtain ⟨d3, z3⟩ := hcell 3 _ rfl
      rw [Nat.add_zero] at d0
      have hgl := hbl.lt
      have HX := Lib.hid (And.intro hke (And.intro hfs hbl))
      clear hcell hsk hat hfs hbl
      obtain ⟨sq, hsq⟩ : ∃ x, x = es[k].seq := ⟨_, rfl⟩
      obtain ⟨tm, htmv⟩ : ∃ x, x = es[k].time := ⟨_, rfl⟩
      obtain ⟨ct, hct⟩ : ∃ x, x = es[k].cnt := ⟨_, rfl⟩
      obtain ⟨ak, hak⟩ : ∃ x, x = es[k].ak := ⟨_, rfl⟩
      obtain ⟨ab, hab⟩ : ∃ x, x = ackedB p sq := ⟨_, rfl⟩
      obtain ⟨sv, hsv⟩ : ∃ x, x = (s.out.take k).foldl (samp p now) (-1) := ⟨_, rfl⟩
      rw [← hsq] at d0
      rw [← htmv] at d1
      rw [← hct] at d2
      rw [← hak] at d3
      rw [← hsv]
      change 0 ≤ es[k].time ∧ es[k].time ≤ 1073741824 at htm
      rw [← htmv] at htm
      have HA : Hid (ackE p es[k] = (if (!ak && ab) = true then { es[k] with ak := true } else es[k])) := by show _ = _; unfold ackE; rw [hak, hab, hsq]
      have HF : Hid ((s.out.take (k + 1)).foldl (samp p now) (-1) = if (!ak && ab) = true ∧ ct = 1 ∧ tm ≤ now then now - tm else sv) := by
        show _ = _
        rw [HX.out.2.1, ← hsv]
        unfold samp Oe.om
        dsimp only
        rw [hak, hab, hsq, hct, htmv]
      have HAB := Lib.hid hab
      clear hsq htmv hct hak hab hsv hkl hks
      have xc6 : wr.cell? ⟨w.heap.size, 6, none⟩ = some (.slice (some ⟨g, 0, none⟩) no c2) := HI.out.bs.cell 6
      have xk3 : wr.cell? ⟨w.heap.size + 1, 3, none⟩ = some (.int .i64 p.ack) := HI.out.bk.cell 3
      have xk5 : wr.cell? ⟨w.heap.size + 1, 5, none⟩ = some (.slice As ns cs) := HI.out.bk.cell 5
      have lS := HI.out.bs.lt
      have lK := HI.out.bk.lt
      cases ak with
      | true =>
        have HS := Lib.hid (HI.out.skip HX.out.1 (by rw [HA.out]; rfl))
        have HF2 : Hid ((s.out.take (k + 1)).foldl (samp p now) (-1) = sv) := by show _ = _; rw [HF.out, if_neg (by simp)]
        go_wp2_with fail
        go_roundw
        case rel => exact ⟨k + 1, by omega, by go_num, by rw [HF2.out], HS.out⟩
        case measure => simp [intOf]; omega
      | false =>
        go_wp2_with fail
        refine (acked_any p sq _ (w.heap.size + 1) base wr xk3 xk5 lK (HXS.out.up HI.out.bel) HOK.out.2.2.2.1 HSM.out.2.sel).mono ?_
        rintro e w1 ⟨rfl, hb1⟩
        have e1 := (hb1.cell (p := ⟨g, k * 5 + 1, none⟩) hgl).trans d1
        have e2 := (hb1.cell (p := ⟨g, k * 5 + 2, none⟩) hgl).trans d2
        have e3 := (hb1.cell (p := ⟨g, k * 5 + 3, none⟩) hgl).trans d3
        have ez3 := (hb1.frozen (p := ⟨g, k * 5 + 3, none⟩) hgl).trans z3
        have hgl1 := Nat.lt_of_lt_of_le hgl hb1.size
        have HI1 := Lib.hid (HI.out.below hb1)
        rw [← HAB.out]
        clear hb1 xc6 xk3 xk5 d0 d1 d2 d3 z3
        cases ab with
        | false =>
          have HS := Lib.hid (HI1.out.skip HX.out.1 (by rw [HA.out]; rfl))
          have HF2 : Hid ((s.out.take (k + 1)).foldl (samp p now) (-1) = sv) := by show _ = _; rw [HF.out, if_neg (by simp)]
          go_wp2_with fail
          go_roundw
          case rel => exact ⟨k + 1, by omega, by go_num, by rw [HF2.out], HS.out⟩
          case measure => simp [intOf]; omega
        | true =>
          have hS := HI1.out.set hbw HQ.out.1 HX.out.1 (by rw [HA.out]; rfl) hg
          have HS := Lib.hid hS
          clear hS
          have kwn : IntKind.i64.wrap (now - tm) = now - tm := by rw [IntWalk.i64_in _ (by omega)]
          by_cases hc1 : ct = 1
          rotate_left 1
          · have k1 : ((ct : Int) == 1) = false := by simpa using hc1
            have HF2 : Hid ((s.out.take (k + 1)).foldl (samp p now) (-1) = sv) := by show _ = _; rw [HF.out, if_neg (fun h => hc1 h.2.1)]
            clear hc1
            go_wp2_with fail
            go_roundw
            case rel => exact ⟨k + 1, by omega, by go_num, by rw [HF2.out], HS.out⟩
            case measure => simp [intOf]; omega
          have k1 : ((ct : Int) == 1) = true := by simpa using hc1
          by_cases hc2 : tm ≤ now
          rotate_left 1
          · have k2 : decide (tm ≤ now) = false := decide_eq_false hc2
            have HF2 : Hid ((s.out.take (k + 1)).foldl (samp p now) (-1) = sv) := by show _ = _; rw [HF.out, if_neg (fun h => hc2 h.2.2)]
            clear hc2 hc1
            go_wp2_with fail
            go_roundw
            case rel => exact ⟨k + 1, by omega, by go_num, by rw [HF2.out], HS.out⟩
            case measure => simp [intOf]; omega
          have k2 : decide (tm ≤ now) = true := decide_eq_true hc2
          have HF2 : Hid ((s.out.take (k + 1)).foldl (samp p now) (-1) = now - tm) := by show _ = _; rw [HF.out, if_pos ⟨rfl, hc1, hc2⟩]
          clear hc2 hc1
          go_wp2_with fail
          go_roundw
          case rel => exact ⟨k + 1, by omega, by go_num, by rw [HF2.out], HS.out⟩
          case measure => simp [intOf]; omega
    · obtain rfl : k = no := by omega
      obtain ⟨wo, hwo⟩ : ∃ x : World, x = wr := ⟨_, rfl⟩
      subst hwo
      have HSM2 : Hid (ackS s now p = ({ s with base := s.base + ((s.out.map (ackO p)).takeWhile (·.ak)).length, out := (s.out.map (ackO p)).drop ((s.out.map (ackO p)).takeWhile (·.ak)).length, cred := max (gr - (s.base + ((s.out.map (ackO p)).takeWhile (·.ak)).length)) 0 }, s.out.foldl (samp p now) (-1))) := by
        show _ = _
        unfold ackS
        rw [if_neg (by rw [HE.out]; simp), HGR.out]
      have hfold : (s.out.take k).foldl (samp p now) (-1) = s.out.foldl (samp p now) (-1) := by rw [List.take_of_length_le (by rw [HL.out.1]; exact Nat.le_refl _)]
      rw [hfold]
      have hown := HI.out.own
      rw [updE_all _ _ HQ.out.1] at hown
      obtain ⟨L, hL⟩ : ∃ L, L = es.map (ackE p) := ⟨_, rfl⟩
      rw [← hL] at hown
      have hLm : L.map Oe.om = s.out.map (ackO p) := by
        rw [hL, ← HQ.out.2.2.1, List.map_map, List.map_map]
        apply List.map_congr_left
        intro e _
        exact ackE_om p e
      have hLn : L.length = k := by rw [hL, List.length_map, HQ.out.1]
      have htw := tw_map L
      rw [hLm] at htw
      obtain ⟨F, hF⟩ : ∃ F, F = ((s.out.map (ackO p)).takeWhile (·.ak)).length := ⟨_, rfl⟩
      rw [← hF] at htw
      have hFk : F ≤ k := by
        have h3 := (List.takeWhile_sublist (l := s.out.map (ackO p)) (fun o : Om => o.ak)).length_le
        rw [List.length_map, HL.out.1, ← hF] at h3
        exact h3
      rw [hLn] at htw
      have HTW := Lib.hid (And.intro hLm (And.intro hLn (And.intro hF hL)))
      have HOWN := Lib.hid hown
      have hcall := idxFree_any (.slice A2 k c2) base L wo hown.vec (by omega)
      have HC := Lib.hid hcall
      obtain ⟨ix, hix⟩ : ∃ i, i = idxI freeO L := ⟨_, rfl⟩
      rw [← hix] at htw HC
      clear hfold hown hLm hLn hF hL hcall hix
      have xc3 : wo.cell? ⟨w.heap.size, 3, none⟩ = some (.int .i64 s.base) := HI.out.bs.cell 3
      have xc6 : wo.cell? ⟨w.heap.size, 6, none⟩ = some (.slice A2 k c2) := HI.out.bs.cell 6
      have lS := HI.out.bs.lt
      go_wp2_with fail
      refine HC.out.mono ?_
      clear HC
      rintro e w1 ⟨rfl, hb1⟩
      have HI1 := Lib.hid (HI.out.below hb1)
      have HOWN1 := Lib.hid (HOWN.out.up hb1 (oeR_ab (by simp)))
      clear HI HOWN hb1 xc3 xc6 lS
      have HB := Lib.hid HI1.out.bel
      have xc0 : w1.cell? ⟨w.heap.size, 0, none⟩ = some (.int .i64 s.ses) := HI1.out.bs.cell 0
      have xc1 : w1.cell? ⟨w.heap.size, 1, none⟩ = some (.int .i64 s.lim) := HI1.out.bs.cell 1
      have xc2 : w1.cell? ⟨w.heap.size, 2, none⟩ = some (.int .i64 s.tmo) := HI1.out.bs.cell 2
      have xc3 : w1.cell? ⟨w.heap.size, 3, none⟩ = some (.int .i64 s.base) := HI1.out.bs.cell 3
      have xc4 : w1.cell? ⟨w.heap.size, 4, none⟩ = some (.int .i64 s.next) := HI1.out.bs.cell 4
      have xc5 : w1.cell? ⟨w.heap.size, 5, none⟩ = some (.int .i64 s.cred) := HI1.out.bs.cell 5
      have xc6 : w1.cell? ⟨w.heap.size, 6, none⟩ = some (.slice A2 k c2) := HI1.out.bs.cell 6
      have xc7 : w1.cell? ⟨w.heap.size, 7, none⟩ = some (.slice Aq2 nq cq2) := HI1.out.bs.cell 7
      have xz0 := HI1.out.bs.frozen 0
      have xz1 := HI1.out.bs.frozen 1
      have xz2 := HI1.out.bs.frozen 2
      have xz3 := HI1.out.bs.frozen 3
      have xz4 := HI1.out.bs.frozen 4
      have xz5 := HI1.out.bs.frozen 5
      have xz6 := HI1.out.bs.frozen 6
      have xz7 := HI1.out.bs.frozen 7
      have lS := HI1.out.bs.lt
      have kwb : IntKind.i64.wrap (s.base + (F : Int)) = s.base + (F : Int) := by rw [IntWalk.i64_in _ (by omega)]
      have iF : (F : Int) ≤ k := by omega
      obtain ⟨fi, hfi⟩ : ∃ x : Int, x = F := ⟨_, rfl⟩
      have hgb : 0 ≤ gr ∧ gr ≤ 1073741888 := by rw [HGR.out]; omega
      by_cases hneg : ix < 0
      · rw [if_pos hneg] at htw
        obtain rfl : k = F := by omega
        have kwb : IntKind.i64.wrap (s.base + (k : Int)) = s.base + (k : Int) := by rw [IntWalk.i64_in _ (by omega)]
        have hk3 : Blk (w1.setCell ⟨w.heap.size, 3, none⟩ (.int .i64 (s.base + (k : Int)))) w.heap.size 25 #[.int .i64 s.ses, .int .i64 s.lim, .int .i64 s.tmo, .int .i64 (s.base + (k : Int)), .int .i64 s.next, .int .i64 s.cred, .slice A2 k c2, .slice Aq2 nq cq2] := HI1.out.bs.set_ 3 _
        have hT3 : Turn base [25] w1 (w1.setCell ⟨w.heap.size, 3, none⟩ (.int .i64 (s.base + (k : Int)))) := (Turn.refl base [25] w1).set HI1.out.bs (by simp) hbw 3 _
        have hO3 := HI1.out.bo.far (p := ⟨w.heap.size, 3, none⟩) (by dsimp only; omega) (.int .i64 (s.base + (k : Int)))
        have hb3 := HI1.out.bel.setCell (p := ⟨w.heap.size, 3, none⟩) (Nat.le_refl _) (.int .i64 (s.base + (k : Int)))
        have H3 := Lib.hid (And.intro hk3 (And.intro hO3 (And.intro hb3 (And.intro (HOWN1.out.turn hT3 (by simp) (oeR_ab (by simp))) (HI1.out.bq.turn hT3 (by simp) (qeR_ab (by simp)))))))
        clear hk3 hT3 hO3 hb3
        go_upto_region 20 with fail
        generalize (w1.setCell ⟨w.heap.size, 3, none⟩ (.int .i64 (s.base + (k : Int)))) = V2 at *
        clear xc0 xc1 xc2 xc3 xc4 xc5 xc6 xc7 xz0 xz1 xz2 xz3 xz4 xz5 xz6 xz7 lS kwb
        have xc0 : V2.cell? ⟨w.heap.size, 0, none⟩ = some (.int .i64 s.ses) := H3.out.1.cell 0
        have xc1 : V2.cell? ⟨w.heap.size, 1, none⟩ = some (.int .i64 s.lim) := H3.out.1.cell 1
        have xc2 : V2.cell? ⟨w.heap.size, 2, none⟩ = some (.int .i64 s.tmo) := H3.out.1.cell 2
        have xc3 : V2.cell? ⟨w.heap.size, 3, none⟩ = some (.int .i64 (s.base + (k : Int))) := H3.out.1.cell 3
        have xc4 : V2.cell? ⟨w.heap.size, 4, none⟩ = some (.int .i64 s.next) := H3.out.1.cell 4
        have xc5 : V2.cell? ⟨w.heap.size, 5, none⟩ = some (.int .i64 s.cred) := H3.out.1.cell 5
        have xc6 : V2.cell? ⟨w.heap.size, 6, none⟩ = some (.slice A2 k c2) := H3.out.1.cell 6
        have xc7 : V2.cell? ⟨w.heap.size, 7, none⟩ = some (.slice Aq2 nq cq2) := H3.out.1.cell 7
        have xz0 := H3.out.1.frozen 0
        have xz1 := H3.out.1.frozen 1
        have xz2 := H3.out.1.frozen 2
        have xz3 := H3.out.1.frozen 3
        have xz4 := H3.out.1.frozen 4
        have xz5 := H3.out.1.frozen 5
        have xz6 := H3.out.1.frozen 6
        have xz7 := H3.out.1.frozen 7
        have lS := H3.out.1.lt
        have lO := H3.out.2.1.lt
        have hcn : k ≤ c2 := by
          obtain ⟨A9, c9, h9, h10, -, -⟩ := own_slice H3.out.2.2.2.1.own
          injection h9 with _ h9 h11
          rw [h11, h9]
          exact h10
        have hcut := (Rd.of_own (base := base) (by have h := H3.out.2.2.2.1.own; rw [HTW.out.2.1] at h; exact h)).cut (k := k) (cap := c2) (by omega) hcn
        rw [drop_flat encO_len] at hcut
        have hcl : ∀ A' n' c', A' = (if c2 = k then A2 else A2.map (·.add (k * 5))) → n' = k - k → Calls Try.prog 64 #[.slice A' n' c'] V2 (fun e w' => (∃ v, e = .returned v ∧ w'.ownsRow V2.heap.size 82 5 v n' ((L.drop k).flatMap encO)) ∧ Below V2.heap.size V2 w') := by
          intro A' n' c' h h'
          subst h
          subst h'
          exact CloneO_any _ _ _ _ V2 hcut.rd (by omega) (flat_one encO_one _)
        have HCL := Lib.hid hcl
        obtain ⟨cr, hcr⟩ : ∃ x, x = max (gr - (s.base + (k : Int))) 0 := ⟨_, rfl⟩
        have hmax2 := max_run _ _ _ hcr
        have kwg : IntKind.i64.wrap (gr - (s.base + (k : Int))) = gr - (s.base + (k : Int)) := by rw [IntWalk.i64_in _ (by omega)]
        have HCR := Lib.hid hcr
        clear hcl hcut hcr
        by_cases hcc : c2 = k
        · go_wp2_with fail
          refine (HCL.out _ _ _ (by first | rw [if_pos hcc] | rw [if_neg hcc] | simp) (by omega)).mono ?_
          rintro e w3 ⟨⟨v3, rfl, hown3⟩, hb3⟩
          obtain ⟨n3, hn3⟩ : ∃ n3, n3 = k - k := ⟨_, rfl⟩
          (try rw [show (0 : Nat) = n3 by omega] at hown3)
          (try rw [← hn3] at hown3)
          obtain ⟨A3, c3, rfl, -, -, -⟩ := own_slice hown3
          have hk5 := H3.out.1.below hb3 H3.out.1.lt
          have hO5 := H3.out.2.1.below hb3 H3.out.2.1.lt
          clear xc0 xc1 xc2 xc3 xc4 xc5 xc6 xc7 xz0 xz1 xz2 xz3 xz4 xz5 xz6 xz7 lS lO
          have xc0 : w3.cell? ⟨w.heap.size, 0, none⟩ = some (.int .i64 s.ses) := hk5.cell 0
          have xc1 : w3.cell? ⟨w.heap.size, 1, none⟩ = some (.int .i64 s.lim) := hk5.cell 1
          have xc2 : w3.cell? ⟨w.heap.size, 2, none⟩ = some (.int .i64 s.tmo) := hk5.cell 2
          have xc3 : w3.cell? ⟨w.heap.size, 3, none⟩ = some (.int .i64 (s.base + (k : Int))) := hk5.cell 3
          have xc4 : w3.cell? ⟨w.heap.size, 4, none⟩ = some (.int .i64 s.next) := hk5.cell 4
          have xc5 : w3.cell? ⟨w.heap.size, 5, none⟩ = some (.int .i64 s.cred) := hk5.cell 5
          have xc6 : w3.cell? ⟨w.heap.size, 6, none⟩ = some (.slice A2 k c2) := hk5.cell 6
          have xc7 : w3.cell? ⟨w.heap.size, 7, none⟩ = some (.slice Aq2 nq cq2) := hk5.cell 7
          have xz0 := hk5.frozen 0
          have xz1 := hk5.frozen 1
          have xz2 := hk5.frozen 2
          have xz3 := hk5.frozen 3
          have xz4 := hk5.frozen 4
          have xz5 := hk5.frozen 5
          have xz6 := hk5.frozen 6
          have xz7 := hk5.frozen 7
          have xd0 : w3.cell? ⟨w.heap.size + 1 + 1, 0, none⟩ = some (.int .i64 0) := hO5.cell 0
          have xd1 : w3.cell? ⟨w.heap.size + 1 + 1, 1, none⟩ = some (.int .i64 0) := hO5.cell 1
          have xd2 : w3.cell? ⟨w.heap.size + 1 + 1, 2, none⟩ = some (.int .i64 0) := hO5.cell 2
          have xd3 : w3.cell? ⟨w.heap.size + 1 + 1, 3, none⟩ = some (.int .i64 0) := hO5.cell 3
          have xd4 : w3.cell? ⟨w.heap.size + 1 + 1, 4, none⟩ = some (.int .i64 0) := hO5.cell 4
          have xd5 : w3.cell? ⟨w.heap.size + 1 + 1, 5, none⟩ = some (.int .i64 0) := hO5.cell 5
          have xd6 : w3.cell? ⟨w.heap.size + 1 + 1, 6, none⟩ = some (.slice none 0 0) := hO5.cell 6
          have xd7 : w3.cell? ⟨w.heap.size + 1 + 1, 7, none⟩ = some (.slice none 0 0) := hO5.cell 7
          have xy0 := hO5.frozen 0
          have xy1 := hO5.frozen 1
          have xy2 := hO5.frozen 2
          have xy3 := hO5.frozen 3
          have xy4 := hO5.frozen 4
          have xy5 := hO5.frozen 5
          have xy6 := hO5.frozen 6
          have xy7 := hO5.frozen 7
          have lS := hk5.lt
          have lO := hO5.lt
          have hLd : (L.drop k).length = n3 := by rw [List.length_drop, HTW.out.2.1, hn3]
          have hk6 : Blk ((w3.setCell ⟨w.heap.size, 6, none⟩ (.slice A3 n3 c3)).setCell ⟨w.heap.size, 5, none⟩ (.int .i64 cr)) (w.heap.size) 25 #[.int .i64 s.ses, .int .i64 s.lim, .int .i64 s.tmo, .int .i64 (s.base + (k : Int)), .int .i64 s.next, .int .i64 cr, .slice A3 n3 c3, .slice Aq2 nq cq2] := (hk5.set_ 6 (.slice A3 n3 c3)).set_ 5 (.int .i64 cr)
          have hT6 : Turn base [25] w3 ((w3.setCell ⟨w.heap.size, 6, none⟩ (.slice A3 n3 c3)).setCell ⟨w.heap.size, 5, none⟩ (.int .i64 cr)) := ((Turn.refl base [25] w3).set hk5 (by simp) hbw 6 (.slice A3 n3 c3)).set (hk5.set_ 6 (.slice A3 n3 c3)) (by simp) hbw 5 (.int .i64 cr)
          have hO6 := (hO5.far (p := ⟨w.heap.size, 6, none⟩) (by dsimp only; omega) (.slice A3 n3 c3)).far (p := ⟨w.heap.size, 5, none⟩) (by dsimp only; omega) (.int .i64 cr)
          have hw6 : Below w.heap.size w ((w3.setCell ⟨w.heap.size, 6, none⟩ (.slice A3 n3 c3)).setCell ⟨w.heap.size, 5, none⟩ (.int .i64 cr)) := ((H3.out.2.2.1.trans (hb3.mono H3.out.2.2.1.size)).setCell (p := ⟨w.heap.size, 6, none⟩) (Nat.le_refl _) _).setCell (p := ⟨w.heap.size, 5, none⟩) (Nat.le_refl _) _
          have hrow : Own1 encO OeR 82 5 w3 base V2.heap.size (.slice A3 n3 c3) (L.drop k) := ⟨by rw [hLd]; exact hown3, fun e he => (oeR_ab (T := []) (by simp)) _ _ _ _ (Turn.of_below hb3) (H3.out.2.2.2.1.el e (List.mem_of_mem_drop he))⟩
          have hrow6 := hrow.turn hT6 (by simp) (oeR_ab (by simp))
          have hq6 := (H3.out.2.2.2.2.up hb3 (qeR_ab (by simp))).turn hT6 (by simp) (qeR_ab (by simp))
          have hkF := set25_blk hO6 (.int .i64 s.ses) (.int .i64 s.lim) (.int .i64 s.tmo) (.int .i64 (s.base + (k : Int))) (.int .i64 s.next) (.int .i64 cr) (.slice A3 n3 c3) (.slice Aq2 nq cq2)
          have hTF := set25_turn hO6 (base := base) (by omega) (.int .i64 s.ses) (.int .i64 s.lim) (.int .i64 s.tmo) (.int .i64 (s.base + (k : Int))) (.int .i64 s.next) (.int .i64 cr) (.slice A3 n3 c3) (.slice Aq2 nq cq2)
          have hbF := set25_below hw6 (g := w.heap.size + 1 + 1) (by omega) (.int .i64 s.ses) (.int .i64 s.lim) (.int .i64 s.tmo) (.int .i64 (s.base + (k : Int))) (.int .i64 s.next) (.int .i64 cr) (.slice A3 n3 c3) (.slice Aq2 nq cq2)
          have HF3 := Lib.hid (And.intro hkF (And.intro hbF (And.intro (hrow6.turn hTF (by simp) (oeR_ab (by simp))) (And.intro (hq6.turn hTF (by simp) (qeR_ab (by simp))) hLd))))
          clear hk5 hO5 hk6 hT6 hO6 hw6 hrow hrow6 hq6 hkF hTF hbF hLd hown3 hb3 hn3
          go_wp2_with fail
          refine bodyPost_ret (results_cell_tmp (t := 25) rfl _ _ (w.heap.size + 1 + 1) _ _ rfl HF3.out.1 Try.underlying25 rfl (by kernel_rfl)) rfl ?_
          refine ⟨⟨_, _, rfl, ?_, by rw [HSM2.out], .inr (freshQ_own HF3.out.2.2.2.1.own (Nat.le_refl _))⟩, HF3.out.2.1⟩
          rw [HSM2.out, ← HTW.out.2.2.1, ← HCR.out, ← HTW.out.1, ← List.map_drop]
          exact ⟨_, _, rfl, ⟨L.drop k, HF3.out.2.2.1.vec, rfl⟩, ⟨qs, HF3.out.2.2.2.1.vec, HQ.out.2.2.2⟩⟩
        go_wp2_with fail
        refine (HCL.out _ _ _ (by first | rw [if_pos hcc] | rw [if_neg hcc] | simp) (by omega)).mono ?_
        rintro e w3 ⟨⟨v3, rfl, hown3⟩, hb3⟩
        obtain ⟨n3, hn3⟩ : ∃ n3, n3 = k - k := ⟨_, rfl⟩
        (try rw [show (0 : Nat) = n3 by omega] at hown3)
        (try rw [← hn3] at hown3)
        obtain ⟨A3, c3, rfl, -, -, -⟩ := own_slice hown3
        have hk5 := H3.out.1.below hb3 H3.out.1.lt
        have hO5 := H3.out.2.1.below hb3 H3.out.2.1.lt
        clear xc0 xc1 xc2 xc3 xc4 xc5 xc6 xc7 xz0 xz1 xz2 xz3 xz4 xz5 xz6 xz7 lS lO
        have xc0 : w3.cell? ⟨w.heap.size, 0, none⟩ = some (.int .i64 s.ses) := hk5.cell 0
        have xc1 : w3.cell? ⟨w.heap.size, 1, none⟩ = some (.int .i64 s.lim) := hk5.cell 1
        have xc2 : w3.cell? ⟨w.heap.size, 2, none⟩ = some (.int .i64 s.tmo) := hk5.cell 2
        have xc3 : w3.cell? ⟨w.heap.size, 3, none⟩ = some (.int .i64 (s.base + (k : Int))) := hk5.cell 3
        have xc4 : w3.cell? ⟨w.heap.size, 4, none⟩ = some (.int .i64 s.next) := hk5.cell 4
        have xc5 : w3.cell? ⟨w.heap.size, 5, none⟩ = some (.int .i64 s.cred) := hk5.cell 5
        have xc6 : w3.cell? ⟨w.heap.size, 6, none⟩ = some (.slice A2 k c2) := hk5.cell 6
        have xc7 : w3.cell? ⟨w.heap.size, 7, none⟩ = some (.slice Aq2 nq cq2) := hk5.cell 7
        have xz0 := hk5.frozen 0
        have xz1 := hk5.frozen 1
        have xz2 := hk5.frozen 2
        have xz3 := hk5.frozen 3
        have xz4 := hk5.frozen 4
        have xz5 := hk5.frozen 5
        have xz6 := hk5.frozen 6
        have xz7 := hk5.frozen 7
        have xd0 : w3.cell? ⟨w.heap.size + 1 + 1, 0, none⟩ = some (.int .i64 0) := hO5.cell 0
        have xd1 : w3.cell? ⟨w.heap.size + 1 + 1, 1, none⟩ = some (.int .i64 0) := hO5.cell 1
        have xd2 : w3.cell? ⟨w.heap.size + 1 + 1, 2, none⟩ = some (.int .i64 0) := hO5.cell 2
        have xd3 : w3.cell? ⟨w.heap.size + 1 + 1, 3, none⟩ = some (.int .i64 0) := hO5.cell 3
        have xd4 : w3.cell? ⟨w.heap.size + 1 + 1, 4, none⟩ = some (.int .i64 0) := hO5.cell 4
        have xd5 : w3.cell? ⟨w.heap.size + 1 + 1, 5, none⟩ = some (.int .i64 0) := hO5.cell 5
        have xd6 : w3.cell? ⟨w.heap.size + 1 + 1, 6, none⟩ = some (.slice none 0 0) := hO5.cell 6
        have xd7 : w3.cell? ⟨w.heap.size + 1 + 1, 7, none⟩ = some (.slice none 0 0) := hO5.cell 7
        have xy0 := hO5.frozen 0
        have xy1 := hO5.frozen 1
        have xy2 := hO5.frozen 2
        have xy3 := hO5.frozen 3
        have xy4 := hO5.frozen 4
        have xy5 := hO5.frozen 5
        have xy6 := hO5.frozen 6
        have xy7 := hO5.frozen 7
        have lS := hk5.lt
        have lO := hO5.lt
        have hLd : (L.drop k).length = n3 := by rw [List.length_drop, HTW.out.2.1, hn3]
        have hk6 : Blk ((w3.setCell ⟨w.heap.size, 6, none⟩ (.slice A3 n3 c3)).setCell ⟨w.heap.size, 5, none⟩ (.int .i64 cr)) (w.heap.size) 25 #[.int .i64 s.ses, .int .i64 s.lim, .int .i64 s.tmo, .int .i64 (s.base + (k : Int)), .int .i64 s.next, .int .i64 cr, .slice A3 n3 c3, .slice Aq2 nq cq2] := (hk5.set_ 6 (.slice A3 n3 c3)).set_ 5 (.int .i64 cr)
        have hT6 : Turn base [25] w3 ((w3.setCell ⟨w.heap.size, 6, none⟩ (.slice A3 n3 c3)).setCell ⟨w.heap.size, 5, none⟩ (.int .i64 cr)) := ((Turn.refl base [25] w3).set hk5 (by simp) hbw 6 (.slice A3 n3 c3)).set (hk5.set_ 6 (.slice A3 n3 c3)) (by simp) hbw 5 (.int .i64 cr)
        have hO6 := (hO5.far (p := ⟨w.heap.size, 6, none⟩) (by dsimp only; omega) (.slice A3 n3 c3)).far (p := ⟨w.heap.size, 5, none⟩) (by dsimp only; omega) (.int .i64 cr)
        have hw6 : Below w.heap.size w ((w3.setCell ⟨w.heap.size, 6, none⟩ (.slice A3 n3 c3)).setCell ⟨w.heap.size, 5, none⟩ (.int .i64 cr)) := ((H3.out.2.2.1.trans (hb3.mono H3.out.2.2.1.size)).setCell (p := ⟨w.heap.size, 6, none⟩) (Nat.le_refl _) _).setCell (p := ⟨w.heap.size, 5, none⟩) (Nat.le_refl _) _
        have hrow : Own1 encO OeR 82 5 w3 base V2.heap.size (.slice A3 n3 c3) (L.drop k) := ⟨by rw [hLd]; exact hown3, fun e he => (oeR_ab (T := []) (by simp)) _ _ _ _ (Turn.of_below hb3) (H3.out.2.2.2.1.el e (List.mem_of_mem_drop he))⟩
        have hrow6 := hrow.turn hT6 (by simp) (oeR_ab (by simp))
        have hq6 := (H3.out.2.2.2.2.up hb3 (qeR_ab (by simp))).turn hT6 (by simp) (qeR_ab (by simp))
        have hkF := set25_blk hO6 (.int .i64 s.ses) (.int .i64 s.lim) (.int .i64 s.tmo) (.int .i64 (s.base + (k : Int))) (.int .i64 s.next) (.int .i64 cr) (.slice A3 n3 c3) (.slice Aq2 nq cq2)
        have hTF := set25_turn hO6 (base := base) (by omega) (.int .i64 s.ses) (.int .i64 s.lim) (.int .i64 s.tmo) (.int .i64 (s.base + (k : Int))) (.int .i64 s.next) (.int .i64 cr) (.slice A3 n3 c3) (.slice Aq2 nq cq2)
        have hbF := set25_below hw6 (g := w.heap.size + 1 + 1) (by omega) (.int .i64 s.ses) (.int .i64 s.lim) (.int .i64 s.tmo) (.int .i64 (s.base + (k : Int))) (.int .i64 s.next) (.int .i64 cr) (.slice A3 n3 c3) (.slice Aq2 nq cq2)
        have HF3 := Lib.hid (And.intro hkF (And.intro hbF (And.intro (hrow6.turn hTF (by simp) (oeR_ab (by simp))) (And.intro (hq6.turn hTF (by simp) (qeR_ab (by simp))) hLd))))
        clear hk5 hO5 hk6 hT6 hO6 hw6 hrow hrow6 hq6 hkF hTF hbF hLd hown3 hb3 hn3
        go_wp2_with fail
        refine bodyPost_ret (results_cell_tmp (t := 25) rfl _ _ (w.heap.size + 1 + 1) _ _ rfl HF3.out.1 Try.underlying25 rfl (by kernel_rfl)) rfl ?_
        refine ⟨⟨_, _, rfl, ?_, by rw [HSM2.out], .inr (freshQ_own HF3.out.2.2.2.1.own (Nat.le_refl _))⟩, HF3.out.2.1⟩
        rw [HSM2.out, ← HTW.out.2.2.1, ← HCR.out, ← HTW.out.1, ← List.map_drop]
        exact ⟨_, _, rfl, ⟨L.drop k, HF3.out.2.2.1.vec, rfl⟩, ⟨qs, HF3.out.2.2.2.1.vec, HQ.out.2.2.2⟩⟩
      · rw [if_neg hneg] at htw
        subst htw
        have kwb : IntKind.i64.wrap (s.base + (F : Int)) = s.base + (F : Int) := by rw [IntWalk.i64_in _ (by omega)]
        have hk3 : Blk (w1.setCell ⟨w.heap.size, 3, none⟩ (.int .i64 (s.base + (F : Int)))) w.heap.size 25 #[.int .i64 s.ses, .int .i64 s.lim, .int .i64 s.tmo, .int .i64 (s.base + (F : Int)), .int .i64 s.next, .int .i64 s.cred, .slice A2 k c2, .slice Aq2 nq cq2] := HI1.out.bs.set_ 3 _
        have hT3 : Turn base [25] w1 (w1.setCell ⟨w.heap.size, 3, none⟩ (.int .i64 (s.base + (F : Int)))) := (Turn.refl base [25] w1).set HI1.out.bs (by simp) hbw 3 _
        have hO3 := HI1.out.bo.far (p := ⟨w.heap.size, 3, none⟩) (by dsimp only; omega) (.int .i64 (s.base + (F : Int)))
        have hb3 := HI1.out.bel.setCell (p := ⟨w.heap.size, 3, none⟩) (Nat.le_refl _) (.int .i64 (s.base + (F : Int)))
        have H3 := Lib.hid (And.intro hk3 (And.intro hO3 (And.intro hb3 (And.intro (HOWN1.out.turn hT3 (by simp) (oeR_ab (by simp))) (HI1.out.bq.turn hT3 (by simp) (qeR_ab (by simp)))))))
        clear hk3 hT3 hO3 hb3
        go_upto_region 20 with fail
        generalize (w1.setCell ⟨w.heap.size, 3, none⟩ (.int .i64 (s.base + (F : Int)))) = V2 at *
        clear xc0 xc1 xc2 xc3 xc4 xc5 xc6 xc7 xz0 xz1 xz2 xz3 xz4 xz5 xz6 xz7 lS kwb
        have xc0 : V2.cell? ⟨w.heap.size, 0, none⟩ = some (.int .i64 s.ses) := H3.out.1.cell 0
        have xc1 : V2.cell? ⟨w.heap.size, 1, none⟩ = some (.int .i64 s.lim) := H3.out.1.cell 1
        have xc2 : V2.cell? ⟨w.heap.size, 2, none⟩ = some (.int .i64 s.tmo) := H3.out.1.cell 2
        have xc3 : V2.cell? ⟨w.heap.size, 3, none⟩ = some (.int .i64 (s.base + (F : Int))) := H3.out.1.cell 3
        have xc4 : V2.cell? ⟨w.heap.size, 4, none⟩ = some (.int .i64 s.next) := H3.out.1.cell 4
        have xc5 : V2.cell? ⟨w.heap.size, 5, none⟩ = some (.int .i64 s.cred) := H3.out.1.cell 5
        have xc6 : V2.cell? ⟨w.heap.size, 6, none⟩ = some (.slice A2 k c2) := H3.out.1.cell 6
        have xc7 : V2.cell? ⟨w.heap.size, 7, none⟩ = some (.slice Aq2 nq cq2) := H3.out.1.cell 7
        have xz0 := H3.out.1.frozen 0
        have xz1 := H3.out.1.frozen 1
        have xz2 := H3.out.1.frozen 2
        have xz3 := H3.out.1.frozen 3
        have xz4 := H3.out.1.frozen 4
        have xz5 := H3.out.1.frozen 5
        have xz6 := H3.out.1.frozen 6
        have xz7 := H3.out.1.frozen 7
        have lS := H3.out.1.lt
        have lO := H3.out.2.1.lt
        have hcn : k ≤ c2 := by
          obtain ⟨A9, c9, h9, h10, -, -⟩ := own_slice H3.out.2.2.2.1.own
          injection h9 with _ h9 h11
          rw [h11, h9]
          exact h10
        have hcut := (Rd.of_own (base := base) (by have h := H3.out.2.2.2.1.own; rw [HTW.out.2.1] at h; exact h)).cut (k := F) (cap := c2) (by omega) hcn
        rw [drop_flat encO_len] at hcut
        have hcl : ∀ A' n' c', A' = (if c2 = F then A2 else A2.map (·.add (F * 5))) → n' = k - F → Calls Try.prog 64 #[.slice A' n' c'] V2 (fun e w' => (∃ v, e = .returned v ∧ w'.ownsRow V2.heap.size 82 5 v n' ((L.drop F).flatMap encO)) ∧ Below V2.heap.size V2 w') := by
          intro A' n' c' h h'
          subst h
          subst h'
          exact CloneO_any _ _ _ _ V2 hcut.rd (by omega) (flat_one encO_one _)
        have HCL := Lib.hid hcl
        obtain ⟨cr, hcr⟩ : ∃ x, x = max (gr - (s.base + (F : Int))) 0 := ⟨_, rfl⟩
        have hmax2 := max_run _ _ _ hcr
        have kwg : IntKind.i64.wrap (gr - (s.base + (F : Int))) = gr - (s.base + (F : Int)) := by rw [IntWalk.i64_in _ (by omega)]
        have HCR := Lib.hid hcr
        clear hcl hcut hcr
        by_cases hcc : c2 = F
        · go_wp2_with fail
          refine (HCL.out _ _ _ (by first | rw [if_pos hcc] | rw [if_neg hcc] | simp) (by omega)).mono ?_
          rintro e w3 ⟨⟨v3, rfl, hown3⟩, hb3⟩
          obtain ⟨n3, hn3⟩ : ∃ n3, n3 = k - F := ⟨_, rfl⟩
          (try rw [show (0 : Nat) = n3 by omega] at hown3)
          (try rw [← hn3] at hown3)
          obtain ⟨A3, c3, rfl, -, -, -⟩ := own_slice hown3
          have hk5 := H3.out.1.below hb3 H3.out.1.lt
          have hO5 := H3.out.2.1.below hb3 H3.out.2.1.lt
          clear xc0 xc1 xc2 xc3 xc4 xc5 xc6 xc7 xz0 xz1 xz2 xz3 xz4 xz5 xz6 xz7 lS lO
          have xc0 : w3.cell? ⟨w.heap.size, 0, none⟩ = some (.int .i64 s.ses) := hk5.cell 0
          have xc1 : w3.cell? ⟨w.heap.size, 1, none⟩ = some (.int .i64 s.lim) := hk5.cell 1
          have xc2 : w3.cell? ⟨w.heap.size, 2, none⟩ = some (.int .i64 s.tmo) := hk5.cell 2
          have xc3 : w3.cell? ⟨w.heap.size, 3, none⟩ = some (.int .i64 (s.base + (F : Int))) := hk5.cell 3
          have xc4 : w3.cell? ⟨w.heap.size, 4, none⟩ = some (.int .i64 s.next) := hk5.cell 4
          have xc5 : w3.cell? ⟨w.heap.size, 5, none⟩ = some (.int .i64 s.cred) := hk5.cell 5
          have xc6 : w3.cell? ⟨w.heap.size, 6, none⟩ = some (.slice A2 k c2) := hk5.cell 6
          have xc7 : w3.cell? ⟨w.heap.size, 7, none⟩ = some (.slice Aq2 nq cq2) := hk5.cell 7
          have xz0 := hk5.frozen 0
          have xz1 := hk5.frozen 1
          have xz2 := hk5.frozen 2
          have xz3 := hk5.frozen 3
          have xz4 := hk5.frozen 4
          have xz5 := hk5.frozen 5
          have xz6 := hk5.frozen 6
          have xz7 := hk5.frozen 7
          have xd0 : w3.cell? ⟨w.heap.size + 1 + 1, 0, none⟩ = some (.int .i64 0) := hO5.cell 0
          have xd1 : w3.cell? ⟨w.heap.size + 1 + 1, 1, none⟩ = some (.int .i64 0) := hO5.cell 1
          have xd2 : w3.cell? ⟨w.heap.size + 1 + 1, 2, none⟩ = some (.int .i64 0) := hO5.cell 2
          have xd3 : w3.cell? ⟨w.heap.size + 1 + 1, 3, none⟩ = some (.int .i64 0) := hO5.cell 3
          have xd4 : w3.cell? ⟨w.heap.size + 1 + 1, 4, none⟩ = some (.int .i64 0) := hO5.cell 4
          have xd5 : w3.cell? ⟨w.heap.size + 1 + 1, 5, none⟩ = some (.int .i64 0) := hO5.cell 5
          have xd6 : w3.cell? ⟨w.heap.size + 1 + 1, 6, none⟩ = some (.slice none 0 0) := hO5.cell 6
          have xd7 : w3.cell? ⟨w.heap.size + 1 + 1, 7, none⟩ = some (.slice none 0 0) := hO5.cell 7
          have xy0 := hO5.frozen 0
          have xy1 := hO5.frozen 1
          have xy2 := hO5.frozen 2
          have xy3 := hO5.frozen 3
          have xy4 := hO5.frozen 4
          have xy5 := hO5.frozen 5
          have xy6 := hO5.frozen 6
          have xy7 := hO5.frozen 7
          have lS := hk5.lt
          have lO := hO5.lt
          have hLd : (L.drop F).length = n3 := by rw [List.length_drop, HTW.out.2.1, hn3]
          have hk6 : Blk ((w3.setCell ⟨w.heap.size, 6, none⟩ (.slice A3 n3 c3)).setCell ⟨w.heap.size, 5, none⟩ (.int .i64 cr)) (w.heap.size) 25 #[.int .i64 s.ses, .int .i64 s.lim, .int .i64 s.tmo, .int .i64 (s.base + (F : Int)), .int .i64 s.next, .int .i64 cr, .slice A3 n3 c3, .slice Aq2 nq cq2] := (hk5.set_ 6 (.slice A3 n3 c3)).set_ 5 (.int .i64 cr)
          have hT6 : Turn base [25] w3 ((w3.setCell ⟨w.heap.size, 6, none⟩ (.slice A3 n3 c3)).setCell ⟨w.heap.size, 5, none⟩ (.int .i64 cr)) := ((Turn.refl base [25] w3).set hk5 (by simp) hbw 6 (.slice A3 n3 c3)).set (hk5.set_ 6 (.slice A3 n3 c3)) (by simp) hbw 5 (.int .i64 cr)
          have hO6 := (hO5.far (p := ⟨w.heap.size, 6, none⟩) (by dsimp only; omega) (.slice A3 n3 c3)).far (p := ⟨w.heap.size, 5, none⟩) (by dsimp only; omega) (.int .i64 cr)
          have hw6 : Below w.heap.size w ((w3.setCell ⟨w.heap.size, 6, none⟩ (.slice A3 n3 c3)).setCell ⟨w.heap.size, 5, none⟩ (.int .i64 cr)) := ((H3.out.2.2.1.trans (hb3.mono H3.out.2.2.1.size)).setCell (p := ⟨w.heap.size, 6, none⟩) (Nat.le_refl _) _).setCell (p := ⟨w.heap.size, 5, none⟩) (Nat.le_refl _) _
          have hrow : Own1 encO OeR 82 5 w3 base V2.heap.size (.slice A3 n3 c3) (L.drop F) := ⟨by rw [hLd]; exact hown3, fun e he => (oeR_ab (T := []) (by simp)) _ _ _ _ (Turn.of_below hb3) (H3.out.2.2.2.1.el e (List.mem_of_mem_drop he))⟩
          have hrow6 := hrow.turn hT6 (by simp) (oeR_ab (by simp))
          have hq6 := (H3.out.2.2.2.2.up hb3 (qeR_ab (by simp))).turn hT6 (by simp) (qeR_ab (by simp))
          have hkF := set25_blk hO6 (.int .i64 s.ses) (.int .i64 s.lim) (.int .i64 s.tmo) (.int .i64 (s.base + (F : Int))) (.int .i64 s.next) (.int .i64 cr) (.slice A3 n3 c3) (.slice Aq2 nq cq2)
          have hTF := set25_turn hO6 (base := base) (by omega) (.int .i64 s.ses) (.int .i64 s.lim) (.int .i64 s.tmo) (.int .i64 (s.base + (F : Int))) (.int .i64 s.next) (.int .i64 cr) (.slice A3 n3 c3) (.slice Aq2 nq cq2)
          have hbF := set25_below hw6 (g := w.heap.size + 1 + 1) (by omega) (.int .i64 s.ses) (.int .i64 s.lim) (.int .i64 s.tmo) (.int .i64 (s.base + (F : Int))) (.int .i64 s.next) (.int .i64 cr) (.slice A3 n3 c3) (.slice Aq2 nq cq2)
          have HF3 := Lib.hid (And.intro hkF (And.intro hbF (And.intro (hrow6.turn hTF (by simp) (oeR_ab (by simp))) (And.intro (hq6.turn hTF (by simp) (qeR_ab (by simp))) hLd))))
          clear hk5 hO5 hk6 hT6 hO6 hw6 hrow hrow6 hq6 hkF hTF hbF hLd hown3 hb3 hn3
          go_wp2_with fail
          refine bodyPost_ret (results_cell_tmp (t := 25) rfl _ _ (w.heap.size + 1 + 1) _ _ rfl HF3.out.1 Try.underlying25 rfl (by kernel_rfl)) rfl ?_
          refine ⟨⟨_, _, rfl, ?_, by rw [HSM2.out], .inr (freshQ_own HF3.out.2.2.2.1.own (Nat.le_refl _))⟩, HF3.out.2.1⟩
          rw [HSM2.out, ← HTW.out.2.2.1, ← HCR.out, ← HTW.out.1, ← List.map_drop]
          exact ⟨_, _, rfl, ⟨L.drop F, HF3.out.2.2.1.vec, rfl⟩, ⟨qs, HF3.out.2.2.2.1.vec, HQ.out.2.2.2⟩⟩
        go_wp2_with fail
        refine (HCL.out _ _ _ (by first | rw [if_pos hcc] | rw [if_neg hcc] | simp) (by omega)).mono ?_
        rintro e w3 ⟨⟨v3, rfl, hown3⟩, hb3⟩
        obtain ⟨n3, hn3⟩ : ∃ n3, n3 = k - F := ⟨_, rfl⟩
        (try rw [show (0 : Nat) = n3 by omega] at hown3)
        (try rw [← hn3] at hown3)
        obtain ⟨A3, c3, rfl, -, -, -⟩ := own_slice hown3
        have hk5 := H3.out.1.below hb3 H3.out.1.lt
        have hO5 := H3.out.2.1.below hb3 H3.out.2.1.lt
        clear xc0 xc1 xc2 xc3 xc4 xc5 xc6 xc7 xz0 xz1 xz2 xz3 xz4 xz5 xz6 xz7 lS lO
        have xc0 : w3.cell? ⟨w.heap.size, 0, none⟩ = some (.int .i64 s.ses) := hk5.cell 0
        have xc1 : w3.cell? ⟨w.heap.size, 1, none⟩ = some (.int .i64 s.lim) := hk5.cell 1
        have xc2 : w3.cell? ⟨w.heap.size, 2, none⟩ = some (.int .i64 s.tmo) := hk5.cell 2
        have xc3 : w3.cell? ⟨w.heap.size, 3, none⟩ = some (.int .i64 (s.base + (F : Int))) := hk5.cell 3
        have xc4 : w3.cell? ⟨w.heap.size, 4, none⟩ = some (.int .i64 s.next) := hk5.cell 4
        have xc5 : w3.cell? ⟨w.heap.size, 5, none⟩ = some (.int .i64 s.cred) := hk5.cell 5
        have xc6 : w3.cell? ⟨w.heap.size, 6, none⟩ = some (.slice A2 k c2) := hk5.cell 6
        have xc7 : w3.cell? ⟨w.heap.size, 7, none⟩ = some (.slice Aq2 nq cq2) := hk5.cell 7
        have xz0 := hk5.frozen 0
        have xz1 := hk5.frozen 1
        have xz2 := hk5.frozen 2
        have xz3 := hk5.frozen 3
        have xz4 := hk5.frozen 4
        have xz5 := hk5.frozen 5
        have xz6 := hk5.frozen 6
        have xz7 := hk5.frozen 7
        have xd0 : w3.cell? ⟨w.heap.size + 1 + 1, 0, none⟩ = some (.int .i64 0) := hO5.cell 0
        have xd1 : w3.cell? ⟨w.heap.size + 1 + 1, 1, none⟩ = some (.int .i64 0) := hO5.cell 1
        have xd2 : w3.cell? ⟨w.heap.size + 1 + 1, 2, none⟩ = some (.int .i64 0) := hO5.cell 2
        have xd3 : w3.cell? ⟨w.heap.size + 1 + 1, 3, none⟩ = some (.int .i64 0) := hO5.cell 3
        have xd4 : w3.cell? ⟨w.heap.size + 1 + 1, 4, none⟩ = some (.int .i64 0) := hO5.cell 4
        have xd5 : w3.cell? ⟨w.heap.size + 1 + 1, 5, none⟩ = some (.int .i64 0) := hO5.cell 5
        have xd6 : w3.cell? ⟨w.heap.size + 1 + 1, 6, none⟩ = some (.slice none 0 0) := hO5.cell 6
        have xd7 : w3.cell? ⟨w.heap.size + 1 + 1, 7, none⟩ = some (.slice none 0 0) := hO5.cell 7
        have xy0 := hO5.frozen 0
        have xy1 := hO5.frozen 1
        have xy2 := hO5.frozen 2
        have xy3 := hO5.frozen 3
        have xy4 := hO5.frozen 4
        have xy5 := hO5.frozen 5
        have xy6 := hO5.frozen 6
        have xy7 := hO5.frozen 7
        have lS := hk5.lt
        have lO := hO5.lt
        have hLd : (L.drop F).length = n3 := by rw [List.length_drop, HTW.out.2.1, hn3]
        have hk6 : Blk ((w3.setCell ⟨w.heap.size, 6, none⟩ (.slice A3 n3 c3)).setCell ⟨w.heap.size, 5, none⟩ (.int .i64 cr)) (w.heap.size) 25 #[.int .i64 s.ses, .int .i64 s.lim, .int .i64 s.tmo, .int .i64 (s.base + (F : Int)), .int .i64 s.next, .int .i64 cr, .slice A3 n3 c3, .slice Aq2 nq cq2] := (hk5.set_ 6 (.slice A3 n3 c3)).set_ 5 (.int .i64 cr)
        have hT6 : Turn base [25] w3 ((w3.setCell ⟨w.heap.size, 6, none⟩ (.slice A3 n3 c3)).setCell ⟨w.heap.size, 5, none⟩ (.int .i64 cr)) := ((Turn.refl base [25] w3).set hk5 (by simp) hbw 6 (.slice A3 n3 c3)).set (hk5.set_ 6 (.slice A3 n3 c3)) (by simp) hbw 5 (.int .i64 cr)
        have hO6 := (hO5.far (p := ⟨w.heap.size, 6, none⟩) (by dsimp only; omega) (.slice A3 n3 c3)).far (p := ⟨w.heap.size, 5, none⟩) (by dsimp only; omega) (.int .i64 cr)
        have hw6 : Below w.heap.size w ((w3.setCell ⟨w.heap.size, 6, none⟩ (.slice A3 n3 c3)).setCell ⟨w.heap.size, 5, none⟩ (.int .i64 cr)) := ((H3.out.2.2.1.trans (hb3.mono H3.out.2.2.1.size)).setCell (p := ⟨w.heap.size, 6, none⟩) (Nat.le_refl _) _).setCell (p := ⟨w.heap.size, 5, none⟩) (Nat.le_refl _) _
        have hrow : Own1 encO OeR 82 5 w3 base V2.heap.size (.slice A3 n3 c3) (L.drop F) := ⟨by rw [hLd]; exact hown3, fun e he => (oeR_ab (T := []) (by simp)) _ _ _ _ (Turn.of_below hb3) (H3.out.2.2.2.1.el e (List.mem_of_mem_drop he))⟩
        have hrow6 := hrow.turn hT6 (by simp) (oeR_ab (by simp))
        have hq6 := (H3.out.2.2.2.2.up hb3 (qeR_ab (by simp))).turn hT6 (by simp) (qeR_ab (by simp))
        have hkF := set25_blk hO6 (.int .i64 s.ses) (.int .i64 s.lim) (.int .i64 s.tmo) (.int .i64 (s.base + (F : Int))) (.int .i64 s.next) (.int .i64 cr) (.slice A3 n3 c3) (.slice Aq2 nq cq2)
        have hTF := set25_turn hO6 (base := base) (by omega) (.int .i64 s.ses) (.int .i64 s.lim) (.int .i64 s.tmo) (.int .i64 (s.base + (F : Int))) (.int .i64 s.next) (.int .i64 cr) (.slice A3 n3 c3) (.slice Aq2 nq cq2)
        have hbF := set25_below hw6 (g := w.heap.size + 1 + 1) (by omega) (.int .i64 s.ses) (.int .i64 s.lim) (.int .i64 s.tmo) (.int .i64 (s.base + (F : Int))) (.int .i64 s.next) (.int .i64 cr) (.slice A3 n3 c3) (.slice Aq2 nq cq2)
        have HF3 := Lib.hid (And.intro hkF (And.intro hbF (And.intro (hrow6.turn hTF (by simp) (oeR_ab (by simp))) (And.intro (hq6.turn hTF (by simp) (qeR_ab (by simp))) hLd))))
        clear hk5 hO5 hk6 hT6 hO6 hw6 hrow hrow6 hq6 hkF hTF hbF hLd hown3 hb3 hn3
        go_wp2_with fail
        refine bodyPost_ret (results_cell_tmp (t := 25) rfl _ _ (w.heap.size + 1 + 1) _ _ rfl HF3.out.1 Try.underlying25 rfl (by kernel_rfl)) rfl ?_
        refine ⟨⟨_, _, rfl, ?_, by rw [HSM2.out], .inr (freshQ_own HF3.out.2.2.2.1.own (Nat.le_refl _))⟩, HF3.out.2.1⟩
        rw [HSM2.out, ← HTW.out.2.2.1, ← HCR.out, ← HTW.out.1, ← List.map_drop]
        exact ⟨_, _, rfl, ⟨L.drop F, HF3.out.2.2.1.vec, rfl⟩, ⟨qs, HF3.out.2.2.2.1.vec, HQ.out.2.2.2⟩⟩
end Go.Proofs.Ytanmndhdhlmjgaa.Fr
namespace Go.Proofs.Ytanmndhdhlmjgaa
open Go.RowKit
theorem Ack_any (s : Sm) (now : Int) (p : Pm) (v pv : Value) (base : Nat) (w : World) (hv : SnV w base s v) (hs : Small s) (hp : PkV w base p pv) (hsp : SmallP p) (hbw : base ≤ w.heap.size) :
    Calls Try.prog 29 #[v, .int .i64 now, pv] w (AckR w base s now p) := (Fr.Ack_any s now p v pv base w hv hs hp hsp hbw).mono fun e w' h =>
  ⟨by obtain ⟨sv, n, h1, h2, h3, -⟩ := h.ret; exact ⟨sv, n, h1, h2, h3⟩, h.bel⟩
end Go.Proofs.Ytanmndhdhlmjgaa
