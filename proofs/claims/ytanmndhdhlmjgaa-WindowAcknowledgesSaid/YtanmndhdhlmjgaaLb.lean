/- The walk of the law WindowAcknowledges. No condition. -/
import Derived.Test.YtanmndhdhlmjgaaYf
import Derived.Test.YtanmndhdhlmjgaaXh
import Derived.Test.YtanmndhdhlmjgaaArgsB
import Derived.Test.YtanmndhdhlmjgaaWz
namespace Go.Proofs.Ytanmndhdhlmjgaa
open Go.RowKit
theorem ackS_small {s : Sm} {now : Int} {p : Pm} (h : Small s) : Small (ackS s now p).1 := by
  unfold ackS
  split
  · exact h
  · have h1 := h.out
    exact ⟨by simp only [List.length_drop, List.length_map]; omega, h.q⟩
set_option maxRecDepth 100000 in
set_option maxHeartbeats 2000000 in
set_option linter.unusedSimpArgs false in
theorem walkWindowAcknowledges (w : World) (v0 v1 v2 : Value) (h0 : Arg25 w v0) (h1 : Arg3 w v1) (h2 : Arg55 w v2) : Calls Try.prog 5 #[v0, v1, v2] w fun e w' => e = .returned (.bool true) ∧ Below w.heap.size w w' := by
  obtain ⟨s, hv⟩ := h0
  obtain ⟨now, rfl, -, -⟩ := h1
  obtain ⟨p, hp⟩ := h2
  have HV := Lib.hid hv
  have HP := Lib.hid hp
  obtain ⟨vo, vq, rfl, hO, hQ⟩ := hv
  obtain ⟨Ao, co, rfl, -, -⟩ := hO.form
  obtain ⟨Aq, cq, rfl, -, -⟩ := hQ.form
  obtain ⟨vs, vp, rfl, hX, Ap, cp, rfl, hB⟩ := hp
  obtain ⟨As, cs, rfl, -, -⟩ := hX.form
  clear hX hB hO hQ
  obtain ⟨no, hno⟩ : ∃ n, s.out.length = n := ⟨_, rfl⟩
  obtain ⟨nq, hnq⟩ : ∃ n, s.q.length = n := ⟨_, rfl⟩
  obtain ⟨ns, hns⟩ : ∃ n, p.sel.length = n := ⟨_, rfl⟩
  obtain ⟨np, hnp⟩ : ∃ n, p.p.length = n := ⟨_, rfl⟩
  rw [hno, hnq] at HV ⊢
  rw [hns, hnp] at HP ⊢
  have HL := Lib.hid (And.intro hno (And.intro hnq (And.intro hns hnp)))
  clear hno hnq hns hnp
  unfold snC at HV ⊢
  unfold pkC at HP ⊢
  have HW : Hid (Blk ((w.alloc (.cells #[.int .i64 s.ses, .int .i64 s.lim, .int .i64 s.tmo, .int .i64 s.base, .int .i64 s.next, .int .i64 s.cred, .slice Ao no co, .slice Aq nq cq] 25)).alloc (.cells #[.int .i64 p.kind, .int .i64 p.ses, .int .i64 p.seq, .int .i64 p.ack, .int .i64 p.cred, .slice As ns cs, .slice Ap np cp] 55)) (w.heap.size) 25 #[.int .i64 s.ses, .int .i64 s.lim, .int .i64 s.tmo, .int .i64 s.base, .int .i64 s.next, .int .i64 s.cred, .slice Ao no co, .slice Aq nq cq] ∧ Blk ((w.alloc (.cells #[.int .i64 s.ses, .int .i64 s.lim, .int .i64 s.tmo, .int .i64 s.base, .int .i64 s.next, .int .i64 s.cred, .slice Ao no co, .slice Aq nq cq] 25)).alloc (.cells #[.int .i64 p.kind, .int .i64 p.ses, .int .i64 p.seq, .int .i64 p.ack, .int .i64 p.cred, .slice As ns cs, .slice Ap np cp] 55)) (w.heap.size + 1) 55 #[.int .i64 p.kind, .int .i64 p.ses, .int .i64 p.seq, .int .i64 p.ack, .int .i64 p.cred, .slice As ns cs, .slice Ap np cp] ∧ Below w.heap.size w ((w.alloc (.cells #[.int .i64 s.ses, .int .i64 s.lim, .int .i64 s.tmo, .int .i64 s.base, .int .i64 s.next, .int .i64 s.cred, .slice Ao no co, .slice Aq nq cq] 25)).alloc (.cells #[.int .i64 p.kind, .int .i64 p.ses, .int .i64 p.seq, .int .i64 p.ack, .int .i64 p.cred, .slice As ns cs, .slice Ap np cp] 55))) := by
    have h1 := (Blk.new w 25 #[.int .i64 s.ses, .int .i64 s.lim, .int .i64 s.tmo, .int .i64 s.base, .int .i64 s.next, .int .i64 s.cred, .slice Ao no co, .slice Aq nq cq]).alloc (.cells #[.int .i64 p.kind, .int .i64 p.ses, .int .i64 p.seq, .int .i64 p.ack, .int .i64 p.cred, .slice As ns cs, .slice Ap np cp] 55)
    have h2 := Blk.new (w.alloc (.cells #[.int .i64 s.ses, .int .i64 s.lim, .int .i64 s.tmo, .int .i64 s.base, .int .i64 s.next, .int .i64 s.cred, .slice Ao no co, .slice Aq nq cq] 25)) 55 #[.int .i64 p.kind, .int .i64 p.ses, .int .i64 p.seq, .int .i64 p.ack, .int .i64 p.cred, .slice As ns cs, .slice Ap np cp]
    rw [World.size_alloc] at h2
    exact ⟨h1, h2, ((Below.refl _ w).alloc (Nat.le_refl _) _).alloc (by simp) _⟩
  have HC := Lib.hid (FewSender_any s _ w.heap.size ((w.alloc (.cells #[.int .i64 s.ses, .int .i64 s.lim, .int .i64 s.tmo, .int .i64 s.base, .int .i64 s.next, .int .i64 s.cred, .slice Ao no co, .slice Aq nq cq] 25)).alloc (.cells #[.int .i64 p.kind, .int .i64 p.ses, .int .i64 p.seq, .int .i64 p.ack, .int .i64 p.cred, .slice As ns cs, .slice Ap np cp] 55)) (HV.out.up HW.out.2.2))
  go_enter Try.func5, Try.ntmps5
  go_wp2_with fail
  generalize ((w.alloc (.cells #[.int .i64 s.ses, .int .i64 s.lim, .int .i64 s.tmo, .int .i64 s.base, .int .i64 s.next, .int .i64 s.cred, .slice Ao no co, .slice Aq nq cq] 25)).alloc (.cells #[.int .i64 p.kind, .int .i64 p.ses, .int .i64 p.seq, .int .i64 p.ack, .int .i64 p.cred, .slice As ns cs, .slice Ap np cp] 55)) = W at *
  refine HC.out.mono ?_
  clear HC
  rintro e w1 ⟨⟨b1, rfl, hfs⟩, hb⟩
  have HFS := Lib.hid hfs
  clear hfs
  have HW1 := Lib.hid (And.intro (HW.out.1.below hb HW.out.1.lt) (And.intro (HW.out.2.1.below hb HW.out.2.1.lt) (HW.out.2.2.trans (hb.mono HW.out.2.2.size))))
  clear hb
  have xc0 : w1.cell? ⟨w.heap.size, 0, none⟩ = some (.int .i64 s.ses) := HW1.out.1.cell 0
  have xc1 : w1.cell? ⟨w.heap.size, 1, none⟩ = some (.int .i64 s.lim) := HW1.out.1.cell 1
  have xc2 : w1.cell? ⟨w.heap.size, 2, none⟩ = some (.int .i64 s.tmo) := HW1.out.1.cell 2
  have xc3 : w1.cell? ⟨w.heap.size, 3, none⟩ = some (.int .i64 s.base) := HW1.out.1.cell 3
  have xc4 : w1.cell? ⟨w.heap.size, 4, none⟩ = some (.int .i64 s.next) := HW1.out.1.cell 4
  have xc5 : w1.cell? ⟨w.heap.size, 5, none⟩ = some (.int .i64 s.cred) := HW1.out.1.cell 5
  have xc6 : w1.cell? ⟨w.heap.size, 6, none⟩ = some (.slice Ao no co) := HW1.out.1.cell 6
  have xc7 : w1.cell? ⟨w.heap.size, 7, none⟩ = some (.slice Aq nq cq) := HW1.out.1.cell 7
  have xk0 : w1.cell? ⟨w.heap.size + 1, 0, none⟩ = some (.int .i64 p.kind) := HW1.out.2.1.cell 0
  have xk1 : w1.cell? ⟨w.heap.size + 1, 1, none⟩ = some (.int .i64 p.ses) := HW1.out.2.1.cell 1
  have xk2 : w1.cell? ⟨w.heap.size + 1, 2, none⟩ = some (.int .i64 p.seq) := HW1.out.2.1.cell 2
  have xk3 : w1.cell? ⟨w.heap.size + 1, 3, none⟩ = some (.int .i64 p.ack) := HW1.out.2.1.cell 3
  have xk4 : w1.cell? ⟨w.heap.size + 1, 4, none⟩ = some (.int .i64 p.cred) := HW1.out.2.1.cell 4
  have xk5 : w1.cell? ⟨w.heap.size + 1, 5, none⟩ = some (.slice As ns cs) := HW1.out.2.1.cell 5
  have xk6 : w1.cell? ⟨w.heap.size + 1, 6, none⟩ = some (.slice Ap np cp) := HW1.out.2.1.cell 6
  have lS := HW1.out.1.lt
  have lK := HW1.out.2.1.lt
  cases b1 with
  | false =>
    go_wp2_with fail
    refine (awake_any w1).mono ?_
    rintro e y3 ⟨rfl, hb⟩
    have HW9 := Lib.hid (HW1.out.2.2.trans (hb.mono HW1.out.2.2.size))
    clear hb
    go_wp2_with fail
    go_ret
    exact ⟨rfl, HW9.out⟩
  | true =>
  have HC := Lib.hid (FewPacket_any p _ w.heap.size w1 (HP.out.up HW1.out.2.2))
  go_wp2_with fail
  refine HC.out.mono ?_
  clear HC
  rintro e w2 ⟨⟨b2, rfl, hfp⟩, hb⟩
  clear xc0 xc1 xc2 xc3 xc4 xc5 xc6 xc7 xk0 xk1 xk2 xk3 xk4 xk5 xk6 lS lK
  have HFP := Lib.hid hfp
  clear hfp
  have HW2 := Lib.hid (And.intro (HW1.out.1.below hb HW1.out.1.lt) (And.intro (HW1.out.2.1.below hb HW1.out.2.1.lt) (HW1.out.2.2.trans (hb.mono HW1.out.2.2.size))))
  clear hb
  have xc0 : w2.cell? ⟨w.heap.size, 0, none⟩ = some (.int .i64 s.ses) := HW2.out.1.cell 0
  have xc1 : w2.cell? ⟨w.heap.size, 1, none⟩ = some (.int .i64 s.lim) := HW2.out.1.cell 1
  have xc2 : w2.cell? ⟨w.heap.size, 2, none⟩ = some (.int .i64 s.tmo) := HW2.out.1.cell 2
  have xc3 : w2.cell? ⟨w.heap.size, 3, none⟩ = some (.int .i64 s.base) := HW2.out.1.cell 3
  have xc4 : w2.cell? ⟨w.heap.size, 4, none⟩ = some (.int .i64 s.next) := HW2.out.1.cell 4
  have xc5 : w2.cell? ⟨w.heap.size, 5, none⟩ = some (.int .i64 s.cred) := HW2.out.1.cell 5
  have xc6 : w2.cell? ⟨w.heap.size, 6, none⟩ = some (.slice Ao no co) := HW2.out.1.cell 6
  have xc7 : w2.cell? ⟨w.heap.size, 7, none⟩ = some (.slice Aq nq cq) := HW2.out.1.cell 7
  have xk0 : w2.cell? ⟨w.heap.size + 1, 0, none⟩ = some (.int .i64 p.kind) := HW2.out.2.1.cell 0
  have xk1 : w2.cell? ⟨w.heap.size + 1, 1, none⟩ = some (.int .i64 p.ses) := HW2.out.2.1.cell 1
  have xk2 : w2.cell? ⟨w.heap.size + 1, 2, none⟩ = some (.int .i64 p.seq) := HW2.out.2.1.cell 2
  have xk3 : w2.cell? ⟨w.heap.size + 1, 3, none⟩ = some (.int .i64 p.ack) := HW2.out.2.1.cell 3
  have xk4 : w2.cell? ⟨w.heap.size + 1, 4, none⟩ = some (.int .i64 p.cred) := HW2.out.2.1.cell 4
  have xk5 : w2.cell? ⟨w.heap.size + 1, 5, none⟩ = some (.slice As ns cs) := HW2.out.2.1.cell 5
  have xk6 : w2.cell? ⟨w.heap.size + 1, 6, none⟩ = some (.slice Ap np cp) := HW2.out.2.1.cell 6
  have lS := HW2.out.1.lt
  have lK := HW2.out.2.1.lt
  cases b2 with
  | false =>
    go_wp2_with fail
    refine (awake_any w2).mono ?_
    rintro e y3 ⟨rfl, hb⟩
    have HW9 := Lib.hid (HW2.out.2.2.trans (hb.mono HW2.out.2.2.size))
    clear hb
    go_wp2_with fail
    go_ret
    exact ⟨rfl, HW9.out⟩
  | true =>
  have HSM : Hid (Small s ∧ SmallP p) := ⟨⟨by have := (HFS.out (by simp)).1; omega, by have := (HFS.out (by simp)).2; omega⟩, ⟨by have := (HFP.out (by simp)).2; omega, by have := (HFP.out (by simp)).1; omega⟩⟩
  obtain ⟨⟨t, sm⟩, ht⟩ : ∃ q, ackS s now p = q := ⟨_, rfl⟩
  have hts : Small t := by have h := ackS_small (now := now) (p := p) HSM.out.1; rw [ht] at h; exact h
  have HT := Lib.hid (And.intro ht hts)
  clear ht hts
  obtain ⟨tn, hto⟩ : ∃ n, t.out.length = n := ⟨_, rfl⟩
  obtain ⟨tq, htq⟩ : ∃ n, t.q.length = n := ⟨_, rfl⟩
  have HTL := Lib.hid (And.intro hto htq)
  clear hto htq
  have HC := Lib.hid (Ack_any s now p _ _ w.heap.size w2 (HV.out.up HW2.out.2.2) HSM.out.1 (HP.out.up HW2.out.2.2) HSM.out.2 HW2.out.2.2.size)
  go_wp2_with fail
  refine HC.out.mono ?_
  clear HC
  rintro e u1 ⟨⟨sv, n1, rfl, hsv, hn⟩, hb⟩
  rw [HT.out.1] at hsv hn
  obtain rfl : sm = n1 := hn.symm
  clear hn
  clear xc0 xc1 xc2 xc3 xc4 xc5 xc6 xc7 xk0 xk1 xk2 xk3 xk4 xk5 xk6 lS lK
  obtain ⟨vo, vq, rfl, hO, hQ⟩ := hsv
  obtain ⟨Ao1, co1, rfl, -, -⟩ := hO.form
  obtain ⟨Aq1, cq1, rfl, -, -⟩ := hQ.form
  rw [HTL.out.1] at hO ⊢
  rw [HTL.out.2] at hQ ⊢
  unfold snC
  have hbx : Below u1.heap.size u1 (u1.alloc (.cells #[.int .i64 t.ses, .int .i64 t.lim, .int .i64 t.tmo, .int .i64 t.base, .int .i64 t.next, .int .i64 t.cred, .slice Ao1 tn co1, .slice Aq1 tq cq1] 25)) := (Below.refl _ _).alloc (Nat.le_refl _) _
  have hkx := Blk.new u1 25 #[.int .i64 t.ses, .int .i64 t.lim, .int .i64 t.tmo, .int .i64 t.base, .int .i64 t.next, .int .i64 t.cred, .slice Ao1 tn co1, .slice Aq1 tq cq1]
  have hbb := hb.trans (hbx.mono hb.size)
  have G1 := Lib.hid (And.intro hkx (And.intro (hO.up hbx) (hQ.up hbx)))
  have HV1 := Lib.hid (And.intro (HW2.out.1.below hbb HW2.out.1.lt) (And.intro (HW2.out.2.1.below hbb HW2.out.2.1.lt) (HW2.out.2.2.trans (hbb.mono HW2.out.2.2.size))))
  clear hbx hkx hbb hO hQ hb HW2
  go_upto_region 4 with fail
  obtain ⟨B1, hB1⟩ : ∃ x, x = u1.heap.size := ⟨_, rfl⟩
  rw [← hB1] at G1 ⊢
  clear hB1
  generalize (u1.alloc (.cells #[.int .i64 t.ses, .int .i64 t.lim, .int .i64 t.tmo, .int .i64 t.base, .int .i64 t.next, .int .i64 t.cred, .slice Ao1 tn co1, .slice Aq1 tq cq1] 25)) = V1 at *
  have xc0 : V1.cell? ⟨w.heap.size, 0, none⟩ = some (.int .i64 s.ses) := HV1.out.1.cell 0
  have xc1 : V1.cell? ⟨w.heap.size, 1, none⟩ = some (.int .i64 s.lim) := HV1.out.1.cell 1
  have xc2 : V1.cell? ⟨w.heap.size, 2, none⟩ = some (.int .i64 s.tmo) := HV1.out.1.cell 2
  have xc3 : V1.cell? ⟨w.heap.size, 3, none⟩ = some (.int .i64 s.base) := HV1.out.1.cell 3
  have xc4 : V1.cell? ⟨w.heap.size, 4, none⟩ = some (.int .i64 s.next) := HV1.out.1.cell 4
  have xc5 : V1.cell? ⟨w.heap.size, 5, none⟩ = some (.int .i64 s.cred) := HV1.out.1.cell 5
  have xc6 : V1.cell? ⟨w.heap.size, 6, none⟩ = some (.slice Ao no co) := HV1.out.1.cell 6
  have xc7 : V1.cell? ⟨w.heap.size, 7, none⟩ = some (.slice Aq nq cq) := HV1.out.1.cell 7
  have xk0 : V1.cell? ⟨w.heap.size + 1, 0, none⟩ = some (.int .i64 p.kind) := HV1.out.2.1.cell 0
  have xk1 : V1.cell? ⟨w.heap.size + 1, 1, none⟩ = some (.int .i64 p.ses) := HV1.out.2.1.cell 1
  have xk2 : V1.cell? ⟨w.heap.size + 1, 2, none⟩ = some (.int .i64 p.seq) := HV1.out.2.1.cell 2
  have xk3 : V1.cell? ⟨w.heap.size + 1, 3, none⟩ = some (.int .i64 p.ack) := HV1.out.2.1.cell 3
  have xk4 : V1.cell? ⟨w.heap.size + 1, 4, none⟩ = some (.int .i64 p.cred) := HV1.out.2.1.cell 4
  have xk5 : V1.cell? ⟨w.heap.size + 1, 5, none⟩ = some (.slice As ns cs) := HV1.out.2.1.cell 5
  have xk6 : V1.cell? ⟨w.heap.size + 1, 6, none⟩ = some (.slice Ap np cp) := HV1.out.2.1.cell 6
  have lS := HV1.out.1.lt
  have lK := HV1.out.2.1.lt
  have HC := Lib.hid (refAck_any s now p _ _ w.heap.size V1 (HV.out.up HV1.out.2.2) HSM.out.1 (HP.out.up HV1.out.2.2) HSM.out.2 HV1.out.2.2.size)
  go_wp2_with fail
  refine HC.out.mono ?_
  clear HC
  rintro e u2 ⟨⟨sv, n2, rfl, hsv, hn⟩, hb⟩
  rw [HT.out.1] at hsv hn
  obtain rfl : sm = n2 := hn.symm
  clear hn
  clear xc0 xc1 xc2 xc3 xc4 xc5 xc6 xc7 xk0 xk1 xk2 xk3 xk4 xk5 xk6 lS lK
  obtain ⟨vo, vq, rfl, hO, hQ⟩ := hsv
  obtain ⟨Ao2, co2, rfl, -, -⟩ := hO.form
  obtain ⟨Aq2, cq2, rfl, -, -⟩ := hQ.form
  rw [HTL.out.1] at hO ⊢
  rw [HTL.out.2] at hQ ⊢
  unfold snC
  have hbx : Below u2.heap.size u2 (u2.alloc (.cells #[.int .i64 t.ses, .int .i64 t.lim, .int .i64 t.tmo, .int .i64 t.base, .int .i64 t.next, .int .i64 t.cred, .slice Ao2 tn co2, .slice Aq2 tq cq2] 25)) := (Below.refl _ _).alloc (Nat.le_refl _) _
  have hkx := Blk.new u2 25 #[.int .i64 t.ses, .int .i64 t.lim, .int .i64 t.tmo, .int .i64 t.base, .int .i64 t.next, .int .i64 t.cred, .slice Ao2 tn co2, .slice Aq2 tq cq2]
  have hbb := hb.trans (hbx.mono hb.size)
  have G2 := Lib.hid (And.intro hkx (And.intro (hO.up hbx) (hQ.up hbx)))
  have G1b := Lib.hid (And.intro (G1.out.1.below hbb G1.out.1.lt) (And.intro (G1.out.2.1.up hbb) (G1.out.2.2.up hbb)))
  clear G1
  have G1 := G1b
  clear G1b
  have HV2 := Lib.hid (And.intro (HV1.out.1.below hbb HV1.out.1.lt) (And.intro (HV1.out.2.1.below hbb HV1.out.2.1.lt) (HV1.out.2.2.trans (hbb.mono HV1.out.2.2.size))))
  clear hbx hkx hbb hO hQ hb HV1
  go_upto_region 5 with fail
  obtain ⟨B2, hB2⟩ : ∃ x, x = u2.heap.size := ⟨_, rfl⟩
  rw [← hB2] at G2 ⊢
  clear hB2
  generalize (u2.alloc (.cells #[.int .i64 t.ses, .int .i64 t.lim, .int .i64 t.tmo, .int .i64 t.base, .int .i64 t.next, .int .i64 t.cred, .slice Ao2 tn co2, .slice Aq2 tq cq2] 25)) = V2 at *
  have xa0 : V2.cell? ⟨B1, 0, none⟩ = some (.int .i64 t.ses) := G1.out.1.cell 0
  have xa1 : V2.cell? ⟨B1, 1, none⟩ = some (.int .i64 t.lim) := G1.out.1.cell 1
  have xa2 : V2.cell? ⟨B1, 2, none⟩ = some (.int .i64 t.tmo) := G1.out.1.cell 2
  have xa3 : V2.cell? ⟨B1, 3, none⟩ = some (.int .i64 t.base) := G1.out.1.cell 3
  have xa4 : V2.cell? ⟨B1, 4, none⟩ = some (.int .i64 t.next) := G1.out.1.cell 4
  have xa5 : V2.cell? ⟨B1, 5, none⟩ = some (.int .i64 t.cred) := G1.out.1.cell 5
  have xa6 : V2.cell? ⟨B1, 6, none⟩ = some (.slice Ao1 tn co1) := G1.out.1.cell 6
  have xa7 : V2.cell? ⟨B1, 7, none⟩ = some (.slice Aq1 tq cq1) := G1.out.1.cell 7
  have xb0 : V2.cell? ⟨B2, 0, none⟩ = some (.int .i64 t.ses) := G2.out.1.cell 0
  have xb1 : V2.cell? ⟨B2, 1, none⟩ = some (.int .i64 t.lim) := G2.out.1.cell 1
  have xb2 : V2.cell? ⟨B2, 2, none⟩ = some (.int .i64 t.tmo) := G2.out.1.cell 2
  have xb3 : V2.cell? ⟨B2, 3, none⟩ = some (.int .i64 t.base) := G2.out.1.cell 3
  have xb4 : V2.cell? ⟨B2, 4, none⟩ = some (.int .i64 t.next) := G2.out.1.cell 4
  have xb5 : V2.cell? ⟨B2, 5, none⟩ = some (.int .i64 t.cred) := G2.out.1.cell 5
  have xb6 : V2.cell? ⟨B2, 6, none⟩ = some (.slice Ao2 tn co2) := G2.out.1.cell 6
  have xb7 : V2.cell? ⟨B2, 7, none⟩ = some (.slice Aq2 tq cq2) := G2.out.1.cell 7
  have l1 := G1.out.1.lt
  have l2 := G2.out.1.lt
  have hc1 := SameSender_true t (.agg #[.int .i64 t.ses, .int .i64 t.lim, .int .i64 t.tmo, .int .i64 t.base, .int .i64 t.next, .int .i64 t.cred, .slice Ao1 tn co1, .slice Aq1 tq cq1]) (.agg #[.int .i64 t.ses, .int .i64 t.lim, .int .i64 t.tmo, .int .i64 t.base, .int .i64 t.next, .int .i64 t.cred, .slice Ao2 tn co2, .slice Aq2 tq cq2]) w.heap.size w.heap.size V2 ⟨_, _, rfl, G1.out.2.1, G1.out.2.2⟩ ⟨_, _, rfl, G2.out.2.1, G2.out.2.2⟩ HT.out.2
  have HC := Lib.hid hc1
  clear hc1
  go_wp2_with fail
  refine HC.out.mono ?_
  clear HC
  rintro e y1 ⟨rfl, hb⟩
  have HV3 := Lib.hid (And.intro (HV2.out.1.below hb HV2.out.1.lt) (And.intro (HV2.out.2.1.below hb HV2.out.2.1.lt) (HV2.out.2.2.trans (hb.mono HV2.out.2.2.size))))
  clear hb
  clear xa0 xb0 xa1 xb1 xa2 xb2 xa3 xb3 xa4 xb4 xa5 xb5 xa6 xb6 xa7 xb7 l1 l2
  go_wp2_with fail
  refine (awake_any y1).mono ?_
  rintro e y3 ⟨rfl, hb⟩
  have HW9 := Lib.hid (HV3.out.2.2.trans (hb.mono HV3.out.2.2.size))
  clear hb
  go_wp2_with fail
  go_ret
  exact ⟨rfl, HW9.out⟩
end Go.Proofs.Ytanmndhdhlmjgaa
