/- The walk of the law WindowPushes. No condition. -/
import Derived.Test.YtanmndhdhlmjgaaYd
import Derived.Test.YtanmndhdhlmjgaaYb
import Derived.Test.YtanmndhdhlmjgaaMathG
import Derived.Test.YtanmndhdhlmjgaaXh
import Derived.Test.YtanmndhdhlmjgaaArgsB
import Derived.Test.YtanmndhdhlmjgaaWz
namespace Go.Proofs.Ytanmndhdhlmjgaa
open Go.RowKit
theorem blk8 {X w' : World} {g : Nat} {v0 v1 v2 v3 v4 v5 v6 v7 : Value} (hb : Below X.heap.size X w') (hk : Blk X g 25 #[v0, v1, v2, v3, v4, v5, v6, v7]) : w'.cell? ⟨g, 0, none⟩ = some v0 ∧ w'.cell? ⟨g, 1, none⟩ = some v1 ∧ w'.cell? ⟨g, 2, none⟩ = some v2 ∧ w'.cell? ⟨g, 3, none⟩ = some v3 ∧ w'.cell? ⟨g, 4, none⟩ = some v4 ∧ w'.cell? ⟨g, 5, none⟩ = some v5 ∧ w'.cell? ⟨g, 6, none⟩ = some v6 ∧ w'.cell? ⟨g, 7, none⟩ = some v7 ∧ Below X.heap.size X w' :=
  have h := hk.below hb hk.lt
  ⟨h.cell 0, h.cell 1, h.cell 2, h.cell 3, h.cell 4, h.cell 5, h.cell 6, h.cell 7, hb⟩
set_option maxRecDepth 100000 in
set_option maxHeartbeats 2000000 in
set_option linter.unusedSimpArgs false in
theorem walkWindowPushes (w : World) (v0 v1 v2 : Value) (h0 : Arg25 w v0) (h1 : Arg42 w v1) (h2 : Arg3 w v2) : Calls Try.prog 4 #[v0, v1, v2] w fun e w' => e = .returned (.bool true) ∧ Below w.heap.size w w' := by
  obtain ⟨s, hv⟩ := h0
  obtain ⟨p, hp⟩ := h1
  obtain ⟨now, rfl, -, -⟩ := h2
  have HV := Lib.hid hv
  obtain ⟨vo, vq, rfl, hO, hQ⟩ := hv
  obtain ⟨Ao, co, rfl, -, -⟩ := hO.form
  obtain ⟨Aq, cq, rfl, -, -⟩ := hQ.form
  obtain ⟨Ap, cp, rfl, hB⟩ := hp
  clear hO hQ
  obtain ⟨no, hno⟩ : ∃ n, s.out.length = n := ⟨_, rfl⟩
  obtain ⟨nq, hnq⟩ : ∃ n, s.q.length = n := ⟨_, rfl⟩
  obtain ⟨np, hnp⟩ : ∃ n, p.length = n := ⟨_, rfl⟩
  rw [hno, hnq] at HV ⊢
  rw [hnp]
  have HP : Hid (BsV w w.heap.size p (.slice Ap np cp)) := ⟨Ap, cp, by rw [hnp], hB⟩
  have HL := Lib.hid (And.intro hno (And.intro hnq hnp))
  clear hno hnq hnp hB
  unfold snC at HV ⊢
  have HW : Hid (Blk (w.alloc (.cells #[.int .i64 s.ses, .int .i64 s.lim, .int .i64 s.tmo, .int .i64 s.base, .int .i64 s.next, .int .i64 s.cred, .slice Ao no co, .slice Aq nq cq] 25)) (w.heap.size) 25 #[.int .i64 s.ses, .int .i64 s.lim, .int .i64 s.tmo, .int .i64 s.base, .int .i64 s.next, .int .i64 s.cred, .slice Ao no co, .slice Aq nq cq] ∧ Below w.heap.size w (w.alloc (.cells #[.int .i64 s.ses, .int .i64 s.lim, .int .i64 s.tmo, .int .i64 s.base, .int .i64 s.next, .int .i64 s.cred, .slice Ao no co, .slice Aq nq cq] 25))) := ⟨Blk.new w 25 #[.int .i64 s.ses, .int .i64 s.lim, .int .i64 s.tmo, .int .i64 s.base, .int .i64 s.next, .int .i64 s.cred, .slice Ao no co, .slice Aq nq cq], (Below.refl _ w).alloc (Nat.le_refl _) _⟩
  have HC := Lib.hid (FewSender_any s _ w.heap.size (w.alloc (.cells #[.int .i64 s.ses, .int .i64 s.lim, .int .i64 s.tmo, .int .i64 s.base, .int .i64 s.next, .int .i64 s.cred, .slice Ao no co, .slice Aq nq cq] 25)) (HV.out.up HW.out.2))
  go_enter Try.func4, Try.ntmps4
  go_wp2_with fail
  generalize (w.alloc (.cells #[.int .i64 s.ses, .int .i64 s.lim, .int .i64 s.tmo, .int .i64 s.base, .int .i64 s.next, .int .i64 s.cred, .slice Ao no co, .slice Aq nq cq] 25)) = W at *
  refine HC.out.mono ?_
  clear HC
  rintro e w1 ⟨⟨b1, rfl, hfs⟩, hb⟩
  have HFS := Lib.hid hfs
  clear hfs
  have HW1 := Lib.hid (And.intro (HW.out.1.below hb HW.out.1.lt) (HW.out.2.trans (hb.mono HW.out.2.size)))
  clear hb HW
  have xc0 : w1.cell? ⟨w.heap.size, 0, none⟩ = some (.int .i64 s.ses) := HW1.out.1.cell 0
  have xc1 : w1.cell? ⟨w.heap.size, 1, none⟩ = some (.int .i64 s.lim) := HW1.out.1.cell 1
  have xc2 : w1.cell? ⟨w.heap.size, 2, none⟩ = some (.int .i64 s.tmo) := HW1.out.1.cell 2
  have xc3 : w1.cell? ⟨w.heap.size, 3, none⟩ = some (.int .i64 s.base) := HW1.out.1.cell 3
  have xc4 : w1.cell? ⟨w.heap.size, 4, none⟩ = some (.int .i64 s.next) := HW1.out.1.cell 4
  have xc5 : w1.cell? ⟨w.heap.size, 5, none⟩ = some (.int .i64 s.cred) := HW1.out.1.cell 5
  have xc6 : w1.cell? ⟨w.heap.size, 6, none⟩ = some (.slice Ao no co) := HW1.out.1.cell 6
  have xc7 : w1.cell? ⟨w.heap.size, 7, none⟩ = some (.slice Aq nq cq) := HW1.out.1.cell 7
  have lS := HW1.out.1.lt
  cases b1 with
  | false =>
    go_wp2_with fail
    refine (awake_any w1).mono ?_
    rintro e y3 ⟨rfl, hb⟩
    have HW9 := Lib.hid (HW1.out.2.trans (hb.mono HW1.out.2.size))
    clear hb
    go_wp2_with fail
    go_ret
    exact ⟨rfl, HW9.out⟩
  | true =>
  by_cases hl : 9000 < np
  · have kl : decide ((9000 : Int) < (np : Int)) = true := decide_eq_true (by omega)
    have klb : (9000 < np) = True := eq_true hl
    clear hl
    go_wp2_with fail
    refine (awake_any w1).mono ?_
    rintro e y3 ⟨rfl, hb⟩
    have HW9 := Lib.hid (HW1.out.2.trans (hb.mono HW1.out.2.size))
    clear hb
    go_wp2_with fail
    go_ret
    exact ⟨rfl, HW9.out⟩
  have kl : decide ((9000 : Int) < (np : Int)) = false := decide_eq_false (by omega)
  have klb : (9000 < np) = False := eq_false hl
  have HPL : Hid (p.length ≤ 100000) := by show _ ≤ _; rw [HL.out.2.2]; omega
  have HSM : Hid (Small s) := ⟨by have := (HFS.out (by simp)).1; omega, by have := (HFS.out (by simp)).2; omega⟩
  clear hl
  go_upto_region 3 with fail
  obtain ⟨ev, hev⟩ : ∃ n, chkS s = n := ⟨_, rfl⟩
  obtain ⟨un, hun⟩ : ∃ n, unackS s = n := ⟨_, rfl⟩
  have H19 := Lib.hid (fun w9 (hb9 : Below w1.heap.size w1 w9) => CheckSender_any s (.agg #[.int .i64 s.ses, .int .i64 s.lim, .int .i64 s.tmo, .int .i64 s.base, .int .i64 s.next, .int .i64 s.cred, .slice Ao no co, .slice Aq nq cq]) w.heap.size w9 ((HV.out.up HW1.out.2).up hb9) HSM.out)
  have H20 := Lib.hid (fun w9 (hb9 : Below w1.heap.size w1 w9) => refCheckSender_any s (.agg #[.int .i64 s.ses, .int .i64 s.lim, .int .i64 s.tmo, .int .i64 s.base, .int .i64 s.next, .int .i64 s.cred, .slice Ao no co, .slice Aq nq cq]) w.heap.size w9 ((HV.out.up HW1.out.2).up hb9) HSM.out)
  have H21 := Lib.hid (fun w9 (hb9 : Below w1.heap.size w1 w9) => Unack_any s (.agg #[.int .i64 s.ses, .int .i64 s.lim, .int .i64 s.tmo, .int .i64 s.base, .int .i64 s.next, .int .i64 s.cred, .slice Ao no co, .slice Aq nq cq]) w.heap.size w9 ((HV.out.up HW1.out.2).up hb9) HSM.out)
  have H22 := Lib.hid (fun w9 (hb9 : Below w1.heap.size w1 w9) => refUnack_any s (.agg #[.int .i64 s.ses, .int .i64 s.lim, .int .i64 s.tmo, .int .i64 s.base, .int .i64 s.next, .int .i64 s.cred, .slice Ao no co, .slice Aq nq cq]) w.heap.size w9 ((HV.out.up HW1.out.2).up hb9) HSM.out)
  rw [hev] at H19 H20
  rw [hun] at H21 H22
  clear hev hun
  go_region_held3 (fun w' => w'.cell? ⟨w.heap.size, 0, none⟩ = some (.int .i64 s.ses) ∧ w'.cell? ⟨w.heap.size, 1, none⟩ = some (.int .i64 s.lim) ∧ w'.cell? ⟨w.heap.size, 2, none⟩ = some (.int .i64 s.tmo) ∧ w'.cell? ⟨w.heap.size, 3, none⟩ = some (.int .i64 s.base) ∧ w'.cell? ⟨w.heap.size, 4, none⟩ = some (.int .i64 s.next) ∧ w'.cell? ⟨w.heap.size, 5, none⟩ = some (.int .i64 s.cred) ∧ w'.cell? ⟨w.heap.size, 6, none⟩ = some (.slice Ao no co) ∧ w'.cell? ⟨w.heap.size, 7, none⟩ = some (.slice Aq nq cq) ∧ Below w1.heap.size w1 w')
    (first
      | exact blk8 ((Below.refl _ w1).drew) HW1.out.1
      | (go_split_ands; refine blk8 (below_step ?_ hb') HW1.out.1; assumption)
      | (go_split_ands; refine ⟨?_, ?_, ?_, ?_, ?_, ?_, ?_, ?_, ?_⟩ <;> assumption))
    (first
      | (go_at_call 19; refine (H19.out _ ?_).mono ?_; (go_split_ands; assumption); rintro e w' ⟨rfl, hb'⟩)
      | (go_at_call 20; refine (H20.out _ ?_).mono ?_; (go_split_ands; assumption); rintro e w' ⟨rfl, hb'⟩)
      | (go_at_call 21; refine (H21.out _ ?_).mono ?_; (go_split_ands; assumption); rintro e w' ⟨rfl, hb'⟩)
      | (go_at_call 22; refine (H22.out _ ?_).mono ?_; (go_split_ands; assumption); rintro e w' ⟨rfl, hb'⟩))
  rename_i hS
  clear hb'
  generalize w' = w3 at *
  have hb := hS.2.2.2.2.2.2.2.2
  clear hS H19 H20 H21 H22 xc0 xc1 xc2 xc3 xc4 xc5 xc6 xc7 lS
  have HW3 := Lib.hid (And.intro (HW1.out.1.below hb HW1.out.1.lt) (HW1.out.2.trans (hb.mono HW1.out.2.size)))
  clear hb HW1
  obtain ⟨⟨tp, en⟩, htp⟩ : ∃ q, pushS s p = q := ⟨_, rfl⟩
  obtain ⟨⟨tl, kl2⟩, htl⟩ : ∃ q, pollS s now = q := ⟨_, rfl⟩
  have hts : Small tp := by have h := pushS_small (p := p) (HFS.out trivial).1 (HFS.out trivial).2; rw [htp] at h; exact h
  have hls : Small tl := by have h := pollS_small (now := now) (HFS.out trivial).1 (HFS.out trivial).2; rw [htl] at h; exact h
  have hks : kl2.length ≤ 100000 ∧ ∀ x ∈ kl2, SmallP x := by have h := pollS_pk (now := now) (HFS.out trivial).2; rw [htl] at h; exact h
  have HT := Lib.hid (And.intro htp (And.intro htl (And.intro hts (And.intro hls hks))))
  clear htp htl hts hls hks
  obtain ⟨tpn, h1⟩ : ∃ n, tp.out.length = n := ⟨_, rfl⟩
  obtain ⟨tpq, h2⟩ : ∃ n, tp.q.length = n := ⟨_, rfl⟩
  obtain ⟨tln, h3⟩ : ∃ n, tl.out.length = n := ⟨_, rfl⟩
  obtain ⟨tlq, h4⟩ : ∃ n, tl.q.length = n := ⟨_, rfl⟩
  obtain ⟨kn, h5⟩ : ∃ n, kl2.length = n := ⟨_, rfl⟩
  have HTL := Lib.hid (And.intro (And.intro h1 h2) (And.intro (And.intro h3 h4) h5))
  clear h1 h2 h3 h4 h5 kl klb
  have xc0 : w3.cell? ⟨w.heap.size, 0, none⟩ = some (.int .i64 s.ses) := HW3.out.1.cell 0
  have xc1 : w3.cell? ⟨w.heap.size, 1, none⟩ = some (.int .i64 s.lim) := HW3.out.1.cell 1
  have xc2 : w3.cell? ⟨w.heap.size, 2, none⟩ = some (.int .i64 s.tmo) := HW3.out.1.cell 2
  have xc3 : w3.cell? ⟨w.heap.size, 3, none⟩ = some (.int .i64 s.base) := HW3.out.1.cell 3
  have xc4 : w3.cell? ⟨w.heap.size, 4, none⟩ = some (.int .i64 s.next) := HW3.out.1.cell 4
  have xc5 : w3.cell? ⟨w.heap.size, 5, none⟩ = some (.int .i64 s.cred) := HW3.out.1.cell 5
  have xc6 : w3.cell? ⟨w.heap.size, 6, none⟩ = some (.slice Ao no co) := HW3.out.1.cell 6
  have xc7 : w3.cell? ⟨w.heap.size, 7, none⟩ = some (.slice Aq nq cq) := HW3.out.1.cell 7
  have lS := HW3.out.1.lt
  go_upto_region 5 with fail
  have HC := Lib.hid (Push_any s _ w.heap.size p _ w3 (HV.out.up HW3.out.2) HSM.out HW3.out.2.size (HP.out.up HW3.out.2) HPL.out)
  go_wp2_with fail
  refine HC.out.mono ?_
  clear HC
  rintro e u1 ⟨⟨sv, n1, rfl, hn, hsv⟩, hb⟩
  rw [HT.out.1] at hsv hn
  obtain rfl : ((en : Nat) : Int) = n1 := hn.symm
  clear hn
  clear xc0 xc1 xc2 xc3 xc4 xc5 xc6 xc7 lS
  obtain ⟨vo, vq, rfl, hO, hQ⟩ := hsv
  obtain ⟨Ao1, co1, rfl, -, -⟩ := hO.form
  obtain ⟨Aq1, cq1, rfl, -, -⟩ := hQ.form
  rw [HTL.out.1.1] at hO ⊢
  rw [HTL.out.1.2] at hQ ⊢
  unfold snC
  have hbx : Below u1.heap.size u1 (u1.alloc (.cells #[.int .i64 tp.ses, .int .i64 tp.lim, .int .i64 tp.tmo, .int .i64 tp.base, .int .i64 tp.next, .int .i64 tp.cred, .slice Ao1 tpn co1, .slice Aq1 tpq cq1] 25)) := (Below.refl _ _).alloc (Nat.le_refl _) _
  have hkx := Blk.new u1 25 #[.int .i64 tp.ses, .int .i64 tp.lim, .int .i64 tp.tmo, .int .i64 tp.base, .int .i64 tp.next, .int .i64 tp.cred, .slice Ao1 tpn co1, .slice Aq1 tpq cq1]
  have hbb := hb.trans (hbx.mono hb.size)
  have G1 := Lib.hid (And.intro hkx (And.intro (hO.up hbx) (hQ.up hbx)))
  have HV1 := Lib.hid (And.intro (HW3.out.1.below hbb HW3.out.1.lt) (HW3.out.2.trans (hbb.mono HW3.out.2.size)))
  clear hbx hkx hbb hO hQ hb HW3
  go_upto_region 6 with fail
  obtain ⟨B1, hB1⟩ : ∃ x, x = u1.heap.size := ⟨_, rfl⟩
  rw [← hB1] at G1 ⊢
  clear hB1
  generalize (u1.alloc (.cells #[.int .i64 tp.ses, .int .i64 tp.lim, .int .i64 tp.tmo, .int .i64 tp.base, .int .i64 tp.next, .int .i64 tp.cred, .slice Ao1 tpn co1, .slice Aq1 tpq cq1] 25)) = V1 at *
  have xc0 : V1.cell? ⟨w.heap.size, 0, none⟩ = some (.int .i64 s.ses) := HV1.out.1.cell 0
  have xc1 : V1.cell? ⟨w.heap.size, 1, none⟩ = some (.int .i64 s.lim) := HV1.out.1.cell 1
  have xc2 : V1.cell? ⟨w.heap.size, 2, none⟩ = some (.int .i64 s.tmo) := HV1.out.1.cell 2
  have xc3 : V1.cell? ⟨w.heap.size, 3, none⟩ = some (.int .i64 s.base) := HV1.out.1.cell 3
  have xc4 : V1.cell? ⟨w.heap.size, 4, none⟩ = some (.int .i64 s.next) := HV1.out.1.cell 4
  have xc5 : V1.cell? ⟨w.heap.size, 5, none⟩ = some (.int .i64 s.cred) := HV1.out.1.cell 5
  have xc6 : V1.cell? ⟨w.heap.size, 6, none⟩ = some (.slice Ao no co) := HV1.out.1.cell 6
  have xc7 : V1.cell? ⟨w.heap.size, 7, none⟩ = some (.slice Aq nq cq) := HV1.out.1.cell 7
  have lS := HV1.out.1.lt
  have HC := Lib.hid (refPush_any s _ w.heap.size p _ V1 (HV.out.up HV1.out.2) HSM.out HV1.out.2.size (HP.out.up HV1.out.2) HPL.out)
  go_wp2_with fail
  refine HC.out.mono ?_
  clear HC
  rintro e u2 ⟨⟨sv, n2, rfl, hn, hsv⟩, hb⟩
  rw [HT.out.1] at hsv hn
  obtain rfl : ((en : Nat) : Int) = n2 := hn.symm
  clear hn
  clear xc0 xc1 xc2 xc3 xc4 xc5 xc6 xc7 lS
  obtain ⟨vo, vq, rfl, hO, hQ⟩ := hsv
  obtain ⟨Ao2, co2, rfl, -, -⟩ := hO.form
  obtain ⟨Aq2, cq2, rfl, -, -⟩ := hQ.form
  rw [HTL.out.1.1] at hO ⊢
  rw [HTL.out.1.2] at hQ ⊢
  unfold snC
  have hbx : Below u2.heap.size u2 (u2.alloc (.cells #[.int .i64 tp.ses, .int .i64 tp.lim, .int .i64 tp.tmo, .int .i64 tp.base, .int .i64 tp.next, .int .i64 tp.cred, .slice Ao2 tpn co2, .slice Aq2 tpq cq2] 25)) := (Below.refl _ _).alloc (Nat.le_refl _) _
  have hkx := Blk.new u2 25 #[.int .i64 tp.ses, .int .i64 tp.lim, .int .i64 tp.tmo, .int .i64 tp.base, .int .i64 tp.next, .int .i64 tp.cred, .slice Ao2 tpn co2, .slice Aq2 tpq cq2]
  have hbb := hb.trans (hbx.mono hb.size)
  have G2 := Lib.hid (And.intro hkx (And.intro (hO.up hbx) (hQ.up hbx)))
  have G1b := Lib.hid (And.intro (G1.out.1.below hbb G1.out.1.lt) (And.intro (G1.out.2.1.up hbb) (G1.out.2.2.up hbb)))
  clear G1
  have G1 := G1b
  clear G1b
  have HV2 := Lib.hid (And.intro (HV1.out.1.below hbb HV1.out.1.lt) (HV1.out.2.trans (hbb.mono HV1.out.2.size)))
  clear hbx hkx hbb hO hQ hb HV1
  go_upto_region 7 with fail
  obtain ⟨B2, hB2⟩ : ∃ x, x = u2.heap.size := ⟨_, rfl⟩
  rw [← hB2] at G2 ⊢
  clear hB2
  generalize (u2.alloc (.cells #[.int .i64 tp.ses, .int .i64 tp.lim, .int .i64 tp.tmo, .int .i64 tp.base, .int .i64 tp.next, .int .i64 tp.cred, .slice Ao2 tpn co2, .slice Aq2 tpq cq2] 25)) = V2 at *
  have xc0 : V2.cell? ⟨w.heap.size, 0, none⟩ = some (.int .i64 s.ses) := HV2.out.1.cell 0
  have xc1 : V2.cell? ⟨w.heap.size, 1, none⟩ = some (.int .i64 s.lim) := HV2.out.1.cell 1
  have xc2 : V2.cell? ⟨w.heap.size, 2, none⟩ = some (.int .i64 s.tmo) := HV2.out.1.cell 2
  have xc3 : V2.cell? ⟨w.heap.size, 3, none⟩ = some (.int .i64 s.base) := HV2.out.1.cell 3
  have xc4 : V2.cell? ⟨w.heap.size, 4, none⟩ = some (.int .i64 s.next) := HV2.out.1.cell 4
  have xc5 : V2.cell? ⟨w.heap.size, 5, none⟩ = some (.int .i64 s.cred) := HV2.out.1.cell 5
  have xc6 : V2.cell? ⟨w.heap.size, 6, none⟩ = some (.slice Ao no co) := HV2.out.1.cell 6
  have xc7 : V2.cell? ⟨w.heap.size, 7, none⟩ = some (.slice Aq nq cq) := HV2.out.1.cell 7
  have lS := HV2.out.1.lt
  have HC := Lib.hid (Poll_any s now _ w.heap.size V2 (HV.out.up HV2.out.2) HSM.out HV2.out.2.size)
  go_wp2_with fail
  refine HC.out.mono ?_
  clear HC
  rintro e u3 ⟨⟨sv, kv, rfl, hsv, hkv⟩, hb⟩
  rw [HT.out.2.1] at hsv hkv
  obtain ⟨Ak3, ck3, rfl, -, -⟩ := hkv.form
  rw [HTL.out.2.2] at hkv ⊢
  clear xc0 xc1 xc2 xc3 xc4 xc5 xc6 xc7 lS
  obtain ⟨vo, vq, rfl, hO, hQ⟩ := hsv
  obtain ⟨Ao3, co3, rfl, -, -⟩ := hO.form
  obtain ⟨Aq3, cq3, rfl, -, -⟩ := hQ.form
  rw [HTL.out.2.1.1] at hO ⊢
  rw [HTL.out.2.1.2] at hQ ⊢
  unfold snC
  have hbx : Below u3.heap.size u3 (u3.alloc (.cells #[.int .i64 tl.ses, .int .i64 tl.lim, .int .i64 tl.tmo, .int .i64 tl.base, .int .i64 tl.next, .int .i64 tl.cred, .slice Ao3 tln co3, .slice Aq3 tlq cq3] 25)) := (Below.refl _ _).alloc (Nat.le_refl _) _
  have hkx := Blk.new u3 25 #[.int .i64 tl.ses, .int .i64 tl.lim, .int .i64 tl.tmo, .int .i64 tl.base, .int .i64 tl.next, .int .i64 tl.cred, .slice Ao3 tln co3, .slice Aq3 tlq cq3]
  have hbb := hb.trans (hbx.mono hb.size)
  have G3 := Lib.hid (And.intro hkx (And.intro (hO.up hbx) (And.intro (hQ.up hbx) (hkv.up hbx))))
  clear hkv
  have G1b := Lib.hid (And.intro (G1.out.1.below hbb G1.out.1.lt) (And.intro (G1.out.2.1.up hbb) (G1.out.2.2.up hbb)))
  clear G1
  have G1 := G1b
  clear G1b
  have G2b := Lib.hid (And.intro (G2.out.1.below hbb G2.out.1.lt) (And.intro (G2.out.2.1.up hbb) (G2.out.2.2.up hbb)))
  clear G2
  have G2 := G2b
  clear G2b
  have HV3 := Lib.hid (And.intro (HV2.out.1.below hbb HV2.out.1.lt) (HV2.out.2.trans (hbb.mono HV2.out.2.size)))
  clear hbx hkx hbb hO hQ hb HV2
  go_upto_region 8 with fail
  obtain ⟨B3, hB3⟩ : ∃ x, x = u3.heap.size := ⟨_, rfl⟩
  rw [← hB3] at G3 ⊢
  clear hB3
  generalize (u3.alloc (.cells #[.int .i64 tl.ses, .int .i64 tl.lim, .int .i64 tl.tmo, .int .i64 tl.base, .int .i64 tl.next, .int .i64 tl.cred, .slice Ao3 tln co3, .slice Aq3 tlq cq3] 25)) = V3 at *
  have xc0 : V3.cell? ⟨w.heap.size, 0, none⟩ = some (.int .i64 s.ses) := HV3.out.1.cell 0
  have xc1 : V3.cell? ⟨w.heap.size, 1, none⟩ = some (.int .i64 s.lim) := HV3.out.1.cell 1
  have xc2 : V3.cell? ⟨w.heap.size, 2, none⟩ = some (.int .i64 s.tmo) := HV3.out.1.cell 2
  have xc3 : V3.cell? ⟨w.heap.size, 3, none⟩ = some (.int .i64 s.base) := HV3.out.1.cell 3
  have xc4 : V3.cell? ⟨w.heap.size, 4, none⟩ = some (.int .i64 s.next) := HV3.out.1.cell 4
  have xc5 : V3.cell? ⟨w.heap.size, 5, none⟩ = some (.int .i64 s.cred) := HV3.out.1.cell 5
  have xc6 : V3.cell? ⟨w.heap.size, 6, none⟩ = some (.slice Ao no co) := HV3.out.1.cell 6
  have xc7 : V3.cell? ⟨w.heap.size, 7, none⟩ = some (.slice Aq nq cq) := HV3.out.1.cell 7
  have lS := HV3.out.1.lt
  have HC := Lib.hid (refPoll_any s now _ w.heap.size V3 (HV.out.up HV3.out.2) HSM.out HV3.out.2.size)
  go_wp2_with fail
  refine HC.out.mono ?_
  clear HC
  rintro e u4 ⟨⟨sv, kv, rfl, hsv, hkv⟩, hb⟩
  rw [HT.out.2.1] at hsv hkv
  obtain ⟨Ak4, ck4, rfl, -, -⟩ := hkv.form
  rw [HTL.out.2.2] at hkv ⊢
  clear xc0 xc1 xc2 xc3 xc4 xc5 xc6 xc7 lS
  obtain ⟨vo, vq, rfl, hO, hQ⟩ := hsv
  obtain ⟨Ao4, co4, rfl, -, -⟩ := hO.form
  obtain ⟨Aq4, cq4, rfl, -, -⟩ := hQ.form
  rw [HTL.out.2.1.1] at hO ⊢
  rw [HTL.out.2.1.2] at hQ ⊢
  unfold snC
  have hbx : Below u4.heap.size u4 (u4.alloc (.cells #[.int .i64 tl.ses, .int .i64 tl.lim, .int .i64 tl.tmo, .int .i64 tl.base, .int .i64 tl.next, .int .i64 tl.cred, .slice Ao4 tln co4, .slice Aq4 tlq cq4] 25)) := (Below.refl _ _).alloc (Nat.le_refl _) _
  have hkx := Blk.new u4 25 #[.int .i64 tl.ses, .int .i64 tl.lim, .int .i64 tl.tmo, .int .i64 tl.base, .int .i64 tl.next, .int .i64 tl.cred, .slice Ao4 tln co4, .slice Aq4 tlq cq4]
  have hbb := hb.trans (hbx.mono hb.size)
  have G4 := Lib.hid (And.intro hkx (And.intro (hO.up hbx) (And.intro (hQ.up hbx) (hkv.up hbx))))
  clear hkv
  have G1b := Lib.hid (And.intro (G1.out.1.below hbb G1.out.1.lt) (And.intro (G1.out.2.1.up hbb) (G1.out.2.2.up hbb)))
  clear G1
  have G1 := G1b
  clear G1b
  have G2b := Lib.hid (And.intro (G2.out.1.below hbb G2.out.1.lt) (And.intro (G2.out.2.1.up hbb) (G2.out.2.2.up hbb)))
  clear G2
  have G2 := G2b
  clear G2b
  have G3b := Lib.hid (And.intro (G3.out.1.below hbb G3.out.1.lt) (And.intro (G3.out.2.1.up hbb) (And.intro (G3.out.2.2.1.up hbb) (G3.out.2.2.2.up hbb))))
  clear G3
  have G3 := G3b
  clear G3b
  have HV4 := Lib.hid (And.intro (HV3.out.1.below hbb HV3.out.1.lt) (HV3.out.2.trans (hbb.mono HV3.out.2.size)))
  clear hbx hkx hbb hO hQ hb HV3
  go_upto_region 9 with fail
  obtain ⟨B4, hB4⟩ : ∃ x, x = u4.heap.size := ⟨_, rfl⟩
  rw [← hB4] at G4 ⊢
  clear hB4
  generalize (u4.alloc (.cells #[.int .i64 tl.ses, .int .i64 tl.lim, .int .i64 tl.tmo, .int .i64 tl.base, .int .i64 tl.next, .int .i64 tl.cred, .slice Ao4 tln co4, .slice Aq4 tlq cq4] 25)) = V4 at *
  have xa0 : V4.cell? ⟨B1, 0, none⟩ = some (.int .i64 tp.ses) := G1.out.1.cell 0
  have xa1 : V4.cell? ⟨B1, 1, none⟩ = some (.int .i64 tp.lim) := G1.out.1.cell 1
  have xa2 : V4.cell? ⟨B1, 2, none⟩ = some (.int .i64 tp.tmo) := G1.out.1.cell 2
  have xa3 : V4.cell? ⟨B1, 3, none⟩ = some (.int .i64 tp.base) := G1.out.1.cell 3
  have xa4 : V4.cell? ⟨B1, 4, none⟩ = some (.int .i64 tp.next) := G1.out.1.cell 4
  have xa5 : V4.cell? ⟨B1, 5, none⟩ = some (.int .i64 tp.cred) := G1.out.1.cell 5
  have xa6 : V4.cell? ⟨B1, 6, none⟩ = some (.slice Ao1 tpn co1) := G1.out.1.cell 6
  have xa7 : V4.cell? ⟨B1, 7, none⟩ = some (.slice Aq1 tpq cq1) := G1.out.1.cell 7
  have xb0 : V4.cell? ⟨B2, 0, none⟩ = some (.int .i64 tp.ses) := G2.out.1.cell 0
  have xb1 : V4.cell? ⟨B2, 1, none⟩ = some (.int .i64 tp.lim) := G2.out.1.cell 1
  have xb2 : V4.cell? ⟨B2, 2, none⟩ = some (.int .i64 tp.tmo) := G2.out.1.cell 2
  have xb3 : V4.cell? ⟨B2, 3, none⟩ = some (.int .i64 tp.base) := G2.out.1.cell 3
  have xb4 : V4.cell? ⟨B2, 4, none⟩ = some (.int .i64 tp.next) := G2.out.1.cell 4
  have xb5 : V4.cell? ⟨B2, 5, none⟩ = some (.int .i64 tp.cred) := G2.out.1.cell 5
  have xb6 : V4.cell? ⟨B2, 6, none⟩ = some (.slice Ao2 tpn co2) := G2.out.1.cell 6
  have xb7 : V4.cell? ⟨B2, 7, none⟩ = some (.slice Aq2 tpq cq2) := G2.out.1.cell 7
  have xd0 : V4.cell? ⟨B3, 0, none⟩ = some (.int .i64 tl.ses) := G3.out.1.cell 0
  have xd1 : V4.cell? ⟨B3, 1, none⟩ = some (.int .i64 tl.lim) := G3.out.1.cell 1
  have xd2 : V4.cell? ⟨B3, 2, none⟩ = some (.int .i64 tl.tmo) := G3.out.1.cell 2
  have xd3 : V4.cell? ⟨B3, 3, none⟩ = some (.int .i64 tl.base) := G3.out.1.cell 3
  have xd4 : V4.cell? ⟨B3, 4, none⟩ = some (.int .i64 tl.next) := G3.out.1.cell 4
  have xd5 : V4.cell? ⟨B3, 5, none⟩ = some (.int .i64 tl.cred) := G3.out.1.cell 5
  have xd6 : V4.cell? ⟨B3, 6, none⟩ = some (.slice Ao3 tln co3) := G3.out.1.cell 6
  have xd7 : V4.cell? ⟨B3, 7, none⟩ = some (.slice Aq3 tlq cq3) := G3.out.1.cell 7
  have xe0 : V4.cell? ⟨B4, 0, none⟩ = some (.int .i64 tl.ses) := G4.out.1.cell 0
  have xe1 : V4.cell? ⟨B4, 1, none⟩ = some (.int .i64 tl.lim) := G4.out.1.cell 1
  have xe2 : V4.cell? ⟨B4, 2, none⟩ = some (.int .i64 tl.tmo) := G4.out.1.cell 2
  have xe3 : V4.cell? ⟨B4, 3, none⟩ = some (.int .i64 tl.base) := G4.out.1.cell 3
  have xe4 : V4.cell? ⟨B4, 4, none⟩ = some (.int .i64 tl.next) := G4.out.1.cell 4
  have xe5 : V4.cell? ⟨B4, 5, none⟩ = some (.int .i64 tl.cred) := G4.out.1.cell 5
  have xe6 : V4.cell? ⟨B4, 6, none⟩ = some (.slice Ao4 tln co4) := G4.out.1.cell 6
  have xe7 : V4.cell? ⟨B4, 7, none⟩ = some (.slice Aq4 tlq cq4) := G4.out.1.cell 7
  have l1 := G1.out.1.lt
  have l2 := G2.out.1.lt
  have l3 := G3.out.1.lt
  have l4 := G4.out.1.lt
  have HC := Lib.hid (SameSender_true tp (.agg #[.int .i64 tp.ses, .int .i64 tp.lim, .int .i64 tp.tmo, .int .i64 tp.base, .int .i64 tp.next, .int .i64 tp.cred, .slice Ao1 tpn co1, .slice Aq1 tpq cq1]) (.agg #[.int .i64 tp.ses, .int .i64 tp.lim, .int .i64 tp.tmo, .int .i64 tp.base, .int .i64 tp.next, .int .i64 tp.cred, .slice Ao2 tpn co2, .slice Aq2 tpq cq2]) w.heap.size w.heap.size V4 ⟨_, _, rfl, G1.out.2.1, G1.out.2.2⟩ ⟨_, _, rfl, G2.out.2.1, G2.out.2.2⟩ HT.out.2.2.1)
  go_wp2_with fail
  refine HC.out.mono ?_
  clear HC
  rintro e y1 ⟨rfl, hb⟩
  clear xa0 xa1 xa2 xa3 xa4 xa5 xa6 xa7 xb0 xb1 xb2 xb3 xb4 xb5 xb6 xb7 xd0 xd1 xd2 xd3 xd4 xd5 xd6 xd7 xe0 xe1 xe2 xe3 xe4 xe5 xe6 xe7 l1 l2 l3 l4
  have G3b := Lib.hid (And.intro (G3.out.1.below hb G3.out.1.lt) (And.intro (G3.out.2.1.up hb) (And.intro (G3.out.2.2.1.up hb) (G3.out.2.2.2.up hb))))
  clear G3
  have G3 := G3b
  clear G3b
  have G4b := Lib.hid (And.intro (G4.out.1.below hb G4.out.1.lt) (And.intro (G4.out.2.1.up hb) (And.intro (G4.out.2.2.1.up hb) (G4.out.2.2.2.up hb))))
  clear G4
  have G4 := G4b
  clear G4b
  clear G1 G2
  have HV5 := Lib.hid (And.intro (HV4.out.1.below hb HV4.out.1.lt) (HV4.out.2.trans (hb.mono HV4.out.2.size)))
  clear hb HV4
  have xd0 : y1.cell? ⟨B3, 0, none⟩ = some (.int .i64 tl.ses) := G3.out.1.cell 0
  have xd1 : y1.cell? ⟨B3, 1, none⟩ = some (.int .i64 tl.lim) := G3.out.1.cell 1
  have xd2 : y1.cell? ⟨B3, 2, none⟩ = some (.int .i64 tl.tmo) := G3.out.1.cell 2
  have xd3 : y1.cell? ⟨B3, 3, none⟩ = some (.int .i64 tl.base) := G3.out.1.cell 3
  have xd4 : y1.cell? ⟨B3, 4, none⟩ = some (.int .i64 tl.next) := G3.out.1.cell 4
  have xd5 : y1.cell? ⟨B3, 5, none⟩ = some (.int .i64 tl.cred) := G3.out.1.cell 5
  have xd6 : y1.cell? ⟨B3, 6, none⟩ = some (.slice Ao3 tln co3) := G3.out.1.cell 6
  have xd7 : y1.cell? ⟨B3, 7, none⟩ = some (.slice Aq3 tlq cq3) := G3.out.1.cell 7
  have xe0 : y1.cell? ⟨B4, 0, none⟩ = some (.int .i64 tl.ses) := G4.out.1.cell 0
  have xe1 : y1.cell? ⟨B4, 1, none⟩ = some (.int .i64 tl.lim) := G4.out.1.cell 1
  have xe2 : y1.cell? ⟨B4, 2, none⟩ = some (.int .i64 tl.tmo) := G4.out.1.cell 2
  have xe3 : y1.cell? ⟨B4, 3, none⟩ = some (.int .i64 tl.base) := G4.out.1.cell 3
  have xe4 : y1.cell? ⟨B4, 4, none⟩ = some (.int .i64 tl.next) := G4.out.1.cell 4
  have xe5 : y1.cell? ⟨B4, 5, none⟩ = some (.int .i64 tl.cred) := G4.out.1.cell 5
  have xe6 : y1.cell? ⟨B4, 6, none⟩ = some (.slice Ao4 tln co4) := G4.out.1.cell 6
  have xe7 : y1.cell? ⟨B4, 7, none⟩ = some (.slice Aq4 tlq cq4) := G4.out.1.cell 7
  have l3 := G3.out.1.lt
  have l4 := G4.out.1.lt
  have HC := Lib.hid (SameSender_true tl (.agg #[.int .i64 tl.ses, .int .i64 tl.lim, .int .i64 tl.tmo, .int .i64 tl.base, .int .i64 tl.next, .int .i64 tl.cred, .slice Ao3 tln co3, .slice Aq3 tlq cq3]) (.agg #[.int .i64 tl.ses, .int .i64 tl.lim, .int .i64 tl.tmo, .int .i64 tl.base, .int .i64 tl.next, .int .i64 tl.cred, .slice Ao4 tln co4, .slice Aq4 tlq cq4]) w.heap.size w.heap.size y1 ⟨_, _, rfl, G3.out.2.1, G3.out.2.2.1⟩ ⟨_, _, rfl, G4.out.2.1, G4.out.2.2.1⟩ HT.out.2.2.2.1)
  go_wp2_with fail
  refine HC.out.mono ?_
  clear HC
  rintro e y2 ⟨rfl, hb⟩
  clear xd0 xd1 xd2 xd3 xd4 xd5 xd6 xd7 xe0 xe1 xe2 xe3 xe4 xe5 xe6 xe7 l3 l4
  have G3b := Lib.hid (And.intro (G3.out.1.below hb G3.out.1.lt) (And.intro (G3.out.2.1.up hb) (And.intro (G3.out.2.2.1.up hb) (G3.out.2.2.2.up hb))))
  clear G3
  have G3 := G3b
  clear G3b
  have G4b := Lib.hid (And.intro (G4.out.1.below hb G4.out.1.lt) (And.intro (G4.out.2.1.up hb) (And.intro (G4.out.2.2.1.up hb) (G4.out.2.2.2.up hb))))
  clear G4
  have G4 := G4b
  clear G4b
  have HV6 := Lib.hid (And.intro (HV5.out.1.below hb HV5.out.1.lt) (HV5.out.2.trans (hb.mono HV5.out.2.size)))
  clear hb HV5
  have HC := Lib.hid (SamePackets_true kl2 _ _ w.heap.size w.heap.size y2 G3.out.2.2.2 G4.out.2.2.2 HT.out.2.2.2.2.1 HT.out.2.2.2.2.2)
  go_wp2_with fail
  refine HC.out.mono ?_
  clear HC
  rintro e y4 ⟨rfl, hb⟩
  have HV7 := Lib.hid (And.intro (HV6.out.1.below hb HV6.out.1.lt) (HV6.out.2.trans (hb.mono HV6.out.2.size)))
  clear hb HV6 G3 G4
  go_wp2_with fail
  refine (awake_any y4).mono ?_
  rintro e y3 ⟨rfl, hb⟩
  have HW9 := Lib.hid (HV7.out.2.trans (hb.mono HV7.out.2.size))
  clear hb
  go_wp2_with fail
  go_ret
  exact ⟨rfl, HW9.out⟩
end Go.Proofs.Ytanmndhdhlmjgaa
