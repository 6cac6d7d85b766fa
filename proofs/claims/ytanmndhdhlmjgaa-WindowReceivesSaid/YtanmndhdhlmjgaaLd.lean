/- The walk of the law WindowReceives. No condition. -/
import Derived.Test.YtanmndhdhlmjgaaYh
import Derived.Test.YtanmndhdhlmjgaaXh
import Derived.Test.YtanmndhdhlmjgaaArgsB
import Derived.Test.YtanmndhdhlmjgaaWz
namespace Go.Proofs.Ytanmndhdhlmjgaa
open Go.RowKit
theorem deliv_len1 : ∀ (l : List Am) (n : Int), (deliv n l).1.length ≤ l.length
  | [], n => by rw [deliv]; exact Nat.le_refl _
  | a :: l, n => by
    rw [deliv]
    split
    · have := deliv_len1 l (n + 1); simp only [List.length_cons]; omega
    · simp
structure SmallT (q : Rm × List (List Nat) × List Pm) : Prop where
  r : SmallR q.1
  d : q.2.1.length ≤ 100000
  k : q.2.2.length ≤ 100000
  ks : ∀ x ∈ q.2.2, SmallP x
theorem recvR_small {r : Rm} {p : Pm} (h : r.early.length ≤ 80) : SmallT (recvR r p) := by
  unfold recvR
  split
  · exact ⟨⟨by dsimp only; omega⟩, by simp, by simp, nofun⟩
  · have h1 : (if p.kind = 0 then keepR r p else r).early.length ≤ 81 := by
      split
      · have := keep_len r p; omega
      · omega
    generalize (if p.kind = 0 then keepR r p else r) = r1 at *
    have h2 := deliv_len r1.early r1.next
    have h3 := deliv_len1 r1.early r1.next
    refine ⟨⟨by dsimp only; omega⟩, by dsimp only; omega, by simp, fun x hx => ?_⟩
    rw [List.mem_singleton] at hx
    subst hx
    refine ⟨?_, by simp [answP]⟩
    show (selA _).length ≤ _
    have h4 := selA_len (deliv r1.next r1.early).2.2
    dsimp only
    omega
theorem blk12 {X w' : World} {g1 g2 g3 : Nat} {v0 v1 v2 v3 a0 a1 a2 a3 b0 b1 b2 b3 : Value} (hb : Below X.heap.size X w') (k1 : Blk X g1 33 #[v0, v1, v2, v3]) (k2 : Blk X g2 33 #[a0, a1, a2, a3]) (k3 : Blk X g3 33 #[b0, b1, b2, b3]) :
    w'.cell? ⟨g1, 0, none⟩ = some v0 ∧ w'.cell? ⟨g1, 1, none⟩ = some v1 ∧ w'.cell? ⟨g1, 2, none⟩ = some v2 ∧ w'.cell? ⟨g1, 3, none⟩ = some v3 ∧ w'.cell? ⟨g2, 0, none⟩ = some a0 ∧ w'.cell? ⟨g2, 1, none⟩ = some a1 ∧ w'.cell? ⟨g2, 2, none⟩ = some a2 ∧ w'.cell? ⟨g2, 3, none⟩ = some a3 ∧ w'.cell? ⟨g3, 0, none⟩ = some b0 ∧ w'.cell? ⟨g3, 1, none⟩ = some b1 ∧ w'.cell? ⟨g3, 2, none⟩ = some b2 ∧ w'.cell? ⟨g3, 3, none⟩ = some b3 ∧ Below X.heap.size X w' :=
  have h1 := k1.below hb k1.lt
  have h2 := k2.below hb k2.lt
  have h3 := k3.below hb k3.lt
  ⟨h1.cell 0, h1.cell 1, h1.cell 2, h1.cell 3, h2.cell 0, h2.cell 1, h2.cell 2, h2.cell 3, h3.cell 0, h3.cell 1, h3.cell 2, h3.cell 3, hb⟩
set_option maxRecDepth 100000 in
set_option maxHeartbeats 2000000 in
set_option linter.unusedSimpArgs false in
theorem walkWindowReceives (w : World) (v0 v1 : Value) (h0 : Arg33 w v0) (h1 : Arg55 w v1) : Calls Try.prog 6 #[v0, v1] w fun e w' => e = .returned (.bool true) ∧ Below w.heap.size w w' := by
  obtain ⟨r, hv⟩ := h0
  obtain ⟨p, hp⟩ := h1
  have HV := Lib.hid hv
  have HP := Lib.hid hp
  obtain ⟨ve, rfl, hE⟩ := hv
  obtain ⟨Ae, ce, rfl, -, -⟩ := hE.form
  obtain ⟨vs, vp, rfl, hX, Ap, cp, rfl, hB⟩ := hp
  obtain ⟨As, cs, rfl, -, -⟩ := hX.form
  clear hX hB hE
  obtain ⟨ne, hne⟩ : ∃ n, r.early.length = n := ⟨_, rfl⟩
  obtain ⟨ns, hns⟩ : ∃ n, p.sel.length = n := ⟨_, rfl⟩
  obtain ⟨np, hnp⟩ : ∃ n, p.p.length = n := ⟨_, rfl⟩
  rw [hne] at HV ⊢
  rw [hns, hnp] at HP ⊢
  clear hne hns hnp
  unfold rcC at HV ⊢
  unfold pkC at HP ⊢
  have HW : Hid (Blk ((w.alloc (.cells #[.int .i64 r.ses, .int .i64 r.lim, .int .i64 r.next, .slice Ae ne ce] 33)).alloc (.cells #[.int .i64 p.kind, .int .i64 p.ses, .int .i64 p.seq, .int .i64 p.ack, .int .i64 p.cred, .slice As ns cs, .slice Ap np cp] 55)) (w.heap.size) 33 #[.int .i64 r.ses, .int .i64 r.lim, .int .i64 r.next, .slice Ae ne ce] ∧ Blk ((w.alloc (.cells #[.int .i64 r.ses, .int .i64 r.lim, .int .i64 r.next, .slice Ae ne ce] 33)).alloc (.cells #[.int .i64 p.kind, .int .i64 p.ses, .int .i64 p.seq, .int .i64 p.ack, .int .i64 p.cred, .slice As ns cs, .slice Ap np cp] 55)) (w.heap.size + 1) 55 #[.int .i64 p.kind, .int .i64 p.ses, .int .i64 p.seq, .int .i64 p.ack, .int .i64 p.cred, .slice As ns cs, .slice Ap np cp] ∧ Below w.heap.size w ((w.alloc (.cells #[.int .i64 r.ses, .int .i64 r.lim, .int .i64 r.next, .slice Ae ne ce] 33)).alloc (.cells #[.int .i64 p.kind, .int .i64 p.ses, .int .i64 p.seq, .int .i64 p.ack, .int .i64 p.cred, .slice As ns cs, .slice Ap np cp] 55))) := by
    have h1 := (Blk.new w 33 #[.int .i64 r.ses, .int .i64 r.lim, .int .i64 r.next, .slice Ae ne ce]).alloc (.cells #[.int .i64 p.kind, .int .i64 p.ses, .int .i64 p.seq, .int .i64 p.ack, .int .i64 p.cred, .slice As ns cs, .slice Ap np cp] 55)
    have h2 := Blk.new (w.alloc (.cells #[.int .i64 r.ses, .int .i64 r.lim, .int .i64 r.next, .slice Ae ne ce] 33)) 55 #[.int .i64 p.kind, .int .i64 p.ses, .int .i64 p.seq, .int .i64 p.ack, .int .i64 p.cred, .slice As ns cs, .slice Ap np cp]
    rw [World.size_alloc] at h2
    exact ⟨h1, h2, ((Below.refl _ w).alloc (Nat.le_refl _) _).alloc (by simp) _⟩
  have HC := Lib.hid (FewReceiver_any r _ w.heap.size ((w.alloc (.cells #[.int .i64 r.ses, .int .i64 r.lim, .int .i64 r.next, .slice Ae ne ce] 33)).alloc (.cells #[.int .i64 p.kind, .int .i64 p.ses, .int .i64 p.seq, .int .i64 p.ack, .int .i64 p.cred, .slice As ns cs, .slice Ap np cp] 55)) (HV.out.up HW.out.2.2))
  go_enter Try.func6, Try.ntmps6
  go_wp2_with fail
  generalize ((w.alloc (.cells #[.int .i64 r.ses, .int .i64 r.lim, .int .i64 r.next, .slice Ae ne ce] 33)).alloc (.cells #[.int .i64 p.kind, .int .i64 p.ses, .int .i64 p.seq, .int .i64 p.ack, .int .i64 p.cred, .slice As ns cs, .slice Ap np cp] 55)) = W at *
  refine HC.out.mono ?_
  clear HC
  rintro e w1 ⟨⟨b1, rfl, hfs⟩, hb⟩
  have HFS := Lib.hid hfs
  clear hfs
  have HW1 := Lib.hid (And.intro (HW.out.1.below hb HW.out.1.lt) (And.intro (HW.out.2.1.below hb HW.out.2.1.lt) (HW.out.2.2.trans (hb.mono HW.out.2.2.size))))
  clear hb
  have xc0 : w1.cell? ⟨w.heap.size, 0, none⟩ = some (.int .i64 r.ses) := HW1.out.1.cell 0
  have xc1 : w1.cell? ⟨w.heap.size, 1, none⟩ = some (.int .i64 r.lim) := HW1.out.1.cell 1
  have xc2 : w1.cell? ⟨w.heap.size, 2, none⟩ = some (.int .i64 r.next) := HW1.out.1.cell 2
  have xc3 : w1.cell? ⟨w.heap.size, 3, none⟩ = some (.slice Ae ne ce) := HW1.out.1.cell 3
  have xk0 : w1.cell? ⟨w.heap.size + 1, 0, none⟩ = some (.int .i64 p.kind) := HW1.out.2.1.cell 0
  have xk1 : w1.cell? ⟨w.heap.size + 1, 1, none⟩ = some (.int .i64 p.ses) := HW1.out.2.1.cell 1
  have xk2 : w1.cell? ⟨w.heap.size + 1, 2, none⟩ = some (.int .i64 p.seq) := HW1.out.2.1.cell 2
  have xk3 : w1.cell? ⟨w.heap.size + 1, 3, none⟩ = some (.int .i64 p.ack) := HW1.out.2.1.cell 3
  have xk4 : w1.cell? ⟨w.heap.size + 1, 4, none⟩ = some (.int .i64 p.cred) := HW1.out.2.1.cell 4
  have xk5 : w1.cell? ⟨w.heap.size + 1, 5, none⟩ = some (.slice As ns cs) := HW1.out.2.1.cell 5
  have xk6 : w1.cell? ⟨w.heap.size + 1, 6, none⟩ = some (.slice Ap np cp) := HW1.out.2.1.cell 6
  have lS := HW1.out.1.lt
  have lK := HW1.out.2.1.lt
  cases b1 with
  | false =>
    go_wp2_with fail
    refine (awake_any w1).mono ?_
    rintro e y3 ⟨rfl, hb⟩
    have HW9 := Lib.hid (HW1.out.2.2.trans (hb.mono HW1.out.2.2.size))
    clear hb
    go_wp2_with fail
    go_ret
    exact ⟨rfl, HW9.out⟩
  | true =>
  have HC := Lib.hid (FewPacket_any p _ w.heap.size w1 (HP.out.up HW1.out.2.2))
  go_wp2_with fail
  refine HC.out.mono ?_
  clear HC
  rintro e w2 ⟨⟨b2, rfl, hfp⟩, hb⟩
  clear xc0 xc1 xc2 xc3 xk0 xk1 xk2 xk3 xk4 xk5 xk6 lS lK
  have HFP := Lib.hid hfp
  clear hfp
  have HW2 := Lib.hid (And.intro (HW1.out.1.below hb HW1.out.1.lt) (And.intro (HW1.out.2.1.below hb HW1.out.2.1.lt) (HW1.out.2.2.trans (hb.mono HW1.out.2.2.size))))
  clear hb
  have xc0 : w2.cell? ⟨w.heap.size, 0, none⟩ = some (.int .i64 r.ses) := HW2.out.1.cell 0
  have xc1 : w2.cell? ⟨w.heap.size, 1, none⟩ = some (.int .i64 r.lim) := HW2.out.1.cell 1
  have xc2 : w2.cell? ⟨w.heap.size, 2, none⟩ = some (.int .i64 r.next) := HW2.out.1.cell 2
  have xc3 : w2.cell? ⟨w.heap.size, 3, none⟩ = some (.slice Ae ne ce) := HW2.out.1.cell 3
  have xk0 : w2.cell? ⟨w.heap.size + 1, 0, none⟩ = some (.int .i64 p.kind) := HW2.out.2.1.cell 0
  have xk1 : w2.cell? ⟨w.heap.size + 1, 1, none⟩ = some (.int .i64 p.ses) := HW2.out.2.1.cell 1
  have xk2 : w2.cell? ⟨w.heap.size + 1, 2, none⟩ = some (.int .i64 p.seq) := HW2.out.2.1.cell 2
  have xk3 : w2.cell? ⟨w.heap.size + 1, 3, none⟩ = some (.int .i64 p.ack) := HW2.out.2.1.cell 3
  have xk4 : w2.cell? ⟨w.heap.size + 1, 4, none⟩ = some (.int .i64 p.cred) := HW2.out.2.1.cell 4
  have xk5 : w2.cell? ⟨w.heap.size + 1, 5, none⟩ = some (.slice As ns cs) := HW2.out.2.1.cell 5
  have xk6 : w2.cell? ⟨w.heap.size + 1, 6, none⟩ = some (.slice Ap np cp) := HW2.out.2.1.cell 6
  have lS := HW2.out.1.lt
  have lK := HW2.out.2.1.lt
  cases b2 with
  | false =>
    go_wp2_with fail
    refine (awake_any w2).mono ?_
    rintro e y3 ⟨rfl, hb⟩
    have HW9 := Lib.hid (HW2.out.2.2.trans (hb.mono HW2.out.2.2.size))
    clear hb
    go_wp2_with fail
    go_ret
    exact ⟨rfl, HW9.out⟩
  | true =>
  have HSM : Hid (SmallR r ∧ SmallP p) := ⟨⟨by have := (HFS.out (by simp)); omega⟩, ⟨by have := (HFP.out (by simp)).2; omega, by have := (HFP.out (by simp)).1; omega⟩⟩
  obtain ⟨⟨t, tl, tk⟩, ht⟩ : ∃ q, recvR r p = q := ⟨_, rfl⟩
  have hts := recvR_small (p := p) (HFS.out trivial)
  rw [ht] at hts
  have HT := Lib.hid (And.intro ht hts)
  clear ht hts
  obtain ⟨tn, hto⟩ : ∃ n, t.early.length = n := ⟨_, rfl⟩
  obtain ⟨tq, htq⟩ : ∃ n, tl.length = n := ⟨_, rfl⟩
  obtain ⟨tm, htm⟩ : ∃ n, tk.length = n := ⟨_, rfl⟩
  have HTL := Lib.hid (And.intro hto (And.intro htq htm))
  clear hto htq htm
  have HC := Lib.hid (Receive_any r p _ _ w.heap.size w2 (HV.out.up HW2.out.2.2) HSM.out.1 (HP.out.up HW2.out.2.2) HSM.out.2 HW2.out.2.2.size)
  go_wp2_with fail
  refine HC.out.mono ?_
  clear HC
  rintro e u1 ⟨⟨sv, qv, kv, rfl, hsv, hqv, hkv⟩, hb⟩
  rw [HT.out.1] at hsv hqv hkv
  clear xc0 xc1 xc2 xc3 xk0 xk1 xk2 xk3 xk4 xk5 xk6 lS lK
  obtain ⟨ve, rfl, hE⟩ := hsv
  obtain ⟨Ae1, ce1, rfl, -, -⟩ := hE.form
  obtain ⟨Aq1, cq1, rfl, -, -⟩ := hqv.form
  obtain ⟨Ak1, ck1, rfl, -, -⟩ := hkv.form
  rw [HTL.out.1] at hE ⊢
  rw [HTL.out.2.1] at hqv ⊢
  rw [HTL.out.2.2] at hkv ⊢
  unfold rcC
  have hbx : Below u1.heap.size u1 (u1.alloc (.cells #[.int .i64 t.ses, .int .i64 t.lim, .int .i64 t.next, .slice Ae1 tn ce1] 33)) := (Below.refl _ _).alloc (Nat.le_refl _) _
  have hkx := Blk.new u1 33 #[.int .i64 t.ses, .int .i64 t.lim, .int .i64 t.next, .slice Ae1 tn ce1]
  have hbb := hb.trans (hbx.mono hb.size)
  have G1 := Lib.hid (And.intro hkx (And.intro (hE.up hbx) (And.intro (hqv.up hbx) (hkv.up hbx))))
  have HV1 := Lib.hid (And.intro (HW2.out.1.below hbb HW2.out.1.lt) (And.intro (HW2.out.2.1.below hbb HW2.out.2.1.lt) (HW2.out.2.2.trans (hbb.mono HW2.out.2.2.size))))
  clear hbx hkx hbb hE hqv hkv hb HW2
  go_upto_region 4 with fail
  obtain ⟨B1, hB1⟩ : ∃ x, x = u1.heap.size := ⟨_, rfl⟩
  rw [← hB1] at G1 ⊢
  clear hB1
  generalize (u1.alloc (.cells #[.int .i64 t.ses, .int .i64 t.lim, .int .i64 t.next, .slice Ae1 tn ce1] 33)) = V1 at *
  have xc0 : V1.cell? ⟨w.heap.size, 0, none⟩ = some (.int .i64 r.ses) := HV1.out.1.cell 0
  have xc1 : V1.cell? ⟨w.heap.size, 1, none⟩ = some (.int .i64 r.lim) := HV1.out.1.cell 1
  have xc2 : V1.cell? ⟨w.heap.size, 2, none⟩ = some (.int .i64 r.next) := HV1.out.1.cell 2
  have xc3 : V1.cell? ⟨w.heap.size, 3, none⟩ = some (.slice Ae ne ce) := HV1.out.1.cell 3
  have xk0 : V1.cell? ⟨w.heap.size + 1, 0, none⟩ = some (.int .i64 p.kind) := HV1.out.2.1.cell 0
  have xk1 : V1.cell? ⟨w.heap.size + 1, 1, none⟩ = some (.int .i64 p.ses) := HV1.out.2.1.cell 1
  have xk2 : V1.cell? ⟨w.heap.size + 1, 2, none⟩ = some (.int .i64 p.seq) := HV1.out.2.1.cell 2
  have xk3 : V1.cell? ⟨w.heap.size + 1, 3, none⟩ = some (.int .i64 p.ack) := HV1.out.2.1.cell 3
  have xk4 : V1.cell? ⟨w.heap.size + 1, 4, none⟩ = some (.int .i64 p.cred) := HV1.out.2.1.cell 4
  have xk5 : V1.cell? ⟨w.heap.size + 1, 5, none⟩ = some (.slice As ns cs) := HV1.out.2.1.cell 5
  have xk6 : V1.cell? ⟨w.heap.size + 1, 6, none⟩ = some (.slice Ap np cp) := HV1.out.2.1.cell 6
  have lS := HV1.out.1.lt
  have lK := HV1.out.2.1.lt
  have HC := Lib.hid (refReceive_any r p _ _ w.heap.size V1 (HV.out.up HV1.out.2.2) HSM.out.1 (HP.out.up HV1.out.2.2) HSM.out.2 HV1.out.2.2.size)
  go_wp2_with fail
  refine HC.out.mono ?_
  clear HC
  rintro e u2 ⟨⟨sv, qv, kv, rfl, hsv, hqv, hkv⟩, hb⟩
  rw [HT.out.1] at hsv hqv hkv
  clear xc0 xc1 xc2 xc3 xk0 xk1 xk2 xk3 xk4 xk5 xk6 lS lK
  obtain ⟨ve, rfl, hE⟩ := hsv
  obtain ⟨Ae2, ce2, rfl, -, -⟩ := hE.form
  obtain ⟨Aq2, cq2, rfl, -, -⟩ := hqv.form
  obtain ⟨Ak2, ck2, rfl, -, -⟩ := hkv.form
  rw [HTL.out.1] at hE ⊢
  rw [HTL.out.2.1] at hqv ⊢
  rw [HTL.out.2.2] at hkv ⊢
  unfold rcC
  have hbx : Below u2.heap.size u2 (u2.alloc (.cells #[.int .i64 t.ses, .int .i64 t.lim, .int .i64 t.next, .slice Ae2 tn ce2] 33)) := (Below.refl _ _).alloc (Nat.le_refl _) _
  have hkx := Blk.new u2 33 #[.int .i64 t.ses, .int .i64 t.lim, .int .i64 t.next, .slice Ae2 tn ce2]
  have hbb := hb.trans (hbx.mono hb.size)
  have G2 := Lib.hid (And.intro hkx (And.intro (hE.up hbx) (And.intro (hqv.up hbx) (hkv.up hbx))))
  have G1b := Lib.hid (And.intro (G1.out.1.below hbb G1.out.1.lt) (And.intro (G1.out.2.1.up hbb) (And.intro (G1.out.2.2.1.up hbb) (G1.out.2.2.2.up hbb))))
  clear G1
  have G1 := G1b
  clear G1b
  have HV2 := Lib.hid (And.intro (HV1.out.1.below hbb HV1.out.1.lt) (And.intro (HV1.out.2.1.below hbb HV1.out.2.1.lt) (HV1.out.2.2.trans (hbb.mono HV1.out.2.2.size))))
  clear hbx hkx hbb hE hqv hkv hb HV1
  go_upto_region 5 with fail
  obtain ⟨B2, hB2⟩ : ∃ x, x = u2.heap.size := ⟨_, rfl⟩
  rw [← hB2] at G2 ⊢
  clear hB2
  generalize (u2.alloc (.cells #[.int .i64 t.ses, .int .i64 t.lim, .int .i64 t.next, .slice Ae2 tn ce2] 33)) = V2 at *
  obtain ⟨ev, hev⟩ : ∃ n, chkR r = n := ⟨_, rfl⟩
  have H34 := Lib.hid (fun w9 (hb9 : Below V2.heap.size V2 w9) => CheckReceiver_any r (.agg #[.int .i64 r.ses, .int .i64 r.lim, .int .i64 r.next, .slice Ae ne ce]) w.heap.size w9 ((HV.out.up HV2.out.2.2).up hb9) HSM.out.1)
  have H35 := Lib.hid (fun w9 (hb9 : Below V2.heap.size V2 w9) => refCheckReceiver_any r (.agg #[.int .i64 r.ses, .int .i64 r.lim, .int .i64 r.next, .slice Ae ne ce]) w.heap.size w9 ((HV.out.up HV2.out.2.2).up hb9) HSM.out.1)
  rw [hev] at H34 H35
  clear hev
  have H16 := Lib.hid (fun w9 (hb9 : Below V2.heap.size V2 w9) => SameReceiver_true t (.agg #[.int .i64 t.ses, .int .i64 t.lim, .int .i64 t.next, .slice Ae1 tn ce1]) (.agg #[.int .i64 t.ses, .int .i64 t.lim, .int .i64 t.next, .slice Ae2 tn ce2]) w.heap.size w.heap.size w9 ⟨_, rfl, G1.out.2.1.up hb9⟩ ⟨_, rfl, G2.out.2.1.up hb9⟩ HT.out.2.r)
  have H36 := Lib.hid (fun w9 (hb9 : Below V2.heap.size V2 w9) => SamePayloads_true tl (.slice Aq1 tq cq1) (.slice Aq2 tq cq2) w.heap.size w.heap.size w9 (G1.out.2.2.1.up hb9) (G2.out.2.2.1.up hb9) HT.out.2.d)
  have H27 := Lib.hid (fun w9 (hb9 : Below V2.heap.size V2 w9) => SamePackets_true tk (.slice Ak1 tm ck1) (.slice Ak2 tm ck2) w.heap.size w.heap.size w9 (G1.out.2.2.2.up hb9) (G2.out.2.2.2.up hb9) HT.out.2.k HT.out.2.ks)
  go_region_held3 (fun w' => w'.cell? ⟨w.heap.size, 0, none⟩ = some (.int .i64 r.ses) ∧ w'.cell? ⟨w.heap.size, 1, none⟩ = some (.int .i64 r.lim) ∧ w'.cell? ⟨w.heap.size, 2, none⟩ = some (.int .i64 r.next) ∧ w'.cell? ⟨w.heap.size, 3, none⟩ = some (.slice Ae ne ce) ∧ w'.cell? ⟨B1, 0, none⟩ = some (.int .i64 t.ses) ∧ w'.cell? ⟨B1, 1, none⟩ = some (.int .i64 t.lim) ∧ w'.cell? ⟨B1, 2, none⟩ = some (.int .i64 t.next) ∧ w'.cell? ⟨B1, 3, none⟩ = some (.slice Ae1 tn ce1) ∧ w'.cell? ⟨B2, 0, none⟩ = some (.int .i64 t.ses) ∧ w'.cell? ⟨B2, 1, none⟩ = some (.int .i64 t.lim) ∧ w'.cell? ⟨B2, 2, none⟩ = some (.int .i64 t.next) ∧ w'.cell? ⟨B2, 3, none⟩ = some (.slice Ae2 tn ce2) ∧ Below V2.heap.size V2 w')
    (first
      | exact blk12 ((Below.refl _ V2).drew) HV2.out.1 G1.out.1 G2.out.1
      | (go_split_ands; refine blk12 (below_step ?_ hb') HV2.out.1 G1.out.1 G2.out.1; assumption)
      | (go_split_ands; refine ⟨?_, ?_, ?_, ?_, ?_, ?_, ?_, ?_, ?_, ?_, ?_, ?_, ?_⟩ <;> assumption))
    (first
      | (go_at_call 34; refine (H34.out _ ?_).mono ?_; (go_split_ands; assumption); rintro e w' ⟨rfl, hb'⟩)
      | (go_at_call 35; refine (H35.out _ ?_).mono ?_; (go_split_ands; assumption); rintro e w' ⟨rfl, hb'⟩)
      | (go_at_call 16; refine (H16.out _ ?_).mono ?_; (go_split_ands; assumption); rintro e w' ⟨rfl, hb'⟩)
      | (go_at_call 36; refine (H36.out _ ?_).mono ?_; (go_split_ands; assumption); rintro e w' ⟨rfl, hb'⟩)
      | (go_at_call 27; refine (H27.out _ ?_).mono ?_; (go_split_ands; assumption); rintro e w' ⟨rfl, hb'⟩)
      | (go_at_call 17; refine (awake_any _).mono ?_; rintro e w' ⟨rfl, hb'⟩))
  rename_i hS
  clear hb'
  generalize w' = w3 at *
  have hb := hS.2.2.2.2.2.2.2.2.2.2.2.2
  have HW9 := Lib.hid (HV2.out.2.2.trans (hb.mono HV2.out.2.2.size))
  clear hS hb
  go_wp2_with fail
  go_ret
  exact ⟨rfl, HW9.out⟩
end Go.Proofs.Ytanmndhdhlmjgaa
