/- The walk of Receive. Conditions: small. -/
import Derived.Test.YtanmndhdhlmjgaaWp
import Derived.Test.YtanmndhdhlmjgaaWm
import Derived.Test.YtanmndhdhlmjgaaWf
import Derived.Test.YtanmndhdhlmjgaaLibN
import Derived.Test.YtanmndhdhlmjgaaVf
namespace Go.Proofs.Ytanmndhdhlmjgaa
open Go.RowKit
/-- what Receive leaves -/
structure RecvR (w : World) (base : Nat) (r : Rm) (p : Pm) (e : Ending) (w' : World) : Prop where
  ret : ∃ rv vd vk, e = .returned (.tuple #[rv, vd, vk]) ∧ RcV w' base (recvR r p).1 rv ∧ QsV w' base (recvR r p).2.1 vd ∧ KsV w' base (recvR r p).2.2 vk
  bel : Below w.heap.size w w'
theorem ksV_one {W : World} {base g : Nat} {p : Pm} {cs : Array Value} (h : PkV W base p (.agg cs)) (hk : Blk W g 55 cs) : KsV W base [p] (.slice (some ⟨g, 0, none⟩) 1 1) := by
  obtain ⟨vs, vp, hcs, hX, A, c, rfl, hB⟩ := h
  injection hcs with hcs
  subst hcs
  let e : Ke := { kind := p.kind, ses := p.ses, seq := p.seq, ack := p.ack, cred := p.cred, vs := vs, sel := p.sel, A := A, c := c, p := p.p }
  refine ⟨[e], ⟨⟨_, _, rfl, Nat.le_refl _, by unfold maxLen; decide, ?_⟩, fun x hx => ?_⟩, rfl⟩
  · have h5 := Rd.of_blk (base := base) (sz := 7) (n := 1) hk rfl
    simpa [encK, pkC, e] using h5
  · rw [List.mem_singleton] at hx
    subst hx
    exact ⟨hX, hB⟩
set_option maxRecDepth 100000 in
set_option maxHeartbeats 1000000 in
set_option linter.unusedSimpArgs false in
theorem Receive_any (r : Rm) (p : Pm) (v pv : Value) (base : Nat) (w : World) (hv : RcV w base r v) (hs : SmallR r) (hp : PkV w base p pv) (hsp : SmallP p) (hbw : base ≤ w.heap.size) :
    Calls Try.prog 32 #[v, pv] w (RecvR w base r p) := by
  have HV := Lib.hid hv
  have HP := Lib.hid hp
  obtain ⟨ve, rfl, hA⟩ := hv
  obtain ⟨Ae0, ce, rfl, hlc, hcm⟩ := hA.form
  obtain ⟨vs, vp, rfl, hX, Ap, cp, rfl, hB⟩ := hp
  obtain ⟨As, cs, rfl, hls, hcs⟩ := hX.form
  clear hA hX hB hlc hcm hls hcs
  obtain ⟨no, hno⟩ : ∃ n, r.early.length = n := ⟨_, rfl⟩
  obtain ⟨ns, hns⟩ : ∃ n, p.sel.length = n := ⟨_, rfl⟩
  obtain ⟨np, hnp⟩ : ∃ n, p.p.length = n := ⟨_, rfl⟩
  rw [hno] at HV ⊢
  rw [hns, hnp] at HP ⊢
  clear hno hns hnp
  have HSM := Lib.hid (And.intro hs hsp)
  clear hs hsp
  unfold rcC at HV ⊢
  unfold pkC at HP ⊢
  have HW : Hid (Blk (((w.alloc (.cells #[.int .i64 r.ses, .int .i64 r.lim, .int .i64 r.next, .slice Ae0 no ce] 33)).alloc (.cells #[.int .i64 p.kind, .int .i64 p.ses, .int .i64 p.seq, .int .i64 p.ack, .int .i64 p.cred, .slice As ns cs, .slice Ap np cp] 55)).alloc (.cells #[.int .i64 0, .int .i64 0, .int .i64 0, .slice none 0 0] 33)) (w.heap.size) 33 #[.int .i64 r.ses, .int .i64 r.lim, .int .i64 r.next, .slice Ae0 no ce] ∧ Blk (((w.alloc (.cells #[.int .i64 r.ses, .int .i64 r.lim, .int .i64 r.next, .slice Ae0 no ce] 33)).alloc (.cells #[.int .i64 p.kind, .int .i64 p.ses, .int .i64 p.seq, .int .i64 p.ack, .int .i64 p.cred, .slice As ns cs, .slice Ap np cp] 55)).alloc (.cells #[.int .i64 0, .int .i64 0, .int .i64 0, .slice none 0 0] 33)) (w.heap.size + 1) 55 #[.int .i64 p.kind, .int .i64 p.ses, .int .i64 p.seq, .int .i64 p.ack, .int .i64 p.cred, .slice As ns cs, .slice Ap np cp] ∧ Blk (((w.alloc (.cells #[.int .i64 r.ses, .int .i64 r.lim, .int .i64 r.next, .slice Ae0 no ce] 33)).alloc (.cells #[.int .i64 p.kind, .int .i64 p.ses, .int .i64 p.seq, .int .i64 p.ack, .int .i64 p.cred, .slice As ns cs, .slice Ap np cp] 55)).alloc (.cells #[.int .i64 0, .int .i64 0, .int .i64 0, .slice none 0 0] 33)) (w.heap.size + 1 + 1) 33 #[.int .i64 0, .int .i64 0, .int .i64 0, .slice none 0 0] ∧ Below w.heap.size w (((w.alloc (.cells #[.int .i64 r.ses, .int .i64 r.lim, .int .i64 r.next, .slice Ae0 no ce] 33)).alloc (.cells #[.int .i64 p.kind, .int .i64 p.ses, .int .i64 p.seq, .int .i64 p.ack, .int .i64 p.cred, .slice As ns cs, .slice Ap np cp] 55)).alloc (.cells #[.int .i64 0, .int .i64 0, .int .i64 0, .slice none 0 0] 33))) := by
    have h1 := ((Blk.new w 33 #[.int .i64 r.ses, .int .i64 r.lim, .int .i64 r.next, .slice Ae0 no ce]).alloc (.cells #[.int .i64 p.kind, .int .i64 p.ses, .int .i64 p.seq, .int .i64 p.ack, .int .i64 p.cred, .slice As ns cs, .slice Ap np cp] 55)).alloc (.cells #[.int .i64 0, .int .i64 0, .int .i64 0, .slice none 0 0] 33)
    have h2 := (Blk.new (w.alloc (.cells #[.int .i64 r.ses, .int .i64 r.lim, .int .i64 r.next, .slice Ae0 no ce] 33)) 55 #[.int .i64 p.kind, .int .i64 p.ses, .int .i64 p.seq, .int .i64 p.ack, .int .i64 p.cred, .slice As ns cs, .slice Ap np cp]).alloc (.cells #[.int .i64 0, .int .i64 0, .int .i64 0, .slice none 0 0] 33)
    have h3 := Blk.new ((w.alloc (.cells #[.int .i64 r.ses, .int .i64 r.lim, .int .i64 r.next, .slice Ae0 no ce] 33)).alloc (.cells #[.int .i64 p.kind, .int .i64 p.ses, .int .i64 p.seq, .int .i64 p.ack, .int .i64 p.cred, .slice As ns cs, .slice Ap np cp] 55)) 33 #[.int .i64 0, .int .i64 0, .int .i64 0, .slice none 0 0]
    rw [World.size_alloc] at h2 h3
    rw [World.size_alloc] at h3
    exact ⟨h1, h2, h3, (((Below.refl _ w).alloc (Nat.le_refl _) _).alloc (by simp) _).alloc (by simp; omega) _⟩
  obtain ⟨ev, hev⟩ : ∃ n, chkR r = n := ⟨_, rfl⟩
  obtain ⟨pe, hpe⟩ : ∃ n, chkP p = n := ⟨_, rfl⟩
  have hc1 := CheckReceiver_any r _ base (((w.alloc (.cells #[.int .i64 r.ses, .int .i64 r.lim, .int .i64 r.next, .slice Ae0 no ce] 33)).alloc (.cells #[.int .i64 p.kind, .int .i64 p.ses, .int .i64 p.seq, .int .i64 p.ack, .int .i64 p.cred, .slice As ns cs, .slice Ap np cp] 55)).alloc (.cells #[.int .i64 0, .int .i64 0, .int .i64 0, .slice none 0 0] 33)) (HV.out.up HW.out.2.2.2) HSM.out.1
  rw [hev] at hc1
  have HC1 := Lib.hid hc1
  have HE := Lib.hid (And.intro hev hpe)
  clear hc1 hev hpe
  go_enter Try.func32, Try.ntmps32
  go_wp2_with fail
  generalize (((w.alloc (.cells #[.int .i64 r.ses, .int .i64 r.lim, .int .i64 r.next, .slice Ae0 no ce] 33)).alloc (.cells #[.int .i64 p.kind, .int .i64 p.ses, .int .i64 p.seq, .int .i64 p.ack, .int .i64 p.cred, .slice As ns cs, .slice Ap np cp] 55)).alloc (.cells #[.int .i64 0, .int .i64 0, .int .i64 0, .slice none 0 0] 33)) = W at *
  refine HC1.out.mono ?_
  clear HC1
  rintro e w1 ⟨rfl, hb1⟩
  have HW1 := Lib.hid (And.intro (HW.out.1.below hb1 HW.out.1.lt) (And.intro (HW.out.2.1.below hb1 HW.out.2.1.lt) (And.intro (HW.out.2.2.1.below hb1 HW.out.2.2.1.lt) (HW.out.2.2.2.trans (hb1.mono HW.out.2.2.2.size)))))
  clear hb1
  have xc0 : w1.cell? ⟨w.heap.size, 0, none⟩ = some (.int .i64 r.ses) := HW1.out.1.cell 0
  have xc1 : w1.cell? ⟨w.heap.size, 1, none⟩ = some (.int .i64 r.lim) := HW1.out.1.cell 1
  have xc2 : w1.cell? ⟨w.heap.size, 2, none⟩ = some (.int .i64 r.next) := HW1.out.1.cell 2
  have xc3 : w1.cell? ⟨w.heap.size, 3, none⟩ = some (.slice Ae0 no ce) := HW1.out.1.cell 3
  have xk0 : w1.cell? ⟨w.heap.size + 1, 0, none⟩ = some (.int .i64 p.kind) := HW1.out.2.1.cell 0
  have xk1 : w1.cell? ⟨w.heap.size + 1, 1, none⟩ = some (.int .i64 p.ses) := HW1.out.2.1.cell 1
  have xk2 : w1.cell? ⟨w.heap.size + 1, 2, none⟩ = some (.int .i64 p.seq) := HW1.out.2.1.cell 2
  have xk3 : w1.cell? ⟨w.heap.size + 1, 3, none⟩ = some (.int .i64 p.ack) := HW1.out.2.1.cell 3
  have xk4 : w1.cell? ⟨w.heap.size + 1, 4, none⟩ = some (.int .i64 p.cred) := HW1.out.2.1.cell 4
  have xk5 : w1.cell? ⟨w.heap.size + 1, 5, none⟩ = some (.slice As ns cs) := HW1.out.2.1.cell 5
  have xk6 : w1.cell? ⟨w.heap.size + 1, 6, none⟩ = some (.slice Ap np cp) := HW1.out.2.1.cell 6
  have xd0 : w1.cell? ⟨w.heap.size + 1 + 1, 0, none⟩ = some (.int .i64 0) := HW1.out.2.2.1.cell 0
  have xd1 : w1.cell? ⟨w.heap.size + 1 + 1, 1, none⟩ = some (.int .i64 0) := HW1.out.2.2.1.cell 1
  have xd2 : w1.cell? ⟨w.heap.size + 1 + 1, 2, none⟩ = some (.int .i64 0) := HW1.out.2.2.1.cell 2
  have xd3 : w1.cell? ⟨w.heap.size + 1 + 1, 3, none⟩ = some (.slice none 0 0) := HW1.out.2.2.1.cell 3
  have xy0 := HW1.out.2.2.1.frozen 0
  have xy1 := HW1.out.2.2.1.frozen 1
  have xy2 := HW1.out.2.2.1.frozen 2
  have xy3 := HW1.out.2.2.1.frozen 3
  have xz0 := HW1.out.1.frozen 0
  have xz1 := HW1.out.1.frozen 1
  have xz2 := HW1.out.1.frozen 2
  have xz3 := HW1.out.1.frozen 3
  have lR := HW1.out.1.lt
  have lK := HW1.out.2.1.lt
  have lO := HW1.out.2.2.1.lt
  by_cases he : ev = 0
  rotate_left 1
  · have k0 : ((ev : Int) != 0) = true := by simpa using he
    have HM : Hid (recvR r p = (r, [], [])) := by show _ = _; unfold recvR; rw [if_pos (.inl (by rw [HE.out.1]; exact he))]
    have hkF := set33_blk HW1.out.2.2.1 (.int .i64 r.ses) (.int .i64 r.lim) (.int .i64 r.next) (.slice Ae0 no ce)
    have hbF := set33_below HW1.out.2.2.2 (g := w.heap.size + 1 + 1) (by omega) (.int .i64 r.ses) (.int .i64 r.lim) (.int .i64 r.next) (.slice Ae0 no ce)
    have HF := Lib.hid (And.intro hkF hbF)
    clear hkF hbF
    go_wp2_with fail
    refine bodyPost_ret (results_cell_tmp2 (t := 33) rfl _ _ (w.heap.size + 1 + 1) _ _ rfl HF.out.1 Try.underlying33 rfl (by kernel_rfl)) rfl ?_
    exact ⟨⟨_, _, _, rfl, by rw [HM.out]; exact HV.out.up HF.out.2, by rw [HM.out]; exact qsV_nil _ _, by rw [HM.out]; exact ksV_nil _ _⟩, HF.out.2⟩
  have k0 : ((ev : Int) != 0) = false := by simp [he]
  have HE0 := Lib.hid he
  clear he
  have hc2 := PCheck_any p _ base w1 (HP.out.up HW1.out.2.2.2) HSM.out.2
  rw [HE.out.2] at hc2
  have HC2 := Lib.hid hc2
  clear hc2
  go_wp2_with fail
  refine HC2.out.mono ?_
  clear HC2
  rintro e w2 ⟨rfl, hb1⟩
  clear xc0 xc1 xc2 xc3 xk0 xk1 xk2 xk3 xk4 xk5 xk6 xd0 xd1 xd2 xd3 xy0 xy1 xy2 xy3 xz0 xz1 xz2 xz3 lR lK lO
  have HW2 := Lib.hid (And.intro (HW1.out.1.below hb1 HW1.out.1.lt) (And.intro (HW1.out.2.1.below hb1 HW1.out.2.1.lt) (And.intro (HW1.out.2.2.1.below hb1 HW1.out.2.2.1.lt) (HW1.out.2.2.2.trans (hb1.mono HW1.out.2.2.2.size)))))
  clear hb1
  have xc0 : w2.cell? ⟨w.heap.size, 0, none⟩ = some (.int .i64 r.ses) := HW2.out.1.cell 0
  have xc1 : w2.cell? ⟨w.heap.size, 1, none⟩ = some (.int .i64 r.lim) := HW2.out.1.cell 1
  have xc2 : w2.cell? ⟨w.heap.size, 2, none⟩ = some (.int .i64 r.next) := HW2.out.1.cell 2
  have xc3 : w2.cell? ⟨w.heap.size, 3, none⟩ = some (.slice Ae0 no ce) := HW2.out.1.cell 3
  have xk0 : w2.cell? ⟨w.heap.size + 1, 0, none⟩ = some (.int .i64 p.kind) := HW2.out.2.1.cell 0
  have xk1 : w2.cell? ⟨w.heap.size + 1, 1, none⟩ = some (.int .i64 p.ses) := HW2.out.2.1.cell 1
  have xk2 : w2.cell? ⟨w.heap.size + 1, 2, none⟩ = some (.int .i64 p.seq) := HW2.out.2.1.cell 2
  have xk3 : w2.cell? ⟨w.heap.size + 1, 3, none⟩ = some (.int .i64 p.ack) := HW2.out.2.1.cell 3
  have xk4 : w2.cell? ⟨w.heap.size + 1, 4, none⟩ = some (.int .i64 p.cred) := HW2.out.2.1.cell 4
  have xk5 : w2.cell? ⟨w.heap.size + 1, 5, none⟩ = some (.slice As ns cs) := HW2.out.2.1.cell 5
  have xk6 : w2.cell? ⟨w.heap.size + 1, 6, none⟩ = some (.slice Ap np cp) := HW2.out.2.1.cell 6
  have xd0 : w2.cell? ⟨w.heap.size + 1 + 1, 0, none⟩ = some (.int .i64 0) := HW2.out.2.2.1.cell 0
  have xd1 : w2.cell? ⟨w.heap.size + 1 + 1, 1, none⟩ = some (.int .i64 0) := HW2.out.2.2.1.cell 1
  have xd2 : w2.cell? ⟨w.heap.size + 1 + 1, 2, none⟩ = some (.int .i64 0) := HW2.out.2.2.1.cell 2
  have xd3 : w2.cell? ⟨w.heap.size + 1 + 1, 3, none⟩ = some (.slice none 0 0) := HW2.out.2.2.1.cell 3
  have xy0 := HW2.out.2.2.1.frozen 0
  have xy1 := HW2.out.2.2.1.frozen 1
  have xy2 := HW2.out.2.2.1.frozen 2
  have xy3 := HW2.out.2.2.1.frozen 3
  have xz0 := HW2.out.1.frozen 0
  have xz1 := HW2.out.1.frozen 1
  have xz2 := HW2.out.1.frozen 2
  have xz3 := HW2.out.1.frozen 3
  have lR := HW2.out.1.lt
  have lK := HW2.out.2.1.lt
  have lO := HW2.out.2.2.1.lt
  by_cases hp : pe = 0
  rotate_left 1
  · have k1 : ((pe : Int) != 0) = true := by simpa using hp
    have HM : Hid (recvR r p = (r, [], [])) := by show _ = _; unfold recvR; rw [if_pos (.inr (.inl (by rw [HE.out.2]; exact hp)))]
    have hkF := set33_blk HW2.out.2.2.1 (.int .i64 r.ses) (.int .i64 r.lim) (.int .i64 r.next) (.slice Ae0 no ce)
    have hbF := set33_below HW2.out.2.2.2 (g := w.heap.size + 1 + 1) (by omega) (.int .i64 r.ses) (.int .i64 r.lim) (.int .i64 r.next) (.slice Ae0 no ce)
    have HF := Lib.hid (And.intro hkF hbF)
    clear hkF hbF
    go_wp2_with fail
    refine bodyPost_ret (results_cell_tmp2 (t := 33) rfl _ _ (w.heap.size + 1 + 1) _ _ rfl HF.out.1 Try.underlying33 rfl (by kernel_rfl)) rfl ?_
    exact ⟨⟨_, _, _, rfl, by rw [HM.out]; exact HV.out.up HF.out.2, by rw [HM.out]; exact qsV_nil _ _, by rw [HM.out]; exact ksV_nil _ _⟩, HF.out.2⟩
  have k1 : ((pe : Int) != 0) = false := by simp [hp]
  have HP0 := Lib.hid hp
  clear hp
  by_cases hk : p.kind = 1
  · have k2 : (p.kind == 1) = true := by simpa using hk
    have HK := Lib.hid hk
    clear hk
    have HM : Hid (recvR r p = (r, [], [])) := by show _ = _; unfold recvR; rw [if_pos (.inr (.inr (.inl HK.out)))]
    have hkF := set33_blk HW2.out.2.2.1 (.int .i64 r.ses) (.int .i64 r.lim) (.int .i64 r.next) (.slice Ae0 no ce)
    have hbF := set33_below HW2.out.2.2.2 (g := w.heap.size + 1 + 1) (by omega) (.int .i64 r.ses) (.int .i64 r.lim) (.int .i64 r.next) (.slice Ae0 no ce)
    have HF := Lib.hid (And.intro hkF hbF)
    clear hkF hbF
    go_wp2_with fail
    refine bodyPost_ret (results_cell_tmp2 (t := 33) rfl _ _ (w.heap.size + 1 + 1) _ _ rfl HF.out.1 Try.underlying33 rfl (by kernel_rfl)) rfl ?_
    exact ⟨⟨_, _, _, rfl, by rw [HM.out]; exact HV.out.up HF.out.2, by rw [HM.out]; exact qsV_nil _ _, by rw [HM.out]; exact ksV_nil _ _⟩, HF.out.2⟩
  have k2 : (p.kind == 1) = false := by simpa using hk
  have HK1 := Lib.hid hk
  clear hk
  by_cases hd : p.ses = r.ses
  rotate_left 1
  · have k3 : (p.ses != r.ses) = true := by simpa using hd
    have HK := Lib.hid hd
    clear hd
    have HM : Hid (recvR r p = (r, [], [])) := by show _ = _; unfold recvR; rw [if_pos (.inr (.inr (.inr HK.out)))]
    have hkF := set33_blk HW2.out.2.2.1 (.int .i64 r.ses) (.int .i64 r.lim) (.int .i64 r.next) (.slice Ae0 no ce)
    have hbF := set33_below HW2.out.2.2.2 (g := w.heap.size + 1 + 1) (by omega) (.int .i64 r.ses) (.int .i64 r.lim) (.int .i64 r.next) (.slice Ae0 no ce)
    have HF := Lib.hid (And.intro hkF hbF)
    clear hkF hbF
    go_wp2_with fail
    refine bodyPost_ret (results_cell_tmp2 (t := 33) rfl _ _ (w.heap.size + 1 + 1) _ _ rfl HF.out.1 Try.underlying33 rfl (by kernel_rfl)) rfl ?_
    exact ⟨⟨_, _, _, rfl, by rw [HM.out]; exact HV.out.up HF.out.2, by rw [HM.out]; exact qsV_nil _ _, by rw [HM.out]; exact ksV_nil _ _⟩, HF.out.2⟩
  have k3 : (p.ses != r.ses) = false := by simpa using hd
  have HK3 := Lib.hid hd
  clear hd
  have hc3 := copyReceiver_any r _ base w2 (HV.out.up HW2.out.2.2.2) HSM.out.1 (fun a ha => Nat.le_trans (((chkR_ok r).1 (by rw [HE.out.1]; exact HE0.out)).ear.len a ha) (by omega)) (Nat.le_trans hbw HW2.out.2.2.2.size)
  have HC3 := Lib.hid hc3
  clear hc3
  go_wp2_with fail
  refine HC3.out.mono ?_
  clear HC3
  rintro e w3 ⟨⟨v3, es3, rfl, hO3, hem3⟩, hb1⟩
  clear xc0 xc1 xc2 xc3 xk0 xk1 xk2 xk3 xk4 xk5 xk6 xd0 xd1 xd2 xd3 xy0 xy1 xy2 xy3 xz0 xz1 xz2 xz3 lR lK lO
  have HW3 := Lib.hid (And.intro (HW2.out.1.below hb1 HW2.out.1.lt) (And.intro (HW2.out.2.1.below hb1 HW2.out.2.1.lt) (And.intro (HW2.out.2.2.1.below hb1 HW2.out.2.2.1.lt) (HW2.out.2.2.2.trans (hb1.mono HW2.out.2.2.2.size)))))
  clear hb1
  obtain ⟨A3, c3, rfl, -, -⟩ := hO3.vform
  obtain ⟨n3, hn3⟩ : ∃ n, es3.length = n := ⟨_, rfl⟩
  rw [hn3] at hO3 ⊢
  clear hn3
  unfold rcC
  have xc0 : w3.cell? ⟨w.heap.size, 0, none⟩ = some (.int .i64 r.ses) := HW3.out.1.cell 0
  have xc1 : w3.cell? ⟨w.heap.size, 1, none⟩ = some (.int .i64 r.lim) := HW3.out.1.cell 1
  have xc2 : w3.cell? ⟨w.heap.size, 2, none⟩ = some (.int .i64 r.next) := HW3.out.1.cell 2
  have xc3 : w3.cell? ⟨w.heap.size, 3, none⟩ = some (.slice Ae0 no ce) := HW3.out.1.cell 3
  have xz0 := HW3.out.1.frozen 0
  have xz1 := HW3.out.1.frozen 1
  have xz2 := HW3.out.1.frozen 2
  have xz3 := HW3.out.1.frozen 3
  have lR := HW3.out.1.lt
  have hkR := set33_blk HW3.out.1 (.int .i64 r.ses) (.int .i64 r.lim) (.int .i64 r.next) (.slice A3 n3 c3)
  have hkK := set33_other HW3.out.2.1 (g := w.heap.size) (by omega) (.int .i64 r.ses) (.int .i64 r.lim) (.int .i64 r.next) (.slice A3 n3 c3)
  have hkO := set33_other HW3.out.2.2.1 (g := w.heap.size) (by omega) (.int .i64 r.ses) (.int .i64 r.lim) (.int .i64 r.next) (.slice A3 n3 c3)
  have hT0 := set33_turn HW3.out.1 hbw (.int .i64 r.ses) (.int .i64 r.lim) (.int .i64 r.next) (.slice A3 n3 c3)
  have hb0 := set33_below HW3.out.2.2.2 (g := w.heap.size) (Nat.le_refl _) (.int .i64 r.ses) (.int .i64 r.lim) (.int .i64 r.next) (.slice A3 n3 c3)
  have hO0 := (hO3.turn hT0 (by simp) (aeR_ab (by simp))).low HW2.out.2.2.2.size
  have hROk := (chkR_ok r).1 (by rw [HE.out.1]; exact HE0.out)
  have hsqb : ∀ a ∈ r.early, 0 ≤ a.seq ∧ a.seq ≤ 2147483648 := fun a ha => by
    have h1 := hROk.ear.lo a ha
    have h2 := hROk.ear.hi a ha
    have h3 := hROk.next
    omega
  have hlen : r.early.length ≤ 64 := by have := hROk.few; have := hROk.lim; omega
  have hnx := hROk.next
  have hcpk := chkP_ok (p := p) (by rw [HE.out.2]; exact HP0.out)
  have HV0 := Lib.hid (And.intro hkR (And.intro hkK (And.intro hkO (And.intro hb0 (And.intro hO0 hem3)))))
  have HRO := Lib.hid (And.intro hsqb (And.intro hlen (And.intro hnx hcpk.1)))
  clear hkR hkK hkO hT0 hb0 hO0 hem3 hO3 hROk hsqb hlen hnx hcpk
  go_upto_region 4 with fail
  generalize ((((w3.setCell ⟨w.heap.size, 0, none⟩ (.int .i64 r.ses)).setCell ⟨w.heap.size, 1, none⟩ (.int .i64 r.lim)).setCell ⟨w.heap.size, 2, none⟩ (.int .i64 r.next)).setCell ⟨w.heap.size, 3, none⟩ (.slice A3 n3 c3)) = V at *
  clear xc0 xc1 xc2 xc3 xz0 xz1 xz2 xz3 lR
  have xk0 : V.cell? ⟨w.heap.size + 1, 0, none⟩ = some (.int .i64 p.kind) := HV0.out.2.1.cell 0
  have xk1 : V.cell? ⟨w.heap.size + 1, 1, none⟩ = some (.int .i64 p.ses) := HV0.out.2.1.cell 1
  have xk2 : V.cell? ⟨w.heap.size + 1, 2, none⟩ = some (.int .i64 p.seq) := HV0.out.2.1.cell 2
  have xk3 : V.cell? ⟨w.heap.size + 1, 3, none⟩ = some (.int .i64 p.ack) := HV0.out.2.1.cell 3
  have xk4 : V.cell? ⟨w.heap.size + 1, 4, none⟩ = some (.int .i64 p.cred) := HV0.out.2.1.cell 4
  have xk5 : V.cell? ⟨w.heap.size + 1, 5, none⟩ = some (.slice As ns cs) := HV0.out.2.1.cell 5
  have xk6 : V.cell? ⟨w.heap.size + 1, 6, none⟩ = some (.slice Ap np cp) := HV0.out.2.1.cell 6
  have lK := HV0.out.2.1.lt
  by_cases hk0 : p.kind = 0
  · have k4 : (p.kind == 0) = true := by simpa using hk0
    have HK0 := Lib.hid hk0
    clear hk0
    go_wp2_with fail
    refine (keep_any r p _ _ es3 (w.heap.size) base (w.heap.size) V ⟨HV0.out.1, HV0.out.2.2.2.2.1, HV0.out.2.2.2.2.2⟩ (HP.out.up HV0.out.2.2.2.1) (by rw [HE.out.1]; exact HE0.out) (by rw [HE.out.2]; exact HP0.out) hbw hbw HV0.out.2.2.2.1.size).mono ?_
    rintro e w4 ⟨rfl, ⟨ve4, es4, hRC4⟩, hT4, hoth4⟩
    obtain ⟨A4, c4, rfl, -, -⟩ := hRC4.own.vform
    have HO4 := Lib.hid (hoth4 _ _ (by omega) HV0.out.2.2.1)
    have HB4 := Lib.hid (Turn.belowT HV0.out.2.2.2.1 (hT4 (w.heap.size) (Nat.le_refl _) (Nat.le_refl _)) (Nat.le_refl _) HV0.out.2.2.2.1.size)
    have HRC4 := Lib.hid hRC4
    have HR1 : Hid ((keepR r p).early.length ≤ 1000 ∧ (0 ≤ (keepR r p).next ∧ (keepR r p).next ≤ 1073741824) ∧ ∀ a ∈ (keepR r p).early, 0 ≤ a.seq ∧ a.seq ≤ 2147483648) := by
      refine ⟨by have := keep_len r p; have := HRO.out.2.1; omega, by rw [(keep_next r p).1]; exact HRO.out.2.2.1, fun a ha => ?_⟩
      rcases keep_mem ha with rfl | ha
      · have := HRO.out.2.2.2; dsimp only; omega
      · exact HRO.out.1 a ha
    have HK5 : Hid (recvR r p = ({ keepR r p with next := (deliv (keepR r p).next (keepR r p).early).2.1, early := (deliv (keepR r p).next (keepR r p).early).2.2 }, (deliv (keepR r p).next (keepR r p).early).1, [answP { keepR r p with next := (deliv (keepR r p).next (keepR r p).early).2.1, early := (deliv (keepR r p).next (keepR r p).early).2.2 }])) := by
      show _ = _
      unfold recvR
      rw [if_neg (by rw [HE.out.1, HE.out.2]; intro h; rcases h with h | h | h | h; exact h HE0.out; exact h HP0.out; exact HK1.out h; exact h HK3.out), if_pos HK0.out]
    clear hRC4 hT4 hoth4 xk0 xk1 xk2 xk3 xk4 xk5 xk6 lK
    generalize keepR r p = r1 at *
    go_wp2_with fail
    refine (deliver_any r1 _ _ (w.heap.size) base (w.heap.size) w4 HRC4.out (by have h9 := HRC4.out.em; have h8 := congrArg List.length h9; rw [List.length_map] at h8; have := HR1.out.1; omega) HR1.out.2.1 hbw hbw HB4.out.size).mono ?_
    rintro e w5 ⟨⟨vq, qs, rfl, hOq, hqm⟩, ⟨ve5, es5, hk5, hv5, hem5⟩, hT5, hoth5⟩
    obtain ⟨dl, nn, ee, hdd⟩ : ∃ a b c, deliv r1.next r1.early = (a, b, c) := ⟨_, _, _, rfl⟩
    have hmm : ∀ a ∈ ee, a ∈ r1.early := fun a ha => deliv_mem r1.early r1.next (by rw [hdd]; exact ha)
    have hll : ee.length ≤ r1.early.length := by have h := deliv_len r1.early r1.next; rw [hdd] at h; exact h
    rw [hdd] at hqm hk5 hem5 HK5
    dsimp only at hqm hk5 hem5 HK5
    obtain ⟨A5, c5, rfl, -, -, -⟩ := hv5.val
    obtain ⟨Aq, cq, rfl, -, -⟩ := hOq.vform
    obtain ⟨n5, hn5⟩ : ∃ n, es5.length = n := ⟨_, rfl⟩
    rw [hn5] at hk5 hv5
    clear hn5
    obtain ⟨nq, hnq⟩ : ∃ n, qs.length = n := ⟨_, rfl⟩
    rw [hnq] at hOq ⊢
    clear hnq
    have hO5 := hoth5 _ _ (by omega) HO4.out
    have hb5 := Turn.belowT HB4.out (hT5 (w.heap.size) (Nat.le_refl _) (Nat.le_refl _)) (Nat.le_refl _) HB4.out.size
    have xc0 : w5.cell? ⟨w.heap.size, 0, none⟩ = some (.int .i64 r1.ses) := hk5.cell 0
    have xc1 : w5.cell? ⟨w.heap.size, 1, none⟩ = some (.int .i64 r1.lim) := hk5.cell 1
    have xc2 : w5.cell? ⟨w.heap.size, 2, none⟩ = some (.int .i64 nn) := hk5.cell 2
    have xc3 : w5.cell? ⟨w.heap.size, 3, none⟩ = some (.slice A5 n5 c5) := hk5.cell 3
    have xd0 : w5.cell? ⟨w.heap.size + 1 + 1, 0, none⟩ = some (.int .i64 0) := hO5.cell 0
    have xd1 : w5.cell? ⟨w.heap.size + 1 + 1, 1, none⟩ = some (.int .i64 0) := hO5.cell 1
    have xd2 : w5.cell? ⟨w.heap.size + 1 + 1, 2, none⟩ = some (.int .i64 0) := hO5.cell 2
    have xd3 : w5.cell? ⟨w.heap.size + 1 + 1, 3, none⟩ = some (.slice none 0 0) := hO5.cell 3
    have xy0 := hO5.frozen 0
    have xy1 := hO5.frozen 1
    have xy2 := hO5.frozen 2
    have xy3 := hO5.frozen 3
    have lR := hk5.lt
    have lO := hO5.lt
    have H5 := Lib.hid (And.intro hk5 (And.intro hO5 (And.intro hv5 (And.intro hem5 (And.intro hOq (And.intro hqm hb5))))))
    clear hk5 hO5 hv5 hem5 hOq hqm hb5 hoth5 hT5
    have HML := Lib.hid (And.intro hmm (And.intro hll hdd))
    clear hmm hll hdd
    go_upto_region 7 with fail
    refine wp_region_lexV (.op 0 1 (.op 1 1 (.op 2 1 (.op 3 0 (.two 4 5 (.op 5 0 (.op 6 1 (.op 7 1 .nil))) (.op 6 1 (.op 4 0 (.op 7 1 .nil)))))))) [] (fun w9 => w9.cell? ⟨w.heap.size, 0, none⟩ = some (.int .i64 r1.ses) ∧ w9.cell? ⟨w.heap.size, 1, none⟩ = some (.int .i64 r1.lim) ∧ w9.cell? ⟨w.heap.size, 2, none⟩ = some (.int .i64 nn) ∧ w9.cell? ⟨w.heap.size, 3, none⟩ = some (.slice A5 n5 c5)) (by kernel_rfl) (by kernel_rfl) (by kernel_rfl) (by kernel_rfl) (by kernel_rfl) ⟨xc0, xc1, xc2, xc3⟩ ?_
    repeat ((first | (refine lexV_read rfl (by rfl) (by first | exact wanted_none rfl | exact wanted_some (b := true) (c := true) rfl rfl rfl | exact wanted_some (b := false) (c := false) rfl rfl rfl) (by intro w9 hS9; (try dsimp only at hS9); go_simp <;> with_reducible rfl) ?_) | (refine lexV_skip rfl (fun _ => trivial) (by first | exact wanted_some (b := true) (c := false) rfl rfl rfl | exact wanted_some (b := false) (c := true) rfl rfl rfl) ?_) | (refine lexV_builtin rfl (fun _ => trivial) (by first | exact wanted_none rfl | exact wanted_some (b := true) (c := true) rfl rfl rfl | exact wanted_some (b := false) (c := false) rfl rfl rfl) (by intro w9 hS9; (try dsimp only at hS9); go_simp <;> with_reducible rfl) ?_)); (try simp only [Act.put, List.getElem_toArray, List.getElem_cons_succ, List.getElem_cons_zero, List.setIfInBounds_toArray, List.set_cons_zero, List.set_cons_succ]))
    refine lexV_eff rfl (fun _ => trivial) ?_
    go_simp
    have hb5d : Below w.heap.size w w5.drew := H5.out.2.2.2.2.2.2.drew
    have hRc5 : RcV w5.drew base ({ r1 with next := nn, early := ee } : Rm) (.agg #[.int .i64 r1.ses, .int .i64 r1.lim, .int .i64 nn, .slice A5 n5 c5]) := by
      refine ⟨_, rfl, es5, ?_, H5.out.2.2.2.1⟩
      exact H5.out.2.2.1.up (Below.refl _ w5).drew (aeR_ab (by simp))
    refine CallsIn.mono ((callsIn_wide (n := 0)).2 (answer_any ({ r1 with next := nn, early := ee } : Rm) _ base w5.drew hRc5 (Nat.le_trans HML.out.2.1 (Nat.le_trans HR1.out.1 (by omega))) (fun a ha => HR1.out.2.2 a (HML.out.1 a ha)) (Nat.le_trans hbw hb5d.size))) ?_
    rintro e w6 ⟨⟨pv6, rfl, hpv6⟩, hb6⟩
    obtain ⟨vs6, vp6, rfl, hX6, A6, c6, rfl, hB6⟩ := hpv6
    have HPV := Lib.hid (show PkV w6 base (answP ({ r1 with next := nn, early := ee } : Rm)) (.agg (pkC (answP ({ r1 with next := nn, early := ee } : Rm)) vs6 (.slice A6 (answP ({ r1 with next := nn, early := ee } : Rm)).p.length c6))) from ⟨_, _, rfl, hX6, _, _, rfl, hB6⟩)
    obtain ⟨As6, cs6, rfl, -, -⟩ := hX6.form
    clear hX6 hB6 hRc5
    obtain ⟨ns6, hns6⟩ : ∃ n, (answP ({ r1 with next := nn, early := ee } : Rm)).sel.length = n := ⟨_, rfl⟩
    rw [hns6] at HPV ⊢
    clear hns6
    unfold pkC at HPV ⊢
    change Hid (PkV w6 base _ (.agg #[.int .i64 1, .int .i64 r1.ses, .int .i64 0, .int .i64 nn, .int .i64 r1.lim, .slice As6 ns6 cs6, .slice A6 0 c6])) at HPV
    dsimp only [answP, List.length_nil]
    have hb6' : Below w5.heap.size w5 w6 := (Below.refl _ w5).drew.trans hb6
    have hkR6 := H5.out.1.below hb6' lR
    have hkO6 := H5.out.2.1.below hb6' lO
    have yc0 : w6.cell? ⟨w.heap.size, 0, none⟩ = some (.int .i64 r1.ses) := hkR6.cell 0
    have yc1 : w6.cell? ⟨w.heap.size, 1, none⟩ = some (.int .i64 r1.lim) := hkR6.cell 1
    have yc2 : w6.cell? ⟨w.heap.size, 2, none⟩ = some (.int .i64 nn) := hkR6.cell 2
    have yc3 : w6.cell? ⟨w.heap.size, 3, none⟩ = some (.slice A5 n5 c5) := hkR6.cell 3
    have yd0 : w6.cell? ⟨w.heap.size + 1 + 1, 0, none⟩ = some (.int .i64 0) := hkO6.cell 0
    have yd1 : w6.cell? ⟨w.heap.size + 1 + 1, 1, none⟩ = some (.int .i64 0) := hkO6.cell 1
    have yd2 : w6.cell? ⟨w.heap.size + 1 + 1, 2, none⟩ = some (.int .i64 0) := hkO6.cell 2
    have yd3 : w6.cell? ⟨w.heap.size + 1 + 1, 3, none⟩ = some (.slice none 0 0) := hkO6.cell 3
    have yz0 := hkO6.frozen 0
    have yz1 := hkO6.frozen 1
    have yz2 := hkO6.frozen 2
    have yz3 := hkO6.frozen 3
    have lR6 := hkR6.lt
    have lO6 := hkO6.lt
    have H6 := Lib.hid (And.intro hkR6 (And.intro hkO6 (And.intro (H5.out.2.2.2.2.2.2.trans (hb6'.mono H5.out.2.2.2.2.2.2.size)) (And.intro (H5.out.2.2.1.up hb6' (aeR_ab (by simp))) (H5.out.2.2.2.2.1.up hb6' (qeR_ab (by simp)))))))
    clear hkR6 hkO6 hb6 hb5d hb6' xc0 xc1 xc2 xc3 xd0 xd1 xd2 xd3 xy0 xy1 xy2 xy3 lR lO
    refine ⟨⟨yc0, yc1, yc2, yc3⟩, ?_⟩
    (try simp only [Act.put, List.getElem_toArray, List.getElem_cons_succ, List.getElem_cons_zero, List.setIfInBounds_toArray, List.set_cons_zero, List.set_cons_succ])
    refine lexV_two ?_ ?_
    · have hkp := Blk.new w6 55 #[.int .i64 1, .int .i64 r1.ses, .int .i64 0, .int .i64 nn, .int .i64 r1.lim, .slice As6 ns6 cs6, .slice A6 0 c6]
      clear hkp
      have hkS := set33_blk H6.out.2.1 (.int .i64 r1.ses) (.int .i64 r1.lim) (.int .i64 nn) (.slice A5 n5 c5)
      have hTS := set33_turn H6.out.2.1 (base := base) (by omega) (.int .i64 r1.ses) (.int .i64 r1.lim) (.int .i64 nn) (.slice A5 n5 c5)
      have hbS := set33_below H6.out.2.2.1 (g := w.heap.size + 1 + 1) (by omega) (.int .i64 r1.ses) (.int .i64 r1.lim) (.int .i64 nn) (.slice A5 n5 c5)
      have hvS := H6.out.2.2.2.1.turn hTS (by simp) (aeR_ab (by simp))
      have hqS := H6.out.2.2.2.2.turn hTS (by simp) (qeR_ab (by simp))
      have hpS := HPV.out.turn hTS (by simp) (by simp)
      have hbA : Below ((((w6.setCell ⟨w.heap.size + 1 + 1, 0, none⟩ (.int .i64 r1.ses)).setCell ⟨w.heap.size + 1 + 1, 1, none⟩ (.int .i64 r1.lim)).setCell ⟨w.heap.size + 1 + 1, 2, none⟩ (.int .i64 nn)).setCell ⟨w.heap.size + 1 + 1, 3, none⟩ (.slice A5 n5 c5)).heap.size ((((w6.setCell ⟨w.heap.size + 1 + 1, 0, none⟩ (.int .i64 r1.ses)).setCell ⟨w.heap.size + 1 + 1, 1, none⟩ (.int .i64 r1.lim)).setCell ⟨w.heap.size + 1 + 1, 2, none⟩ (.int .i64 nn)).setCell ⟨w.heap.size + 1 + 1, 3, none⟩ (.slice A5 n5 c5)) (((((w6.setCell ⟨w.heap.size + 1 + 1, 0, none⟩ (.int .i64 r1.ses)).setCell ⟨w.heap.size + 1 + 1, 1, none⟩ (.int .i64 r1.lim)).setCell ⟨w.heap.size + 1 + 1, 2, none⟩ (.int .i64 nn)).setCell ⟨w.heap.size + 1 + 1, 3, none⟩ (.slice A5 n5 c5)).alloc (.cells #[.int .i64 1, .int .i64 r1.ses, .int .i64 0, .int .i64 nn, .int .i64 r1.lim, .slice As6 ns6 cs6, .slice A6 0 c6] 55)) := (Below.refl _ _).alloc (Nat.le_refl _) _
      have hkF := hkS.alloc (.cells #[.int .i64 1, .int .i64 r1.ses, .int .i64 0, .int .i64 nn, .int .i64 r1.lim, .slice As6 ns6 cs6, .slice A6 0 c6] 55)
      have hbF := hbS.alloc hbS.size (.cells #[.int .i64 1, .int .i64 r1.ses, .int .i64 0, .int .i64 nn, .int .i64 r1.lim, .slice As6 ns6 cs6, .slice A6 0 c6] 55)
      have hvF := hvS.up hbA (aeR_ab (by simp))
      have hqF := (hqS.up hbA (qeR_ab (by simp))).vec
      have hpF := hpS.up hbA
      have hgF : Blk (((((w6.setCell ⟨w.heap.size + 1 + 1, 0, none⟩ (.int .i64 r1.ses)).setCell ⟨w.heap.size + 1 + 1, 1, none⟩ (.int .i64 r1.lim)).setCell ⟨w.heap.size + 1 + 1, 2, none⟩ (.int .i64 nn)).setCell ⟨w.heap.size + 1 + 1, 3, none⟩ (.slice A5 n5 c5)).alloc (.cells #[.int .i64 1, .int .i64 r1.ses, .int .i64 0, .int .i64 nn, .int .i64 r1.lim, .slice As6 ns6 cs6, .slice A6 0 c6] 55)) w6.heap.size 55 #[.int .i64 1, .int .i64 r1.ses, .int .i64 0, .int .i64 nn, .int .i64 r1.lim, .slice As6 ns6 cs6, .slice A6 0 c6] := by
        have h := Blk.new ((((w6.setCell ⟨w.heap.size + 1 + 1, 0, none⟩ (.int .i64 r1.ses)).setCell ⟨w.heap.size + 1 + 1, 1, none⟩ (.int .i64 r1.lim)).setCell ⟨w.heap.size + 1 + 1, 2, none⟩ (.int .i64 nn)).setCell ⟨w.heap.size + 1 + 1, 3, none⟩ (.slice A5 n5 c5)) 55 #[.int .i64 1, .int .i64 r1.ses, .int .i64 0, .int .i64 nn, .int .i64 r1.lim, .slice As6 ns6 cs6, .slice A6 0 c6]
        simpa only [World.size_setCell] using h
      clear hkS hTS hbS hvS hqS hpS
      have HF := Lib.hid (And.intro hkF (And.intro hbF (And.intro hvF (And.intro hqF (And.intro hpF hgF)))))
      clear hkF hbF hvF hqF hpF hgF hbA
      refine lexV_eff rfl (fun _ => trivial) ?_
      go_simp
      (try simp only [Act.put, List.getElem_toArray, List.getElem_cons_succ, List.getElem_cons_zero, List.setIfInBounds_toArray, List.set_cons_zero, List.set_cons_succ])
      refine lexV_eff rfl (fun _ => trivial) ?_
      go_simp
      (try simp only [Act.put, List.getElem_toArray, List.getElem_cons_succ, List.getElem_cons_zero, List.setIfInBounds_toArray, List.set_cons_zero, List.set_cons_succ])
      repeat ((first | (refine lexV_read rfl (by rfl) (by first | exact wanted_none rfl | exact wanted_some (b := true) (c := true) rfl rfl rfl | exact wanted_some (b := false) (c := false) rfl rfl rfl) (by intro w9 hS9; (try dsimp only at hS9); go_simp <;> with_reducible rfl) ?_) | (refine lexV_skip rfl (fun _ => trivial) (by first | exact wanted_some (b := true) (c := false) rfl rfl rfl | exact wanted_some (b := false) (c := true) rfl rfl rfl) ?_) | (refine lexV_builtin rfl (fun _ => trivial) (by first | exact wanted_none rfl | exact wanted_some (b := true) (c := true) rfl rfl rfl | exact wanted_some (b := false) (c := false) rfl rfl rfl) (by intro w9 hS9; (try dsimp only at hS9); go_simp <;> with_reducible rfl) ?_)); (try simp only [Act.put, List.getElem_toArray, List.getElem_cons_succ, List.getElem_cons_zero, List.setIfInBounds_toArray, List.set_cons_zero, List.set_cons_succ]))
      refine lexV_nil (panQ_normal ?_)
      go_wp2_with fail
      refine bodyPost_ret (results_cell_tmp2 (t := 33) rfl _ _ (w.heap.size + 1 + 1) _ _ rfl HF.out.1 Try.underlying33 rfl (by kernel_rfl)) rfl ?_
      refine ⟨⟨_, _, _, rfl, ?_, ?_, ?_⟩, HF.out.2.1⟩
      · rw [HK5.out]
        exact ⟨_, rfl, es5, HF.out.2.2.1, H5.out.2.2.2.1⟩
      · rw [HK5.out]
        exact ⟨qs, HF.out.2.2.2.1, H5.out.2.2.2.2.2.1⟩
      · rw [HK5.out]
        exact ksV_one HF.out.2.2.2.2.1 HF.out.2.2.2.2.2
    · have hkp := Blk.new w6 55 #[.int .i64 1, .int .i64 r1.ses, .int .i64 0, .int .i64 nn, .int .i64 r1.lim, .slice As6 ns6 cs6, .slice A6 0 c6]
      clear hkp
      have hkS := set33_blk H6.out.2.1 (.int .i64 r1.ses) (.int .i64 r1.lim) (.int .i64 nn) (.slice A5 n5 c5)
      have hTS := set33_turn H6.out.2.1 (base := base) (by omega) (.int .i64 r1.ses) (.int .i64 r1.lim) (.int .i64 nn) (.slice A5 n5 c5)
      have hbS := set33_below H6.out.2.2.1 (g := w.heap.size + 1 + 1) (by omega) (.int .i64 r1.ses) (.int .i64 r1.lim) (.int .i64 nn) (.slice A5 n5 c5)
      have hvS := H6.out.2.2.2.1.turn hTS (by simp) (aeR_ab (by simp))
      have hqS := H6.out.2.2.2.2.turn hTS (by simp) (qeR_ab (by simp))
      have hpS := HPV.out.turn hTS (by simp) (by simp)
      have hbA : Below ((((w6.setCell ⟨w.heap.size + 1 + 1, 0, none⟩ (.int .i64 r1.ses)).setCell ⟨w.heap.size + 1 + 1, 1, none⟩ (.int .i64 r1.lim)).setCell ⟨w.heap.size + 1 + 1, 2, none⟩ (.int .i64 nn)).setCell ⟨w.heap.size + 1 + 1, 3, none⟩ (.slice A5 n5 c5)).heap.size ((((w6.setCell ⟨w.heap.size + 1 + 1, 0, none⟩ (.int .i64 r1.ses)).setCell ⟨w.heap.size + 1 + 1, 1, none⟩ (.int .i64 r1.lim)).setCell ⟨w.heap.size + 1 + 1, 2, none⟩ (.int .i64 nn)).setCell ⟨w.heap.size + 1 + 1, 3, none⟩ (.slice A5 n5 c5)) (((((w6.setCell ⟨w.heap.size + 1 + 1, 0, none⟩ (.int .i64 r1.ses)).setCell ⟨w.heap.size + 1 + 1, 1, none⟩ (.int .i64 r1.lim)).setCell ⟨w.heap.size + 1 + 1, 2, none⟩ (.int .i64 nn)).setCell ⟨w.heap.size + 1 + 1, 3, none⟩ (.slice A5 n5 c5)).alloc (.cells #[.int .i64 1, .int .i64 r1.ses, .int .i64 0, .int .i64 nn, .int .i64 r1.lim, .slice As6 ns6 cs6, .slice A6 0 c6] 55)) := (Below.refl _ _).alloc (Nat.le_refl _) _
      have hkF := hkS.alloc (.cells #[.int .i64 1, .int .i64 r1.ses, .int .i64 0, .int .i64 nn, .int .i64 r1.lim, .slice As6 ns6 cs6, .slice A6 0 c6] 55)
      have hbF := hbS.alloc hbS.size (.cells #[.int .i64 1, .int .i64 r1.ses, .int .i64 0, .int .i64 nn, .int .i64 r1.lim, .slice As6 ns6 cs6, .slice A6 0 c6] 55)
      have hvF := hvS.up hbA (aeR_ab (by simp))
      have hqF := (hqS.up hbA (qeR_ab (by simp))).vec
      have hpF := hpS.up hbA
      have hgF : Blk (((((w6.setCell ⟨w.heap.size + 1 + 1, 0, none⟩ (.int .i64 r1.ses)).setCell ⟨w.heap.size + 1 + 1, 1, none⟩ (.int .i64 r1.lim)).setCell ⟨w.heap.size + 1 + 1, 2, none⟩ (.int .i64 nn)).setCell ⟨w.heap.size + 1 + 1, 3, none⟩ (.slice A5 n5 c5)).alloc (.cells #[.int .i64 1, .int .i64 r1.ses, .int .i64 0, .int .i64 nn, .int .i64 r1.lim, .slice As6 ns6 cs6, .slice A6 0 c6] 55)) w6.heap.size 55 #[.int .i64 1, .int .i64 r1.ses, .int .i64 0, .int .i64 nn, .int .i64 r1.lim, .slice As6 ns6 cs6, .slice A6 0 c6] := by
        have h := Blk.new ((((w6.setCell ⟨w.heap.size + 1 + 1, 0, none⟩ (.int .i64 r1.ses)).setCell ⟨w.heap.size + 1 + 1, 1, none⟩ (.int .i64 r1.lim)).setCell ⟨w.heap.size + 1 + 1, 2, none⟩ (.int .i64 nn)).setCell ⟨w.heap.size + 1 + 1, 3, none⟩ (.slice A5 n5 c5)) 55 #[.int .i64 1, .int .i64 r1.ses, .int .i64 0, .int .i64 nn, .int .i64 r1.lim, .slice As6 ns6 cs6, .slice A6 0 c6]
        simpa only [World.size_setCell] using h
      clear hkS hTS hbS hvS hqS hpS
      have HF := Lib.hid (And.intro hkF (And.intro hbF (And.intro hvF (And.intro hqF (And.intro hpF hgF)))))
      clear hkF hbF hvF hqF hpF hgF hbA
      refine lexV_eff rfl (fun _ => trivial) ?_
      go_simp
      (try simp only [Act.put, List.getElem_toArray, List.getElem_cons_succ, List.getElem_cons_zero, List.setIfInBounds_toArray, List.set_cons_zero, List.set_cons_succ])
      repeat ((first | (refine lexV_read rfl (by rfl) (by first | exact wanted_none rfl | exact wanted_some (b := true) (c := true) rfl rfl rfl | exact wanted_some (b := false) (c := false) rfl rfl rfl) (by intro w9 hS9; (try dsimp only at hS9); go_simp <;> with_reducible rfl) ?_) | (refine lexV_skip rfl (fun _ => trivial) (by first | exact wanted_some (b := true) (c := false) rfl rfl rfl | exact wanted_some (b := false) (c := true) rfl rfl rfl) ?_) | (refine lexV_builtin rfl (fun _ => trivial) (by first | exact wanted_none rfl | exact wanted_some (b := true) (c := true) rfl rfl rfl | exact wanted_some (b := false) (c := false) rfl rfl rfl) (by intro w9 hS9; (try dsimp only at hS9); go_simp <;> with_reducible rfl) ?_)); (try simp only [Act.put, List.getElem_toArray, List.getElem_cons_succ, List.getElem_cons_zero, List.setIfInBounds_toArray, List.set_cons_zero, List.set_cons_succ]))
      refine lexV_eff rfl (fun _ => trivial) ?_
      go_simp
      (try simp only [Act.put, List.getElem_toArray, List.getElem_cons_succ, List.getElem_cons_zero, List.setIfInBounds_toArray, List.set_cons_zero, List.set_cons_succ])
      repeat ((first | (refine lexV_read rfl (by rfl) (by first | exact wanted_none rfl | exact wanted_some (b := true) (c := true) rfl rfl rfl | exact wanted_some (b := false) (c := false) rfl rfl rfl) (by intro w9 hS9; (try dsimp only at hS9); go_simp <;> with_reducible rfl) ?_) | (refine lexV_skip rfl (fun _ => trivial) (by first | exact wanted_some (b := true) (c := false) rfl rfl rfl | exact wanted_some (b := false) (c := true) rfl rfl rfl) ?_) | (refine lexV_builtin rfl (fun _ => trivial) (by first | exact wanted_none rfl | exact wanted_some (b := true) (c := true) rfl rfl rfl | exact wanted_some (b := false) (c := false) rfl rfl rfl) (by intro w9 hS9; (try dsimp only at hS9); go_simp <;> with_reducible rfl) ?_)); (try simp only [Act.put, List.getElem_toArray, List.getElem_cons_succ, List.getElem_cons_zero, List.setIfInBounds_toArray, List.set_cons_zero, List.set_cons_succ]))
      refine lexV_nil (panQ_normal ?_)
      go_wp2_with fail
      refine bodyPost_ret (results_cell_tmp2 (t := 33) rfl _ _ (w.heap.size + 1 + 1) _ _ rfl HF.out.1 Try.underlying33 rfl (by kernel_rfl)) rfl ?_
      refine ⟨⟨_, _, _, rfl, ?_, ?_, ?_⟩, HF.out.2.1⟩
      · rw [HK5.out]
        exact ⟨_, rfl, es5, HF.out.2.2.1, H5.out.2.2.2.1⟩
      · rw [HK5.out]
        exact ⟨qs, HF.out.2.2.2.1, H5.out.2.2.2.2.2.1⟩
      · rw [HK5.out]
        exact ksV_one HF.out.2.2.2.2.1 HF.out.2.2.2.2.2
  have k4 : (p.kind == 0) = false := by simpa using hk0
  have HK0 := Lib.hid hk0
  clear hk0
  have HRC4 : Hid (RcO V base (w.heap.size) (w.heap.size) r (.slice A3 n3 c3) es3) := ⟨HV0.out.1, HV0.out.2.2.2.2.1, HV0.out.2.2.2.2.2⟩
  have HR1 : Hid (r.early.length ≤ 1000 ∧ (0 ≤ r.next ∧ r.next ≤ 1073741824) ∧ ∀ a ∈ r.early, 0 ≤ a.seq ∧ a.seq ≤ 2147483648) := ⟨by have := HRO.out.2.1; omega, HRO.out.2.2.1, HRO.out.1⟩
  have HK5 : Hid (recvR r p = ({ r with next := (deliv r.next r.early).2.1, early := (deliv r.next r.early).2.2 }, (deliv r.next r.early).1, [answP { r with next := (deliv r.next r.early).2.1, early := (deliv r.next r.early).2.2 }])) := by
    show _ = _
    unfold recvR
    rw [if_neg (by rw [HE.out.1, HE.out.2]; intro h; rcases h with h | h | h | h; exact h HE0.out; exact h HP0.out; exact HK1.out h; exact h HK3.out), if_neg HK0.out]
  go_wp2_with fail
  refine (deliver_any r _ _ (w.heap.size) base (w.heap.size) V HRC4.out (by have h9 := HRC4.out.em; have h8 := congrArg List.length h9; rw [List.length_map] at h8; have := HR1.out.1; omega) HR1.out.2.1 hbw hbw HV0.out.2.2.2.1.size).mono ?_
  rintro e w5 ⟨⟨vq, qs, rfl, hOq, hqm⟩, ⟨ve5, es5, hk5, hv5, hem5⟩, hT5, hoth5⟩
  obtain ⟨dl, nn, ee, hdd⟩ : ∃ a b c, deliv r.next r.early = (a, b, c) := ⟨_, _, _, rfl⟩
  have hmm : ∀ a ∈ ee, a ∈ r.early := fun a ha => deliv_mem r.early r.next (by rw [hdd]; exact ha)
  have hll : ee.length ≤ r.early.length := by have h := deliv_len r.early r.next; rw [hdd] at h; exact h
  rw [hdd] at hqm hk5 hem5 HK5
  dsimp only at hqm hk5 hem5 HK5
  obtain ⟨A5, c5, rfl, -, -, -⟩ := hv5.val
  obtain ⟨Aq, cq, rfl, -, -⟩ := hOq.vform
  obtain ⟨n5, hn5⟩ : ∃ n, es5.length = n := ⟨_, rfl⟩
  rw [hn5] at hk5 hv5
  clear hn5
  obtain ⟨nq, hnq⟩ : ∃ n, qs.length = n := ⟨_, rfl⟩
  rw [hnq] at hOq ⊢
  clear hnq
  have hO5 := hoth5 _ _ (by omega) HV0.out.2.2.1
  have hb5 := Turn.belowT HV0.out.2.2.2.1 (hT5 (w.heap.size) (Nat.le_refl _) (Nat.le_refl _)) (Nat.le_refl _) HV0.out.2.2.2.1.size
  have xc0 : w5.cell? ⟨w.heap.size, 0, none⟩ = some (.int .i64 r.ses) := hk5.cell 0
  have xc1 : w5.cell? ⟨w.heap.size, 1, none⟩ = some (.int .i64 r.lim) := hk5.cell 1
  have xc2 : w5.cell? ⟨w.heap.size, 2, none⟩ = some (.int .i64 nn) := hk5.cell 2
  have xc3 : w5.cell? ⟨w.heap.size, 3, none⟩ = some (.slice A5 n5 c5) := hk5.cell 3
  have xd0 : w5.cell? ⟨w.heap.size + 1 + 1, 0, none⟩ = some (.int .i64 0) := hO5.cell 0
  have xd1 : w5.cell? ⟨w.heap.size + 1 + 1, 1, none⟩ = some (.int .i64 0) := hO5.cell 1
  have xd2 : w5.cell? ⟨w.heap.size + 1 + 1, 2, none⟩ = some (.int .i64 0) := hO5.cell 2
  have xd3 : w5.cell? ⟨w.heap.size + 1 + 1, 3, none⟩ = some (.slice none 0 0) := hO5.cell 3
  have xy0 := hO5.frozen 0
  have xy1 := hO5.frozen 1
  have xy2 := hO5.frozen 2
  have xy3 := hO5.frozen 3
  have lR := hk5.lt
  have lO := hO5.lt
  have H5 := Lib.hid (And.intro hk5 (And.intro hO5 (And.intro hv5 (And.intro hem5 (And.intro hOq (And.intro hqm hb5))))))
  clear hk5 hO5 hv5 hem5 hOq hqm hb5 hoth5 hT5
  have HML := Lib.hid (And.intro hmm (And.intro hll hdd))
  clear hmm hll hdd
  go_upto_region 7 with fail
  refine wp_region_lexV (.op 0 1 (.op 1 1 (.op 2 1 (.op 3 0 (.two 4 5 (.op 5 0 (.op 6 1 (.op 7 1 .nil))) (.op 6 1 (.op 4 0 (.op 7 1 .nil)))))))) [] (fun w9 => w9.cell? ⟨w.heap.size, 0, none⟩ = some (.int .i64 r.ses) ∧ w9.cell? ⟨w.heap.size, 1, none⟩ = some (.int .i64 r.lim) ∧ w9.cell? ⟨w.heap.size, 2, none⟩ = some (.int .i64 nn) ∧ w9.cell? ⟨w.heap.size, 3, none⟩ = some (.slice A5 n5 c5)) (by kernel_rfl) (by kernel_rfl) (by kernel_rfl) (by kernel_rfl) (by kernel_rfl) ⟨xc0, xc1, xc2, xc3⟩ ?_
  repeat ((first | (refine lexV_read rfl (by rfl) (by first | exact wanted_none rfl | exact wanted_some (b := true) (c := true) rfl rfl rfl | exact wanted_some (b := false) (c := false) rfl rfl rfl) (by intro w9 hS9; (try dsimp only at hS9); go_simp <;> with_reducible rfl) ?_) | (refine lexV_skip rfl (fun _ => trivial) (by first | exact wanted_some (b := true) (c := false) rfl rfl rfl | exact wanted_some (b := false) (c := true) rfl rfl rfl) ?_) | (refine lexV_builtin rfl (fun _ => trivial) (by first | exact wanted_none rfl | exact wanted_some (b := true) (c := true) rfl rfl rfl | exact wanted_some (b := false) (c := false) rfl rfl rfl) (by intro w9 hS9; (try dsimp only at hS9); go_simp <;> with_reducible rfl) ?_)); (try simp only [Act.put, List.getElem_toArray, List.getElem_cons_succ, List.getElem_cons_zero, List.setIfInBounds_toArray, List.set_cons_zero, List.set_cons_succ]))
  refine lexV_eff rfl (fun _ => trivial) ?_
  go_simp
  have hb5d : Below w.heap.size w w5.drew := H5.out.2.2.2.2.2.2.drew
  have hRc5 : RcV w5.drew base ({ r with next := nn, early := ee } : Rm) (.agg #[.int .i64 r.ses, .int .i64 r.lim, .int .i64 nn, .slice A5 n5 c5]) := by
    refine ⟨_, rfl, es5, ?_, H5.out.2.2.2.1⟩
    exact H5.out.2.2.1.up (Below.refl _ w5).drew (aeR_ab (by simp))
  refine CallsIn.mono ((callsIn_wide (n := 0)).2 (answer_any ({ r with next := nn, early := ee } : Rm) _ base w5.drew hRc5 (Nat.le_trans HML.out.2.1 (Nat.le_trans HR1.out.1 (by omega))) (fun a ha => HR1.out.2.2 a (HML.out.1 a ha)) (Nat.le_trans hbw hb5d.size))) ?_
  rintro e w6 ⟨⟨pv6, rfl, hpv6⟩, hb6⟩
  obtain ⟨vs6, vp6, rfl, hX6, A6, c6, rfl, hB6⟩ := hpv6
  have HPV := Lib.hid (show PkV w6 base (answP ({ r with next := nn, early := ee } : Rm)) (.agg (pkC (answP ({ r with next := nn, early := ee } : Rm)) vs6 (.slice A6 (answP ({ r with next := nn, early := ee } : Rm)).p.length c6))) from ⟨_, _, rfl, hX6, _, _, rfl, hB6⟩)
  obtain ⟨As6, cs6, rfl, -, -⟩ := hX6.form
  clear hX6 hB6 hRc5
  obtain ⟨ns6, hns6⟩ : ∃ n, (answP ({ r with next := nn, early := ee } : Rm)).sel.length = n := ⟨_, rfl⟩
  rw [hns6] at HPV ⊢
  clear hns6
  unfold pkC at HPV ⊢
  change Hid (PkV w6 base _ (.agg #[.int .i64 1, .int .i64 r.ses, .int .i64 0, .int .i64 nn, .int .i64 r.lim, .slice As6 ns6 cs6, .slice A6 0 c6])) at HPV
  dsimp only [answP, List.length_nil]
  have hb6' : Below w5.heap.size w5 w6 := (Below.refl _ w5).drew.trans hb6
  have hkR6 := H5.out.1.below hb6' lR
  have hkO6 := H5.out.2.1.below hb6' lO
  have yc0 : w6.cell? ⟨w.heap.size, 0, none⟩ = some (.int .i64 r.ses) := hkR6.cell 0
  have yc1 : w6.cell? ⟨w.heap.size, 1, none⟩ = some (.int .i64 r.lim) := hkR6.cell 1
  have yc2 : w6.cell? ⟨w.heap.size, 2, none⟩ = some (.int .i64 nn) := hkR6.cell 2
  have yc3 : w6.cell? ⟨w.heap.size, 3, none⟩ = some (.slice A5 n5 c5) := hkR6.cell 3
  have yd0 : w6.cell? ⟨w.heap.size + 1 + 1, 0, none⟩ = some (.int .i64 0) := hkO6.cell 0
  have yd1 : w6.cell? ⟨w.heap.size + 1 + 1, 1, none⟩ = some (.int .i64 0) := hkO6.cell 1
  have yd2 : w6.cell? ⟨w.heap.size + 1 + 1, 2, none⟩ = some (.int .i64 0) := hkO6.cell 2
  have yd3 : w6.cell? ⟨w.heap.size + 1 + 1, 3, none⟩ = some (.slice none 0 0) := hkO6.cell 3
  have yz0 := hkO6.frozen 0
  have yz1 := hkO6.frozen 1
  have yz2 := hkO6.frozen 2
  have yz3 := hkO6.frozen 3
  have lR6 := hkR6.lt
  have lO6 := hkO6.lt
  have H6 := Lib.hid (And.intro hkR6 (And.intro hkO6 (And.intro (H5.out.2.2.2.2.2.2.trans (hb6'.mono H5.out.2.2.2.2.2.2.size)) (And.intro (H5.out.2.2.1.up hb6' (aeR_ab (by simp))) (H5.out.2.2.2.2.1.up hb6' (qeR_ab (by simp)))))))
  clear hkR6 hkO6 hb6 hb5d hb6' xc0 xc1 xc2 xc3 xd0 xd1 xd2 xd3 xy0 xy1 xy2 xy3 lR lO
  refine ⟨⟨yc0, yc1, yc2, yc3⟩, ?_⟩
  (try simp only [Act.put, List.getElem_toArray, List.getElem_cons_succ, List.getElem_cons_zero, List.setIfInBounds_toArray, List.set_cons_zero, List.set_cons_succ])
  refine lexV_two ?_ ?_
  · have hkp := Blk.new w6 55 #[.int .i64 1, .int .i64 r.ses, .int .i64 0, .int .i64 nn, .int .i64 r.lim, .slice As6 ns6 cs6, .slice A6 0 c6]
    clear hkp
    have hkS := set33_blk H6.out.2.1 (.int .i64 r.ses) (.int .i64 r.lim) (.int .i64 nn) (.slice A5 n5 c5)
    have hTS := set33_turn H6.out.2.1 (base := base) (by omega) (.int .i64 r.ses) (.int .i64 r.lim) (.int .i64 nn) (.slice A5 n5 c5)
    have hbS := set33_below H6.out.2.2.1 (g := w.heap.size + 1 + 1) (by omega) (.int .i64 r.ses) (.int .i64 r.lim) (.int .i64 nn) (.slice A5 n5 c5)
    have hvS := H6.out.2.2.2.1.turn hTS (by simp) (aeR_ab (by simp))
    have hqS := H6.out.2.2.2.2.turn hTS (by simp) (qeR_ab (by simp))
    have hpS := HPV.out.turn hTS (by simp) (by simp)
    have hbA : Below ((((w6.setCell ⟨w.heap.size + 1 + 1, 0, none⟩ (.int .i64 r.ses)).setCell ⟨w.heap.size + 1 + 1, 1, none⟩ (.int .i64 r.lim)).setCell ⟨w.heap.size + 1 + 1, 2, none⟩ (.int .i64 nn)).setCell ⟨w.heap.size + 1 + 1, 3, none⟩ (.slice A5 n5 c5)).heap.size ((((w6.setCell ⟨w.heap.size + 1 + 1, 0, none⟩ (.int .i64 r.ses)).setCell ⟨w.heap.size + 1 + 1, 1, none⟩ (.int .i64 r.lim)).setCell ⟨w.heap.size + 1 + 1, 2, none⟩ (.int .i64 nn)).setCell ⟨w.heap.size + 1 + 1, 3, none⟩ (.slice A5 n5 c5)) (((((w6.setCell ⟨w.heap.size + 1 + 1, 0, none⟩ (.int .i64 r.ses)).setCell ⟨w.heap.size + 1 + 1, 1, none⟩ (.int .i64 r.lim)).setCell ⟨w.heap.size + 1 + 1, 2, none⟩ (.int .i64 nn)).setCell ⟨w.heap.size + 1 + 1, 3, none⟩ (.slice A5 n5 c5)).alloc (.cells #[.int .i64 1, .int .i64 r.ses, .int .i64 0, .int .i64 nn, .int .i64 r.lim, .slice As6 ns6 cs6, .slice A6 0 c6] 55)) := (Below.refl _ _).alloc (Nat.le_refl _) _
    have hkF := hkS.alloc (.cells #[.int .i64 1, .int .i64 r.ses, .int .i64 0, .int .i64 nn, .int .i64 r.lim, .slice As6 ns6 cs6, .slice A6 0 c6] 55)
    have hbF := hbS.alloc hbS.size (.cells #[.int .i64 1, .int .i64 r.ses, .int .i64 0, .int .i64 nn, .int .i64 r.lim, .slice As6 ns6 cs6, .slice A6 0 c6] 55)
    have hvF := hvS.up hbA (aeR_ab (by simp))
    have hqF := (hqS.up hbA (qeR_ab (by simp))).vec
    have hpF := hpS.up hbA
    have hgF : Blk (((((w6.setCell ⟨w.heap.size + 1 + 1, 0, none⟩ (.int .i64 r.ses)).setCell ⟨w.heap.size + 1 + 1, 1, none⟩ (.int .i64 r.lim)).setCell ⟨w.heap.size + 1 + 1, 2, none⟩ (.int .i64 nn)).setCell ⟨w.heap.size + 1 + 1, 3, none⟩ (.slice A5 n5 c5)).alloc (.cells #[.int .i64 1, .int .i64 r.ses, .int .i64 0, .int .i64 nn, .int .i64 r.lim, .slice As6 ns6 cs6, .slice A6 0 c6] 55)) w6.heap.size 55 #[.int .i64 1, .int .i64 r.ses, .int .i64 0, .int .i64 nn, .int .i64 r.lim, .slice As6 ns6 cs6, .slice A6 0 c6] := by
      have h := Blk.new ((((w6.setCell ⟨w.heap.size + 1 + 1, 0, none⟩ (.int .i64 r.ses)).setCell ⟨w.heap.size + 1 + 1, 1, none⟩ (.int .i64 r.lim)).setCell ⟨w.heap.size + 1 + 1, 2, none⟩ (.int .i64 nn)).setCell ⟨w.heap.size + 1 + 1, 3, none⟩ (.slice A5 n5 c5)) 55 #[.int .i64 1, .int .i64 r.ses, .int .i64 0, .int .i64 nn, .int .i64 r.lim, .slice As6 ns6 cs6, .slice A6 0 c6]
      simpa only [World.size_setCell] using h
    clear hkS hTS hbS hvS hqS hpS
    have HF := Lib.hid (And.intro hkF (And.intro hbF (And.intro hvF (And.intro hqF (And.intro hpF hgF)))))
    clear hkF hbF hvF hqF hpF hgF hbA
    refine lexV_eff rfl (fun _ => trivial) ?_
    go_simp
    (try simp only [Act.put, List.getElem_toArray, List.getElem_cons_succ, List.getElem_cons_zero, List.setIfInBounds_toArray, List.set_cons_zero, List.set_cons_succ])
    refine lexV_eff rfl (fun _ => trivial) ?_
    go_simp
    (try simp only [Act.put, List.getElem_toArray, List.getElem_cons_succ, List.getElem_cons_zero, List.setIfInBounds_toArray, List.set_cons_zero, List.set_cons_succ])
    repeat ((first | (refine lexV_read rfl (by rfl) (by first | exact wanted_none rfl | exact wanted_some (b := true) (c := true) rfl rfl rfl | exact wanted_some (b := false) (c := false) rfl rfl rfl) (by intro w9 hS9; (try dsimp only at hS9); go_simp <;> with_reducible rfl) ?_) | (refine lexV_skip rfl (fun _ => trivial) (by first | exact wanted_some (b := true) (c := false) rfl rfl rfl | exact wanted_some (b := false) (c := true) rfl rfl rfl) ?_) | (refine lexV_builtin rfl (fun _ => trivial) (by first | exact wanted_none rfl | exact wanted_some (b := true) (c := true) rfl rfl rfl | exact wanted_some (b := false) (c := false) rfl rfl rfl) (by intro w9 hS9; (try dsimp only at hS9); go_simp <;> with_reducible rfl) ?_)); (try simp only [Act.put, List.getElem_toArray, List.getElem_cons_succ, List.getElem_cons_zero, List.setIfInBounds_toArray, List.set_cons_zero, List.set_cons_succ]))
    refine lexV_nil (panQ_normal ?_)
    go_wp2_with fail
    refine bodyPost_ret (results_cell_tmp2 (t := 33) rfl _ _ (w.heap.size + 1 + 1) _ _ rfl HF.out.1 Try.underlying33 rfl (by kernel_rfl)) rfl ?_
    refine ⟨⟨_, _, _, rfl, ?_, ?_, ?_⟩, HF.out.2.1⟩
    · rw [HK5.out]
      exact ⟨_, rfl, es5, HF.out.2.2.1, H5.out.2.2.2.1⟩
    · rw [HK5.out]
      exact ⟨qs, HF.out.2.2.2.1, H5.out.2.2.2.2.2.1⟩
    · rw [HK5.out]
      exact ksV_one HF.out.2.2.2.2.1 HF.out.2.2.2.2.2
  · have hkp := Blk.new w6 55 #[.int .i64 1, .int .i64 r.ses, .int .i64 0, .int .i64 nn, .int .i64 r.lim, .slice As6 ns6 cs6, .slice A6 0 c6]
    clear hkp
    have hkS := set33_blk H6.out.2.1 (.int .i64 r.ses) (.int .i64 r.lim) (.int .i64 nn) (.slice A5 n5 c5)
    have hTS := set33_turn H6.out.2.1 (base := base) (by omega) (.int .i64 r.ses) (.int .i64 r.lim) (.int .i64 nn) (.slice A5 n5 c5)
    have hbS := set33_below H6.out.2.2.1 (g := w.heap.size + 1 + 1) (by omega) (.int .i64 r.ses) (.int .i64 r.lim) (.int .i64 nn) (.slice A5 n5 c5)
    have hvS := H6.out.2.2.2.1.turn hTS (by simp) (aeR_ab (by simp))
    have hqS := H6.out.2.2.2.2.turn hTS (by simp) (qeR_ab (by simp))
    have hpS := HPV.out.turn hTS (by simp) (by simp)
    have hbA : Below ((((w6.setCell ⟨w.heap.size + 1 + 1, 0, none⟩ (.int .i64 r.ses)).setCell ⟨w.heap.size + 1 + 1, 1, none⟩ (.int .i64 r.lim)).setCell ⟨w.heap.size + 1 + 1, 2, none⟩ (.int .i64 nn)).setCell ⟨w.heap.size + 1 + 1, 3, none⟩ (.slice A5 n5 c5)).heap.size ((((w6.setCell ⟨w.heap.size + 1 + 1, 0, none⟩ (.int .i64 r.ses)).setCell ⟨w.heap.size + 1 + 1, 1, none⟩ (.int .i64 r.lim)).setCell ⟨w.heap.size + 1 + 1, 2, none⟩ (.int .i64 nn)).setCell ⟨w.heap.size + 1 + 1, 3, none⟩ (.slice A5 n5 c5)) (((((w6.setCell ⟨w.heap.size + 1 + 1, 0, none⟩ (.int .i64 r.ses)).setCell ⟨w.heap.size + 1 + 1, 1, none⟩ (.int .i64 r.lim)).setCell ⟨w.heap.size + 1 + 1, 2, none⟩ (.int .i64 nn)).setCell ⟨w.heap.size + 1 + 1, 3, none⟩ (.slice A5 n5 c5)).alloc (.cells #[.int .i64 1, .int .i64 r.ses, .int .i64 0, .int .i64 nn, .int .i64 r.lim, .slice As6 ns6 cs6, .slice A6 0 c6] 55)) := (Below.refl _ _).alloc (Nat.le_refl _) _
    have hkF := hkS.alloc (.cells #[.int .i64 1, .int .i64 r.ses, .int .i64 0, .int .i64 nn, .int .i64 r.lim, .slice As6 ns6 cs6, .slice A6 0 c6] 55)
    have hbF := hbS.alloc hbS.size (.cells #[.int .i64 1, .int .i64 r.ses, .int .i64 0, .int .i64 nn, .int .i64 r.lim, .slice As6 ns6 cs6, .slice A6 0 c6] 55)
    have hvF := hvS.up hbA (aeR_ab (by simp))
    have hqF := (hqS.up hbA (qeR_ab (by simp))).vec
    have hpF := hpS.up hbA
    have hgF : Blk (((((w6.setCell ⟨w.heap.size + 1 + 1, 0, none⟩ (.int .i64 r.ses)).setCell ⟨w.heap.size + 1 + 1, 1, none⟩ (.int .i64 r.lim)).setCell ⟨w.heap.size + 1 + 1, 2, none⟩ (.int .i64 nn)).setCell ⟨w.heap.size + 1 + 1, 3, none⟩ (.slice A5 n5 c5)).alloc (.cells #[.int .i64 1, .int .i64 r.ses, .int .i64 0, .int .i64 nn, .int .i64 r.lim, .slice As6 ns6 cs6, .slice A6 0 c6] 55)) w6.heap.size 55 #[.int .i64 1, .int .i64 r.ses, .int .i64 0, .int .i64 nn, .int .i64 r.lim, .slice As6 ns6 cs6, .slice A6 0 c6] := by
      have h := Blk.new ((((w6.setCell ⟨w.heap.size + 1 + 1, 0, none⟩ (.int .i64 r.ses)).setCell ⟨w.heap.size + 1 + 1, 1, none⟩ (.int .i64 r.lim)).setCell ⟨w.heap.size + 1 + 1, 2, none⟩ (.int .i64 nn)).setCell ⟨w.heap.size + 1 + 1, 3, none⟩ (.slice A5 n5 c5)) 55 #[.int .i64 1, .int .i64 r.ses, .int .i64 0, .int .i64 nn, .int .i64 r.lim, .slice As6 ns6 cs6, .slice A6 0 c6]
      simpa only [World.size_setCell] using h
    clear hkS hTS hbS hvS hqS hpS
    have HF := Lib.hid (And.intro hkF (And.intro hbF (And.intro hvF (And.intro hqF (And.intro hpF hgF)))))
    clear hkF hbF hvF hqF hpF hgF hbA
    refine lexV_eff rfl (fun _ => trivial) ?_
    go_simp
    (try simp only [Act.put, List.getElem_toArray, List.getElem_cons_succ, List.getElem_cons_zero, List.setIfInBounds_toArray, List.set_cons_zero, List.set_cons_succ])
    repeat ((first | (refine lexV_read rfl (by rfl) (by first | exact wanted_none rfl | exact wanted_some (b := true) (c := true) rfl rfl rfl | exact wanted_some (b := false) (c := false) rfl rfl rfl) (by intro w9 hS9; (try dsimp only at hS9); go_simp <;> with_reducible rfl) ?_) | (refine lexV_skip rfl (fun _ => trivial) (by first | exact wanted_some (b := true) (c := false) rfl rfl rfl | exact wanted_some (b := false) (c := true) rfl rfl rfl) ?_) | (refine lexV_builtin rfl (fun _ => trivial) (by first | exact wanted_none rfl | exact wanted_some (b := true) (c := true) rfl rfl rfl | exact wanted_some (b := false) (c := false) rfl rfl rfl) (by intro w9 hS9; (try dsimp only at hS9); go_simp <;> with_reducible rfl) ?_)); (try simp only [Act.put, List.getElem_toArray, List.getElem_cons_succ, List.getElem_cons_zero, List.setIfInBounds_toArray, List.set_cons_zero, List.set_cons_succ]))
    refine lexV_eff rfl (fun _ => trivial) ?_
    go_simp
    (try simp only [Act.put, List.getElem_toArray, List.getElem_cons_succ, List.getElem_cons_zero, List.setIfInBounds_toArray, List.set_cons_zero, List.set_cons_succ])
    repeat ((first | (refine lexV_read rfl (by rfl) (by first | exact wanted_none rfl | exact wanted_some (b := true) (c := true) rfl rfl rfl | exact wanted_some (b := false) (c := false) rfl rfl rfl) (by intro w9 hS9; (try dsimp only at hS9); go_simp <;> with_reducible rfl) ?_) | (refine lexV_skip rfl (fun _ => trivial) (by first | exact wanted_some (b := true) (c := false) rfl rfl rfl | exact wanted_some (b := false) (c := true) rfl rfl rfl) ?_) | (refine lexV_builtin rfl (fun _ => trivial) (by first | exact wanted_none rfl | exact wanted_some (b := true) (c := true) rfl rfl rfl | exact wanted_some (b := false) (c := false) rfl rfl rfl) (by intro w9 hS9; (try dsimp only at hS9); go_simp <;> with_reducible rfl) ?_)); (try simp only [Act.put, List.getElem_toArray, List.getElem_cons_succ, List.getElem_cons_zero, List.setIfInBounds_toArray, List.set_cons_zero, List.set_cons_succ]))
    refine lexV_nil (panQ_normal ?_)
    go_wp2_with fail
    refine bodyPost_ret (results_cell_tmp2 (t := 33) rfl _ _ (w.heap.size + 1 + 1) _ _ rfl HF.out.1 Try.underlying33 rfl (by kernel_rfl)) rfl ?_
    refine ⟨⟨_, _, _, rfl, ?_, ?_, ?_⟩, HF.out.2.1⟩
    · rw [HK5.out]
      exact ⟨_, rfl, es5, HF.out.2.2.1, H5.out.2.2.2.1⟩
    · rw [HK5.out]
      exact ⟨qs, HF.out.2.2.2.1, H5.out.2.2.2.2.2.1⟩
    · rw [HK5.out]
      exact ksV_one HF.out.2.2.2.2.1 HF.out.2.2.2.2.2
end Go.Proofs.Ytanmndhdhlmjgaa
