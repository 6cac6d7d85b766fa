/- The walk of the reference's Ack. Conditions: small. -/
import Derived.Test.YtanmndhdhlmjgaaXa
import Derived.Test.YtanmndhdhlmjgaaYa
import Derived.Test.YtanmndhdhlmjgaaYe
import Derived.Test.YtanmndhdhlmjgaaMathF
import Derived.Test.YtanmndhdhlmjgaaWf
import Derived.Test.YtanmndhdhlmjgaaWh
namespace Go.Proofs.Ytanmndhdhlmjgaa
open Go.RowKit
/-- the second loop's state: j payloads are off -/
structure AckJ (w : World) (base : Nat) (s : Sm) (vo vq : Value) (l : List Oe) (qs : List Qe) (j : Nat) (wr : World) : Prop where
  bs : Blk wr w.heap.size 25 (snC { s with base := s.base + j } vo vq)
  bo : Blk wr (w.heap.size + 1 + 1) 25 #[.int .i64 0, .int .i64 0, .int .i64 0, .int .i64 0, .int .i64 0, .int .i64 0, .slice none 0 0, .slice none 0 0]
  vec : Vec encO OeR 82 5 wr base vo l
  bq : Own1 encQ QeR 42 1 wr base w.heap.size vq qs
  bel : Below w.heap.size w wr
theorem AckJ.pop {w : World} {base : Nat} {s : Sm} {vo vq vo' : Value} {l l' : List Oe} {qs : List Qe} {j : Nat} {wr : World} (h : AckJ w base s vo vq l qs j wr) (hbw : base ≤ w.heap.size) (hv : Vec encO OeR 82 5 wr base vo' l') :
    AckJ w base s vo' vq l' qs (j + 1) ((wr.setCell ⟨w.heap.size, 6, none⟩ vo').setCell ⟨w.heap.size, 3, none⟩ (.int .i64 (s.base + j + 1))) := by
  have hT : Turn base [25] wr ((wr.setCell ⟨w.heap.size, 6, none⟩ vo').setCell ⟨w.heap.size, 3, none⟩ (.int .i64 (s.base + j + 1))) := ((Turn.refl base [25] wr).set h.bs (by simp) hbw 6 vo').set (h.bs.set_ 6 vo') (by simp) hbw 3 _
  have hk := (h.bs.set_ 6 vo').set_ 3 (.int .i64 (s.base + j + 1))
  refine ⟨?_, (h.bo.far (p := ⟨w.heap.size, 6, none⟩) (by dsimp only; omega) vo').far (p := ⟨w.heap.size, 3, none⟩) (by dsimp only; omega) _, hv.turn hT (by simp) (oeR_ab (by simp)), h.bq.turn hT (by simp) (qeR_ab (by simp)), (h.bel.setCell (p := ⟨w.heap.size, 6, none⟩) (Nat.le_refl _) _).setCell (p := ⟨w.heap.size, 3, none⟩) (Nat.le_refl _) _⟩
  rw [show s.base + ((j + 1 : Nat) : Int) = s.base + j + 1 by omega]
  exact hk
set_option maxRecDepth 100000 in
set_option maxHeartbeats 8000000 in
set_option linter.unusedSimpArgs false in
theorem refAck_any (s : Sm) (now : Int) (p : Pm) (v pv : Value) (base : Nat) (w : World) (hv : SnV w base s v) (hs : Small s) (hp : PkV w base p pv) (hsp : SmallP p) (hbw : base ≤ w.heap.size) :
    Calls Try.prog 30 #[v, .int .i64 now, pv] w (AckR w base s now p) := by
  have HV := Lib.hid hv
  have HP := Lib.hid hp
  obtain ⟨vo, vq, rfl, hO, hQ⟩ := hv
  obtain ⟨Ao, co, rfl, -, -⟩ := hO.form
  obtain ⟨Aq, cq, rfl, -, -⟩ := hQ.form
  obtain ⟨vs, vp, rfl, hX, Ap, cp, rfl, hB⟩ := hp
  have HXS := Lib.hid hX
  obtain ⟨As, cs, rfl, -, -⟩ := hX.form
  clear hX hB hO hQ
  obtain ⟨no, hno⟩ : ∃ n, s.out.length = n := ⟨_, rfl⟩
  obtain ⟨nq, hnq⟩ : ∃ n, s.q.length = n := ⟨_, rfl⟩
  obtain ⟨ns, hns⟩ : ∃ n, p.sel.length = n := ⟨_, rfl⟩
  obtain ⟨np, hnp⟩ : ∃ n, p.p.length = n := ⟨_, rfl⟩
  rw [hno, hnq] at HV ⊢
  rw [hns, hnp] at HP ⊢
  rw [hns] at HXS
  have hsl := hsp.sel
  rw [hns] at hsl
  have HL := Lib.hid (And.intro hno (And.intro hnq (And.intro hns hnp)))
  clear hno hnq hns hnp
  have HSM := Lib.hid (And.intro hs hsp)
  clear hs hsp
  unfold snC at HV ⊢
  unfold pkC at HP ⊢
  have HW : Hid (Blk (((w.alloc (.cells #[.int .i64 s.ses, .int .i64 s.lim, .int .i64 s.tmo, .int .i64 s.base, .int .i64 s.next, .int .i64 s.cred, .slice Ao no co, .slice Aq nq cq] 25)).alloc (.cells #[.int .i64 p.kind, .int .i64 p.ses, .int .i64 p.seq, .int .i64 p.ack, .int .i64 p.cred, .slice As ns cs, .slice Ap np cp] 55)).alloc (.cells #[.int .i64 0, .int .i64 0, .int .i64 0, .int .i64 0, .int .i64 0, .int .i64 0, .slice none 0 0, .slice none 0 0] 25)) (w.heap.size) 25 #[.int .i64 s.ses, .int .i64 s.lim, .int .i64 s.tmo, .int .i64 s.base, .int .i64 s.next, .int .i64 s.cred, .slice Ao no co, .slice Aq nq cq] ∧ Blk (((w.alloc (.cells #[.int .i64 s.ses, .int .i64 s.lim, .int .i64 s.tmo, .int .i64 s.base, .int .i64 s.next, .int .i64 s.cred, .slice Ao no co, .slice Aq nq cq] 25)).alloc (.cells #[.int .i64 p.kind, .int .i64 p.ses, .int .i64 p.seq, .int .i64 p.ack, .int .i64 p.cred, .slice As ns cs, .slice Ap np cp] 55)).alloc (.cells #[.int .i64 0, .int .i64 0, .int .i64 0, .int .i64 0, .int .i64 0, .int .i64 0, .slice none 0 0, .slice none 0 0] 25)) (w.heap.size + 1) 55 #[.int .i64 p.kind, .int .i64 p.ses, .int .i64 p.seq, .int .i64 p.ack, .int .i64 p.cred, .slice As ns cs, .slice Ap np cp] ∧ Blk (((w.alloc (.cells #[.int .i64 s.ses, .int .i64 s.lim, .int .i64 s.tmo, .int .i64 s.base, .int .i64 s.next, .int .i64 s.cred, .slice Ao no co, .slice Aq nq cq] 25)).alloc (.cells #[.int .i64 p.kind, .int .i64 p.ses, .int .i64 p.seq, .int .i64 p.ack, .int .i64 p.cred, .slice As ns cs, .slice Ap np cp] 55)).alloc (.cells #[.int .i64 0, .int .i64 0, .int .i64 0, .int .i64 0, .int .i64 0, .int .i64 0, .slice none 0 0, .slice none 0 0] 25)) (w.heap.size + 1 + 1) 25 #[.int .i64 0, .int .i64 0, .int .i64 0, .int .i64 0, .int .i64 0, .int .i64 0, .slice none 0 0, .slice none 0 0] ∧ Below w.heap.size w (((w.alloc (.cells #[.int .i64 s.ses, .int .i64 s.lim, .int .i64 s.tmo, .int .i64 s.base, .int .i64 s.next, .int .i64 s.cred, .slice Ao no co, .slice Aq nq cq] 25)).alloc (.cells #[.int .i64 p.kind, .int .i64 p.ses, .int .i64 p.seq, .int .i64 p.ack, .int .i64 p.cred, .slice As ns cs, .slice Ap np cp] 55)).alloc (.cells #[.int .i64 0, .int .i64 0, .int .i64 0, .int .i64 0, .int .i64 0, .int .i64 0, .slice none 0 0, .slice none 0 0] 25))) := by
    have h1 := ((Blk.new w 25 #[.int .i64 s.ses, .int .i64 s.lim, .int .i64 s.tmo, .int .i64 s.base, .int .i64 s.next, .int .i64 s.cred, .slice Ao no co, .slice Aq nq cq]).alloc (.cells #[.int .i64 p.kind, .int .i64 p.ses, .int .i64 p.seq, .int .i64 p.ack, .int .i64 p.cred, .slice As ns cs, .slice Ap np cp] 55)).alloc (.cells #[.int .i64 0, .int .i64 0, .int .i64 0, .int .i64 0, .int .i64 0, .int .i64 0, .slice none 0 0, .slice none 0 0] 25)
    have h2 := (Blk.new (w.alloc (.cells #[.int .i64 s.ses, .int .i64 s.lim, .int .i64 s.tmo, .int .i64 s.base, .int .i64 s.next, .int .i64 s.cred, .slice Ao no co, .slice Aq nq cq] 25)) 55 #[.int .i64 p.kind, .int .i64 p.ses, .int .i64 p.seq, .int .i64 p.ack, .int .i64 p.cred, .slice As ns cs, .slice Ap np cp]).alloc (.cells #[.int .i64 0, .int .i64 0, .int .i64 0, .int .i64 0, .int .i64 0, .int .i64 0, .slice none 0 0, .slice none 0 0] 25)
    have h3 := Blk.new ((w.alloc (.cells #[.int .i64 s.ses, .int .i64 s.lim, .int .i64 s.tmo, .int .i64 s.base, .int .i64 s.next, .int .i64 s.cred, .slice Ao no co, .slice Aq nq cq] 25)).alloc (.cells #[.int .i64 p.kind, .int .i64 p.ses, .int .i64 p.seq, .int .i64 p.ack, .int .i64 p.cred, .slice As ns cs, .slice Ap np cp] 55)) 25 #[.int .i64 0, .int .i64 0, .int .i64 0, .int .i64 0, .int .i64 0, .int .i64 0, .slice none 0 0, .slice none 0 0]
    rw [World.size_alloc] at h2 h3
    rw [World.size_alloc] at h3
    exact ⟨h1, h2, h3, (((Below.refl _ w).alloc (Nat.le_refl _) _).alloc (by simp) _).alloc (by simp; omega) _⟩
  obtain ⟨ev, hev⟩ : ∃ n, chkS s = n := ⟨_, rfl⟩
  obtain ⟨pe, hpe⟩ : ∃ n, chkP p = n := ⟨_, rfl⟩
  have hc1 := refCheckSender_any s _ base (((w.alloc (.cells #[.int .i64 s.ses, .int .i64 s.lim, .int .i64 s.tmo, .int .i64 s.base, .int .i64 s.next, .int .i64 s.cred, .slice Ao no co, .slice Aq nq cq] 25)).alloc (.cells #[.int .i64 p.kind, .int .i64 p.ses, .int .i64 p.seq, .int .i64 p.ack, .int .i64 p.cred, .slice As ns cs, .slice Ap np cp] 55)).alloc (.cells #[.int .i64 0, .int .i64 0, .int .i64 0, .int .i64 0, .int .i64 0, .int .i64 0, .slice none 0 0, .slice none 0 0] 25)) (HV.out.up HW.out.2.2.2) HSM.out.1
  rw [hev] at hc1
  have HC1 := Lib.hid hc1
  have HE := Lib.hid (And.intro hev hpe)
  clear hc1 hev hpe
  go_enter Try.func30, Try.ntmps30
  go_wp2_with fail
  generalize (((w.alloc (.cells #[.int .i64 s.ses, .int .i64 s.lim, .int .i64 s.tmo, .int .i64 s.base, .int .i64 s.next, .int .i64 s.cred, .slice Ao no co, .slice Aq nq cq] 25)).alloc (.cells #[.int .i64 p.kind, .int .i64 p.ses, .int .i64 p.seq, .int .i64 p.ack, .int .i64 p.cred, .slice As ns cs, .slice Ap np cp] 55)).alloc (.cells #[.int .i64 0, .int .i64 0, .int .i64 0, .int .i64 0, .int .i64 0, .int .i64 0, .slice none 0 0, .slice none 0 0] 25)) = W at *
  refine HC1.out.mono ?_
  clear HC1
  rintro e w1 ⟨rfl, hb1⟩
  have HW1 := Lib.hid (And.intro (HW.out.1.below hb1 HW.out.1.lt) (And.intro (HW.out.2.1.below hb1 HW.out.2.1.lt) (And.intro (HW.out.2.2.1.below hb1 HW.out.2.2.1.lt) (HW.out.2.2.2.trans (hb1.mono HW.out.2.2.2.size)))))
  clear hb1
  have xc0 : w1.cell? ⟨w.heap.size, 0, none⟩ = some (.int .i64 s.ses) := HW1.out.1.cell 0
  have xc1 : w1.cell? ⟨w.heap.size, 1, none⟩ = some (.int .i64 s.lim) := HW1.out.1.cell 1
  have xc2 : w1.cell? ⟨w.heap.size, 2, none⟩ = some (.int .i64 s.tmo) := HW1.out.1.cell 2
  have xc3 : w1.cell? ⟨w.heap.size, 3, none⟩ = some (.int .i64 s.base) := HW1.out.1.cell 3
  have xc4 : w1.cell? ⟨w.heap.size, 4, none⟩ = some (.int .i64 s.next) := HW1.out.1.cell 4
  have xc5 : w1.cell? ⟨w.heap.size, 5, none⟩ = some (.int .i64 s.cred) := HW1.out.1.cell 5
  have xc6 : w1.cell? ⟨w.heap.size, 6, none⟩ = some (.slice Ao no co) := HW1.out.1.cell 6
  have xc7 : w1.cell? ⟨w.heap.size, 7, none⟩ = some (.slice Aq nq cq) := HW1.out.1.cell 7
  have xk0 : w1.cell? ⟨w.heap.size + 1, 0, none⟩ = some (.int .i64 p.kind) := HW1.out.2.1.cell 0
  have xk1 : w1.cell? ⟨w.heap.size + 1, 1, none⟩ = some (.int .i64 p.ses) := HW1.out.2.1.cell 1
  have xk2 : w1.cell? ⟨w.heap.size + 1, 2, none⟩ = some (.int .i64 p.seq) := HW1.out.2.1.cell 2
  have xk3 : w1.cell? ⟨w.heap.size + 1, 3, none⟩ = some (.int .i64 p.ack) := HW1.out.2.1.cell 3
  have xk4 : w1.cell? ⟨w.heap.size + 1, 4, none⟩ = some (.int .i64 p.cred) := HW1.out.2.1.cell 4
  have xk5 : w1.cell? ⟨w.heap.size + 1, 5, none⟩ = some (.slice As ns cs) := HW1.out.2.1.cell 5
  have xk6 : w1.cell? ⟨w.heap.size + 1, 6, none⟩ = some (.slice Ap np cp) := HW1.out.2.1.cell 6
  have xd0 : w1.cell? ⟨w.heap.size + 1 + 1, 0, none⟩ = some (.int .i64 0) := HW1.out.2.2.1.cell 0
  have xd1 : w1.cell? ⟨w.heap.size + 1 + 1, 1, none⟩ = some (.int .i64 0) := HW1.out.2.2.1.cell 1
  have xd2 : w1.cell? ⟨w.heap.size + 1 + 1, 2, none⟩ = some (.int .i64 0) := HW1.out.2.2.1.cell 2
  have xd3 : w1.cell? ⟨w.heap.size + 1 + 1, 3, none⟩ = some (.int .i64 0) := HW1.out.2.2.1.cell 3
  have xd4 : w1.cell? ⟨w.heap.size + 1 + 1, 4, none⟩ = some (.int .i64 0) := HW1.out.2.2.1.cell 4
  have xd5 : w1.cell? ⟨w.heap.size + 1 + 1, 5, none⟩ = some (.int .i64 0) := HW1.out.2.2.1.cell 5
  have xd6 : w1.cell? ⟨w.heap.size + 1 + 1, 6, none⟩ = some (.slice none 0 0) := HW1.out.2.2.1.cell 6
  have xd7 : w1.cell? ⟨w.heap.size + 1 + 1, 7, none⟩ = some (.slice none 0 0) := HW1.out.2.2.1.cell 7
  have xy0 := HW1.out.2.2.1.frozen 0
  have xy1 := HW1.out.2.2.1.frozen 1
  have xy2 := HW1.out.2.2.1.frozen 2
  have xy3 := HW1.out.2.2.1.frozen 3
  have xy4 := HW1.out.2.2.1.frozen 4
  have xy5 := HW1.out.2.2.1.frozen 5
  have xy6 := HW1.out.2.2.1.frozen 6
  have xy7 := HW1.out.2.2.1.frozen 7
  have xz0 := HW1.out.1.frozen 0
  have xz1 := HW1.out.1.frozen 1
  have xz2 := HW1.out.1.frozen 2
  have xz3 := HW1.out.1.frozen 3
  have xz4 := HW1.out.1.frozen 4
  have xz5 := HW1.out.1.frozen 5
  have xz6 := HW1.out.1.frozen 6
  have xz7 := HW1.out.1.frozen 7
  have lS := HW1.out.1.lt
  have lK := HW1.out.2.1.lt
  have lO := HW1.out.2.2.1.lt
  by_cases he : ev = 0
  rotate_left 1
  · have k0 : ((ev : Int) != 0) = true := by simpa using he
    have HE0 := Lib.hid he
    clear he
    have HM : Hid (ackS s now p = (s, -1)) := by
      show _ = _
      unfold ackS
      rw [if_pos]
      unfold acceptB
      rw [decide_eq_false (fun h => HE0.out (HE.out.1.symm.trans h.1)), Bool.false_and]
    have hkF := set25_blk HW1.out.2.2.1 (.int .i64 s.ses) (.int .i64 s.lim) (.int .i64 s.tmo) (.int .i64 s.base) (.int .i64 s.next) (.int .i64 s.cred) (.slice Ao no co) (.slice Aq nq cq)
    have hbF := set25_below HW1.out.2.2.2 (g := w.heap.size + 1 + 1) (by omega) (.int .i64 s.ses) (.int .i64 s.lim) (.int .i64 s.tmo) (.int .i64 s.base) (.int .i64 s.next) (.int .i64 s.cred) (.slice Ao no co) (.slice Aq nq cq)
    have HF := Lib.hid (And.intro hkF hbF)
    clear hkF hbF
    go_wp2_with fail
    refine bodyPost_ret (results_cell_tmp (t := 25) rfl _ _ (w.heap.size + 1 + 1) _ _ rfl HF.out.1 Try.underlying25 rfl (by kernel_rfl)) rfl ?_
    exact ⟨⟨_, _, rfl, by rw [HM.out]; exact HV.out.up HF.out.2, by rw [HM.out]⟩, HF.out.2⟩
  have k0 : ((ev : Int) != 0) = false := by simp [he]
  have HE0 : Hid (chkS s = 0) := by show _ = _; rw [HE.out.1, he]
  clear he
  by_cases hn : 0 ≤ now ∧ now ≤ 1073741824
  rotate_left 1
  · have HN := Lib.hid hn
    clear hn
    go_wp2_with fail
    refine (within_any now 0 1073741824 (decide_eq_false HN.out) _).mono ?_
    rintro e w2 ⟨rfl, rfl⟩
    have HM : Hid (ackS s now p = (s, -1)) := by
      show _ = _
      unfold ackS
      rw [if_pos]
      unfold acceptB
      rw [decide_eq_false (fun h => HN.out h.2.1), Bool.false_and]
    have hkF := set25_blk HW1.out.2.2.1 (.int .i64 s.ses) (.int .i64 s.lim) (.int .i64 s.tmo) (.int .i64 s.base) (.int .i64 s.next) (.int .i64 s.cred) (.slice Ao no co) (.slice Aq nq cq)
    have hbF := set25_below HW1.out.2.2.2 (g := w.heap.size + 1 + 1) (by omega) (.int .i64 s.ses) (.int .i64 s.lim) (.int .i64 s.tmo) (.int .i64 s.base) (.int .i64 s.next) (.int .i64 s.cred) (.slice Ao no co) (.slice Aq nq cq)
    have HF := Lib.hid (And.intro hkF hbF)
    clear hkF hbF
    go_wp2_with fail
    refine bodyPost_ret (results_cell_tmp (t := 25) rfl _ _ (w.heap.size + 1 + 1) _ _ rfl HF.out.1 Try.underlying25 rfl (by kernel_rfl)) rfl ?_
    exact ⟨⟨_, _, rfl, by rw [HM.out]; exact HV.out.up HF.out.2, by rw [HM.out]⟩, HF.out.2⟩
  have HN := Lib.hid hn
  go_wp2_with fail
  refine (within_any now 0 1073741824 (decide_eq_true HN.out) _).mono ?_
  rintro e w2 ⟨rfl, rfl⟩
  have hc2 := refPCheck_any p _ base w1 (HP.out.up HW1.out.2.2.2) HSM.out.2
  rw [HE.out.2] at hc2
  have HC2 := Lib.hid hc2
  clear hc2
  go_wp2_with fail
  refine HC2.out.mono ?_
  clear HC2
  rintro e w2 ⟨rfl, hb1⟩
  clear xc0 xc1 xc2 xc3 xc4 xc5 xc6 xc7 xk0 xk1 xk2 xk3 xk4 xk5 xk6 xd0 xd1 xd2 xd3 xd4 xd5 xd6 xd7 xy0 xy1 xy2 xy3 xy4 xy5 xy6 xy7 xz0 xz1 xz2 xz3 xz4 xz5 xz6 xz7 lS lK lO
  have HW2 := Lib.hid (And.intro (HW1.out.1.below hb1 HW1.out.1.lt) (And.intro (HW1.out.2.1.below hb1 HW1.out.2.1.lt) (And.intro (HW1.out.2.2.1.below hb1 HW1.out.2.2.1.lt) (HW1.out.2.2.2.trans (hb1.mono HW1.out.2.2.2.size)))))
  clear hb1
  have xc0 : w2.cell? ⟨w.heap.size, 0, none⟩ = some (.int .i64 s.ses) := HW2.out.1.cell 0
  have xc1 : w2.cell? ⟨w.heap.size, 1, none⟩ = some (.int .i64 s.lim) := HW2.out.1.cell 1
  have xc2 : w2.cell? ⟨w.heap.size, 2, none⟩ = some (.int .i64 s.tmo) := HW2.out.1.cell 2
  have xc3 : w2.cell? ⟨w.heap.size, 3, none⟩ = some (.int .i64 s.base) := HW2.out.1.cell 3
  have xc4 : w2.cell? ⟨w.heap.size, 4, none⟩ = some (.int .i64 s.next) := HW2.out.1.cell 4
  have xc5 : w2.cell? ⟨w.heap.size, 5, none⟩ = some (.int .i64 s.cred) := HW2.out.1.cell 5
  have xc6 : w2.cell? ⟨w.heap.size, 6, none⟩ = some (.slice Ao no co) := HW2.out.1.cell 6
  have xc7 : w2.cell? ⟨w.heap.size, 7, none⟩ = some (.slice Aq nq cq) := HW2.out.1.cell 7
  have xk0 : w2.cell? ⟨w.heap.size + 1, 0, none⟩ = some (.int .i64 p.kind) := HW2.out.2.1.cell 0
  have xk1 : w2.cell? ⟨w.heap.size + 1, 1, none⟩ = some (.int .i64 p.ses) := HW2.out.2.1.cell 1
  have xk2 : w2.cell? ⟨w.heap.size + 1, 2, none⟩ = some (.int .i64 p.seq) := HW2.out.2.1.cell 2
  have xk3 : w2.cell? ⟨w.heap.size + 1, 3, none⟩ = some (.int .i64 p.ack) := HW2.out.2.1.cell 3
  have xk4 : w2.cell? ⟨w.heap.size + 1, 4, none⟩ = some (.int .i64 p.cred) := HW2.out.2.1.cell 4
  have xk5 : w2.cell? ⟨w.heap.size + 1, 5, none⟩ = some (.slice As ns cs) := HW2.out.2.1.cell 5
  have xk6 : w2.cell? ⟨w.heap.size + 1, 6, none⟩ = some (.slice Ap np cp) := HW2.out.2.1.cell 6
  have xd0 : w2.cell? ⟨w.heap.size + 1 + 1, 0, none⟩ = some (.int .i64 0) := HW2.out.2.2.1.cell 0
  have xd1 : w2.cell? ⟨w.heap.size + 1 + 1, 1, none⟩ = some (.int .i64 0) := HW2.out.2.2.1.cell 1
  have xd2 : w2.cell? ⟨w.heap.size + 1 + 1, 2, none⟩ = some (.int .i64 0) := HW2.out.2.2.1.cell 2
  have xd3 : w2.cell? ⟨w.heap.size + 1 + 1, 3, none⟩ = some (.int .i64 0) := HW2.out.2.2.1.cell 3
  have xd4 : w2.cell? ⟨w.heap.size + 1 + 1, 4, none⟩ = some (.int .i64 0) := HW2.out.2.2.1.cell 4
  have xd5 : w2.cell? ⟨w.heap.size + 1 + 1, 5, none⟩ = some (.int .i64 0) := HW2.out.2.2.1.cell 5
  have xd6 : w2.cell? ⟨w.heap.size + 1 + 1, 6, none⟩ = some (.slice none 0 0) := HW2.out.2.2.1.cell 6
  have xd7 : w2.cell? ⟨w.heap.size + 1 + 1, 7, none⟩ = some (.slice none 0 0) := HW2.out.2.2.1.cell 7
  have xy0 := HW2.out.2.2.1.frozen 0
  have xy1 := HW2.out.2.2.1.frozen 1
  have xy2 := HW2.out.2.2.1.frozen 2
  have xy3 := HW2.out.2.2.1.frozen 3
  have xy4 := HW2.out.2.2.1.frozen 4
  have xy5 := HW2.out.2.2.1.frozen 5
  have xy6 := HW2.out.2.2.1.frozen 6
  have xy7 := HW2.out.2.2.1.frozen 7
  have xz0 := HW2.out.1.frozen 0
  have xz1 := HW2.out.1.frozen 1
  have xz2 := HW2.out.1.frozen 2
  have xz3 := HW2.out.1.frozen 3
  have xz4 := HW2.out.1.frozen 4
  have xz5 := HW2.out.1.frozen 5
  have xz6 := HW2.out.1.frozen 6
  have xz7 := HW2.out.1.frozen 7
  have lS := HW2.out.1.lt
  have lK := HW2.out.2.1.lt
  have lO := HW2.out.2.2.1.lt
  by_cases hp : pe = 0
  rotate_left 1
  · have j0 : ((pe : Int) != 0) = true := by simpa using hp
    have HP0 := Lib.hid hp
    clear hp
    have HM : Hid (ackS s now p = (s, -1)) := by
      show _ = _
      unfold ackS
      rw [if_pos]
      unfold acceptB
      rw [decide_eq_false (fun h => HP0.out (HE.out.2.symm.trans h.2.2.1)), Bool.false_and]
    have hkF := set25_blk HW2.out.2.2.1 (.int .i64 s.ses) (.int .i64 s.lim) (.int .i64 s.tmo) (.int .i64 s.base) (.int .i64 s.next) (.int .i64 s.cred) (.slice Ao no co) (.slice Aq nq cq)
    have hbF := set25_below HW2.out.2.2.2 (g := w.heap.size + 1 + 1) (by omega) (.int .i64 s.ses) (.int .i64 s.lim) (.int .i64 s.tmo) (.int .i64 s.base) (.int .i64 s.next) (.int .i64 s.cred) (.slice Ao no co) (.slice Aq nq cq)
    have HF := Lib.hid (And.intro hkF hbF)
    clear hkF hbF
    go_wp2_with fail
    refine bodyPost_ret (results_cell_tmp (t := 25) rfl _ _ (w.heap.size + 1 + 1) _ _ rfl HF.out.1 Try.underlying25 rfl (by kernel_rfl)) rfl ?_
    exact ⟨⟨_, _, rfl, by rw [HM.out]; exact HV.out.up HF.out.2, by rw [HM.out]⟩, HF.out.2⟩
  have j0 : ((pe : Int) != 0) = false := by simp [hp]
  have HP0 : Hid (chkP p = 0) := by show _ = _; rw [HE.out.2, hp]
  clear hp
  by_cases hk : p.kind = 1
  rotate_left 1
  · have j1 : (p.kind != 1) = true := by simpa using hk
    have HK := Lib.hid hk
    clear hk
    have HM : Hid (ackS s now p = (s, -1)) := by
      show _ = _
      unfold ackS
      rw [if_pos]
      unfold acceptB
      rw [decide_eq_false (fun h => HK.out h.2.2.2.1), Bool.false_and]
    have hkF := set25_blk HW2.out.2.2.1 (.int .i64 s.ses) (.int .i64 s.lim) (.int .i64 s.tmo) (.int .i64 s.base) (.int .i64 s.next) (.int .i64 s.cred) (.slice Ao no co) (.slice Aq nq cq)
    have hbF := set25_below HW2.out.2.2.2 (g := w.heap.size + 1 + 1) (by omega) (.int .i64 s.ses) (.int .i64 s.lim) (.int .i64 s.tmo) (.int .i64 s.base) (.int .i64 s.next) (.int .i64 s.cred) (.slice Ao no co) (.slice Aq nq cq)
    have HF := Lib.hid (And.intro hkF hbF)
    clear hkF hbF
    go_wp2_with fail
    refine bodyPost_ret (results_cell_tmp (t := 25) rfl _ _ (w.heap.size + 1 + 1) _ _ rfl HF.out.1 Try.underlying25 rfl (by kernel_rfl)) rfl ?_
    exact ⟨⟨_, _, rfl, by rw [HM.out]; exact HV.out.up HF.out.2, by rw [HM.out]⟩, HF.out.2⟩
  have j1 : (p.kind != 1) = false := by simpa using hk
  have HK := Lib.hid hk
  clear hk
  by_cases hd : p.ses = s.ses
  rotate_left 1
  · have j2 : (p.ses != s.ses) = true := by simpa using hd
    have HD := Lib.hid hd
    clear hd
    have HM : Hid (ackS s now p = (s, -1)) := by
      show _ = _
      unfold ackS
      rw [if_pos]
      unfold acceptB
      rw [decide_eq_false (fun h => HD.out h.2.2.2.2.1), Bool.false_and]
    have hkF := set25_blk HW2.out.2.2.1 (.int .i64 s.ses) (.int .i64 s.lim) (.int .i64 s.tmo) (.int .i64 s.base) (.int .i64 s.next) (.int .i64 s.cred) (.slice Ao no co) (.slice Aq nq cq)
    have hbF := set25_below HW2.out.2.2.2 (g := w.heap.size + 1 + 1) (by omega) (.int .i64 s.ses) (.int .i64 s.lim) (.int .i64 s.tmo) (.int .i64 s.base) (.int .i64 s.next) (.int .i64 s.cred) (.slice Ao no co) (.slice Aq nq cq)
    have HF := Lib.hid (And.intro hkF hbF)
    clear hkF hbF
    go_wp2_with fail
    refine bodyPost_ret (results_cell_tmp (t := 25) rfl _ _ (w.heap.size + 1 + 1) _ _ rfl HF.out.1 Try.underlying25 rfl (by kernel_rfl)) rfl ?_
    exact ⟨⟨_, _, rfl, by rw [HM.out]; exact HV.out.up HF.out.2, by rw [HM.out]⟩, HF.out.2⟩
  have j2 : (p.ses != s.ses) = false := by simpa using hd
  have HD := Lib.hid hd
  clear hd
  by_cases ha : p.ack < s.base
  · have j3 : decide (p.ack < s.base) = true := decide_eq_true ha
    have HA1 := Lib.hid ha
    clear ha
    have HM : Hid (ackS s now p = (s, -1)) := by
      show _ = _
      unfold ackS
      rw [if_pos]
      unfold acceptB
      rw [decide_eq_false (fun h => by have h1 := h.2.2.2.2.2.1; have h2 := HA1.out; omega), Bool.false_and]
    have hkF := set25_blk HW2.out.2.2.1 (.int .i64 s.ses) (.int .i64 s.lim) (.int .i64 s.tmo) (.int .i64 s.base) (.int .i64 s.next) (.int .i64 s.cred) (.slice Ao no co) (.slice Aq nq cq)
    have hbF := set25_below HW2.out.2.2.2 (g := w.heap.size + 1 + 1) (by omega) (.int .i64 s.ses) (.int .i64 s.lim) (.int .i64 s.tmo) (.int .i64 s.base) (.int .i64 s.next) (.int .i64 s.cred) (.slice Ao no co) (.slice Aq nq cq)
    have HF := Lib.hid (And.intro hkF hbF)
    clear hkF hbF
    go_wp2_with fail
    refine bodyPost_ret (results_cell_tmp (t := 25) rfl _ _ (w.heap.size + 1 + 1) _ _ rfl HF.out.1 Try.underlying25 rfl (by kernel_rfl)) rfl ?_
    exact ⟨⟨_, _, rfl, by rw [HM.out]; exact HV.out.up HF.out.2, by rw [HM.out]⟩, HF.out.2⟩
  have j3 : decide (p.ack < s.base) = false := decide_eq_false ha
  have HA1 := Lib.hid ha
  clear ha
  by_cases hz : s.next < p.ack
  · have j4 : decide (s.next < p.ack) = true := decide_eq_true hz
    have HZ := Lib.hid hz
    clear hz
    have HM : Hid (ackS s now p = (s, -1)) := by
      show _ = _
      unfold ackS
      rw [if_pos]
      unfold acceptB
      rw [decide_eq_false (fun h => by have h1 := h.2.2.2.2.2.2; have h2 := HZ.out; omega), Bool.false_and]
    have hkF := set25_blk HW2.out.2.2.1 (.int .i64 s.ses) (.int .i64 s.lim) (.int .i64 s.tmo) (.int .i64 s.base) (.int .i64 s.next) (.int .i64 s.cred) (.slice Ao no co) (.slice Aq nq cq)
    have hbF := set25_below HW2.out.2.2.2 (g := w.heap.size + 1 + 1) (by omega) (.int .i64 s.ses) (.int .i64 s.lim) (.int .i64 s.tmo) (.int .i64 s.base) (.int .i64 s.next) (.int .i64 s.cred) (.slice Ao no co) (.slice Aq nq cq)
    have HF := Lib.hid (And.intro hkF hbF)
    clear hkF hbF
    go_wp2_with fail
    refine bodyPost_ret (results_cell_tmp (t := 25) rfl _ _ (w.heap.size + 1 + 1) _ _ rfl HF.out.1 Try.underlying25 rfl (by kernel_rfl)) rfl ?_
    exact ⟨⟨_, _, rfl, by rw [HM.out]; exact HV.out.up HF.out.2, by rw [HM.out]⟩, HF.out.2⟩
  have j4 : decide (s.next < p.ack) = false := decide_eq_false hz
  have HZ := Lib.hid hz
  clear hz
  have hdec : decide (chkS s = 0 ∧ (0 ≤ now ∧ now ≤ 1073741824) ∧ chkP p = 0 ∧ p.kind = 1 ∧ p.ses = s.ses ∧ s.base ≤ p.ack ∧ p.ack ≤ s.next) = true := decide_eq_true ⟨HE0.out, HN.out, HP0.out, HK.out, HD.out, by have := HA1.out; omega, by have := HZ.out; omega⟩
  have HDEC := Lib.hid hdec
  clear hdec
  go_upto_region 4 with fail
  by_cases hns0 : ns = 0
  · have kn0 : decide ((0 : Int) < (ns : Int)) = false := decide_eq_false (by omega)
    have kn0b : (0 < ns) = False := eq_false (by omega)
    have HNS := Lib.hid hns0
    clear hns0
    have HACC : Hid (acceptB s now p = true) := by show _ = _; unfold acceptB; rw [HDEC.out, List.eq_nil_of_length_eq_zero (HL.out.2.2.1.trans HNS.out)]; rfl
    refine wp_region_lexP [(0, 1), (1, 1), (2, 1), (3, 1), (5, 1), (10, 1), (12, 1), (18, 1), (4, 1), (6, 1), (11, 1), (13, 1), (19, 1), (7, 1), (14, 1), (8, 1), (15, 1), (9, 1), (16, 1), (17, 1), (20, 1), (21, 1)] [] (fun w9 => w9.cell? ⟨w.heap.size, 4, none⟩ = some (.int .i64 s.next)) (by kernel_rfl) (by kernel_rfl) (by kernel_rfl) (by kernel_rfl) (by kernel_rfl) xc4 ?_
    repeat ((first | (refine lexP_read rfl (by rfl) (by first | exact wanted_none rfl | exact wanted_some (b := true) (c := true) rfl rfl rfl | exact wanted_some (b := false) (c := false) rfl rfl rfl) (by intro w9 hS9; (try dsimp only at hS9); go_simp <;> with_reducible rfl) ?_) | (refine lexP_skip rfl (fun _ => trivial) (by first | exact wanted_some (b := true) (c := false) rfl rfl rfl | exact wanted_some (b := false) (c := true) rfl rfl rfl) ?_) | (refine lexP_builtin rfl (fun _ => trivial) (by first | exact wanted_none rfl | exact wanted_some (b := true) (c := true) rfl rfl rfl | exact wanted_some (b := false) (c := false) rfl rfl rfl) (by intro w9 hS9; (try dsimp only at hS9); go_simp <;> with_reducible rfl) ?_)); (try simp only [Act.put, List.getElem_toArray, List.getElem_cons_succ, List.getElem_cons_zero, List.setIfInBounds_toArray, List.set_cons_zero, List.set_cons_succ]))
    refine lexP_nil (panQ_normal ?_)
    have HW3 := Lib.hid (And.intro (HW2.out.1.below (Below.refl _ w2).drew HW2.out.1.lt) (And.intro (HW2.out.2.1.below (Below.refl _ w2).drew HW2.out.2.1.lt) (And.intro (HW2.out.2.2.1.below (Below.refl _ w2).drew HW2.out.2.2.1.lt) HW2.out.2.2.2.drew)))
    clear xc0 xc1 xc2 xc3 xc4 xc5 xc6 xc7 xk0 xk1 xk2 xk3 xk4 xk5 xk6 xd0 xd1 xd2 xd3 xd4 xd5 xd6 xd7 xy0 xy1 xy2 xy3 xy4 xy5 xy6 xy7 xz0 xz1 xz2 xz3 xz4 xz5 xz6 xz7 lS lK lO HW1 HW2
    generalize w2.drew = w3 at *
    have xc0 : w3.cell? ⟨w.heap.size, 0, none⟩ = some (.int .i64 s.ses) := HW3.out.1.cell 0
    have xc1 : w3.cell? ⟨w.heap.size, 1, none⟩ = some (.int .i64 s.lim) := HW3.out.1.cell 1
    have xc2 : w3.cell? ⟨w.heap.size, 2, none⟩ = some (.int .i64 s.tmo) := HW3.out.1.cell 2
    have xc3 : w3.cell? ⟨w.heap.size, 3, none⟩ = some (.int .i64 s.base) := HW3.out.1.cell 3
    have xc4 : w3.cell? ⟨w.heap.size, 4, none⟩ = some (.int .i64 s.next) := HW3.out.1.cell 4
    have xc5 : w3.cell? ⟨w.heap.size, 5, none⟩ = some (.int .i64 s.cred) := HW3.out.1.cell 5
    have xc6 : w3.cell? ⟨w.heap.size, 6, none⟩ = some (.slice Ao no co) := HW3.out.1.cell 6
    have xc7 : w3.cell? ⟨w.heap.size, 7, none⟩ = some (.slice Aq nq cq) := HW3.out.1.cell 7
    have xk0 : w3.cell? ⟨w.heap.size + 1, 0, none⟩ = some (.int .i64 p.kind) := HW3.out.2.1.cell 0
    have xk1 : w3.cell? ⟨w.heap.size + 1, 1, none⟩ = some (.int .i64 p.ses) := HW3.out.2.1.cell 1
    have xk2 : w3.cell? ⟨w.heap.size + 1, 2, none⟩ = some (.int .i64 p.seq) := HW3.out.2.1.cell 2
    have xk3 : w3.cell? ⟨w.heap.size + 1, 3, none⟩ = some (.int .i64 p.ack) := HW3.out.2.1.cell 3
    have xk4 : w3.cell? ⟨w.heap.size + 1, 4, none⟩ = some (.int .i64 p.cred) := HW3.out.2.1.cell 4
    have xk5 : w3.cell? ⟨w.heap.size + 1, 5, none⟩ = some (.slice As ns cs) := HW3.out.2.1.cell 5
    have xk6 : w3.cell? ⟨w.heap.size + 1, 6, none⟩ = some (.slice Ap np cp) := HW3.out.2.1.cell 6
    have xd0 : w3.cell? ⟨w.heap.size + 1 + 1, 0, none⟩ = some (.int .i64 0) := HW3.out.2.2.1.cell 0
    have xd1 : w3.cell? ⟨w.heap.size + 1 + 1, 1, none⟩ = some (.int .i64 0) := HW3.out.2.2.1.cell 1
    have xd2 : w3.cell? ⟨w.heap.size + 1 + 1, 2, none⟩ = some (.int .i64 0) := HW3.out.2.2.1.cell 2
    have xd3 : w3.cell? ⟨w.heap.size + 1 + 1, 3, none⟩ = some (.int .i64 0) := HW3.out.2.2.1.cell 3
    have xd4 : w3.cell? ⟨w.heap.size + 1 + 1, 4, none⟩ = some (.int .i64 0) := HW3.out.2.2.1.cell 4
    have xd5 : w3.cell? ⟨w.heap.size + 1 + 1, 5, none⟩ = some (.int .i64 0) := HW3.out.2.2.1.cell 5
    have xd6 : w3.cell? ⟨w.heap.size + 1 + 1, 6, none⟩ = some (.slice none 0 0) := HW3.out.2.2.1.cell 6
    have xd7 : w3.cell? ⟨w.heap.size + 1 + 1, 7, none⟩ = some (.slice none 0 0) := HW3.out.2.2.1.cell 7
    have xy0 := HW3.out.2.2.1.frozen 0
    have xy1 := HW3.out.2.2.1.frozen 1
    have xy2 := HW3.out.2.2.1.frozen 2
    have xy3 := HW3.out.2.2.1.frozen 3
    have xy4 := HW3.out.2.2.1.frozen 4
    have xy5 := HW3.out.2.2.1.frozen 5
    have xy6 := HW3.out.2.2.1.frozen 6
    have xy7 := HW3.out.2.2.1.frozen 7
    have xz0 := HW3.out.1.frozen 0
    have xz1 := HW3.out.1.frozen 1
    have xz2 := HW3.out.1.frozen 2
    have xz3 := HW3.out.1.frozen 3
    have xz4 := HW3.out.1.frozen 4
    have xz5 := HW3.out.1.frozen 5
    have xz6 := HW3.out.1.frozen 6
    have xz7 := HW3.out.1.frozen 7
    have lS := HW3.out.1.lt
    have lK := HW3.out.2.1.lt
    have lO := HW3.out.2.2.1.lt
    have HOK := Lib.hid (And.intro HE0.out (And.intro (chkS_rng HE0.out) (And.intro (chkP_ok HP0.out) (And.intro (chkP_bd HP0.out) (fun k (h : k < s.out.length) => (outE_ok (outsE_at s.base s.out 0 (chkS_rng HE0.out).outs k h)).2.2.2.1)))))
    have hc3 := refCopySender_any s _ base w3 (HV.out.up HW3.out.2.2.2) HSM.out.1 (chkS_pay HE0.out).1 (chkS_pay HE0.out).2 (Nat.le_trans hbw HW3.out.2.2.2.size)
    unfold snC at hc3
    have HC3 := Lib.hid hc3
    clear hc3
    go_wp2_with fail
    refine HC3.out.mono ?_
    clear HC3
    rintro e w4 ⟨⟨vo2, vq2, es, qs, rfl, hO2, hom, hQ2, hqm⟩, hb1⟩
    clear xc0 xc1 xc2 xc3 xc4 xc5 xc6 xc7 xk0 xk1 xk2 xk3 xk4 xk5 xk6 xd0 xd1 xd2 xd3 xd4 xd5 xd6 xd7 xy0 xy1 xy2 xy3 xy4 xy5 xy6 xy7 xz0 xz1 xz2 xz3 xz4 xz5 xz6 xz7 lS lK lO
    have HW4 := Lib.hid (And.intro (HW3.out.1.below hb1 HW3.out.1.lt) (And.intro (HW3.out.2.1.below hb1 HW3.out.2.1.lt) (And.intro (HW3.out.2.2.1.below hb1 HW3.out.2.2.1.lt) (HW3.out.2.2.2.trans (hb1.mono HW3.out.2.2.2.size)))))
    clear hb1
    obtain ⟨A2, c2, rfl, -, -⟩ := hO2.vform
    obtain ⟨Aq2, cq2, rfl, -, -⟩ := hQ2.vform
    have hle : es.length = no := by rw [← HL.out.1, ← hom, List.length_map]
    have hlq : qs.length = nq := by rw [← HL.out.2.1, ← hqm, List.length_map]
    rw [hle] at hO2 ⊢
    rw [hlq] at hQ2 ⊢
    have HQ := Lib.hid (And.intro hle (And.intro hlq (And.intro hom hqm)))
    clear hle hlq hom hqm
    unfold snC
    have xc0 : w4.cell? ⟨w.heap.size, 0, none⟩ = some (.int .i64 s.ses) := HW4.out.1.cell 0
    have xc1 : w4.cell? ⟨w.heap.size, 1, none⟩ = some (.int .i64 s.lim) := HW4.out.1.cell 1
    have xc2 : w4.cell? ⟨w.heap.size, 2, none⟩ = some (.int .i64 s.tmo) := HW4.out.1.cell 2
    have xc3 : w4.cell? ⟨w.heap.size, 3, none⟩ = some (.int .i64 s.base) := HW4.out.1.cell 3
    have xc4 : w4.cell? ⟨w.heap.size, 4, none⟩ = some (.int .i64 s.next) := HW4.out.1.cell 4
    have xc5 : w4.cell? ⟨w.heap.size, 5, none⟩ = some (.int .i64 s.cred) := HW4.out.1.cell 5
    have xc6 : w4.cell? ⟨w.heap.size, 6, none⟩ = some (.slice Ao no co) := HW4.out.1.cell 6
    have xc7 : w4.cell? ⟨w.heap.size, 7, none⟩ = some (.slice Aq nq cq) := HW4.out.1.cell 7
    have xz0 := HW4.out.1.frozen 0
    have xz1 := HW4.out.1.frozen 1
    have xz2 := HW4.out.1.frozen 2
    have xz3 := HW4.out.1.frozen 3
    have xz4 := HW4.out.1.frozen 4
    have xz5 := HW4.out.1.frozen 5
    have xz6 := HW4.out.1.frozen 6
    have xz7 := HW4.out.1.frozen 7
    have lS := HW4.out.1.lt
    have hkS := set25_blk HW4.out.1 (.int .i64 s.ses) (.int .i64 s.lim) (.int .i64 s.tmo) (.int .i64 s.base) (.int .i64 s.next) (.int .i64 s.cred) (.slice A2 no c2) (.slice Aq2 nq cq2)
    have hkK := set25_other HW4.out.2.1 (g := w.heap.size) (by omega) (.int .i64 s.ses) (.int .i64 s.lim) (.int .i64 s.tmo) (.int .i64 s.base) (.int .i64 s.next) (.int .i64 s.cred) (.slice A2 no c2) (.slice Aq2 nq cq2)
    have hkO := set25_other HW4.out.2.2.1 (g := w.heap.size) (by omega) (.int .i64 s.ses) (.int .i64 s.lim) (.int .i64 s.tmo) (.int .i64 s.base) (.int .i64 s.next) (.int .i64 s.cred) (.slice A2 no c2) (.slice Aq2 nq cq2)
    have hT0 := set25_turn HW4.out.1 hbw (.int .i64 s.ses) (.int .i64 s.lim) (.int .i64 s.tmo) (.int .i64 s.base) (.int .i64 s.next) (.int .i64 s.cred) (.slice A2 no c2) (.slice Aq2 nq cq2)
    have hb0 := set25_below HW4.out.2.2.2 (g := w.heap.size) (Nat.le_refl _) (.int .i64 s.ses) (.int .i64 s.lim) (.int .i64 s.tmo) (.int .i64 s.base) (.int .i64 s.next) (.int .i64 s.cred) (.slice A2 no c2) (.slice Aq2 nq cq2)
    have HI0 : Hid (AckI w base p #[.int .i64 s.ses, .int .i64 s.lim, .int .i64 s.tmo, .int .i64 s.base, .int .i64 s.next, .int .i64 s.cred, .slice A2 no c2, .slice Aq2 nq cq2] #[.int .i64 p.kind, .int .i64 p.ses, .int .i64 p.seq, .int .i64 p.ack, .int .i64 p.cred, .slice As ns cs, .slice Ap np cp] #[.int .i64 0, .int .i64 0, .int .i64 0, .int .i64 0, .int .i64 0, .int .i64 0, .slice none 0 0, .slice none 0 0] (.slice A2 no c2) (.slice Aq2 nq cq2) es qs 0 ((((((((w4.setCell ⟨w.heap.size, 0, none⟩ (.int .i64 s.ses)).setCell ⟨w.heap.size, 1, none⟩ (.int .i64 s.lim)).setCell ⟨w.heap.size, 2, none⟩ (.int .i64 s.tmo)).setCell ⟨w.heap.size, 3, none⟩ (.int .i64 s.base)).setCell ⟨w.heap.size, 4, none⟩ (.int .i64 s.next)).setCell ⟨w.heap.size, 5, none⟩ (.int .i64 s.cred)).setCell ⟨w.heap.size, 6, none⟩ (.slice A2 no c2)).setCell ⟨w.heap.size, 7, none⟩ (.slice Aq2 nq cq2))) := ⟨hkS, hkK, hkO, hb0, by rw [updE_zero]; exact (hO2.turn hT0 (by simp) (oeR_ab (by simp))).low HW3.out.2.2.2.size, (hQ2.turn hT0 (by simp) (qeR_ab (by simp))).low HW3.out.2.2.2.size⟩
    clear hkS hkK hkO hT0 hb0 hO2 hQ2
    go_upto_region 7 with fail
    generalize ((((((((w4.setCell ⟨w.heap.size, 0, none⟩ (.int .i64 s.ses)).setCell ⟨w.heap.size, 1, none⟩ (.int .i64 s.lim)).setCell ⟨w.heap.size, 2, none⟩ (.int .i64 s.tmo)).setCell ⟨w.heap.size, 3, none⟩ (.int .i64 s.base)).setCell ⟨w.heap.size, 4, none⟩ (.int .i64 s.next)).setCell ⟨w.heap.size, 5, none⟩ (.int .i64 s.cred)).setCell ⟨w.heap.size, 6, none⟩ (.slice A2 no c2)).setCell ⟨w.heap.size, 7, none⟩ (.slice Aq2 nq cq2)) = V at *
    clear xc0 xc1 xc2 xc3 xc4 xc5 xc6 xc7 xz0 xz1 xz2 xz3 xz4 xz5 xz6 xz7 lS
    have xc3 : V.cell? ⟨w.heap.size, 3, none⟩ = some (.int .i64 s.base) := HI0.out.bs.cell 3
    have xc5 : V.cell? ⟨w.heap.size, 5, none⟩ = some (.int .i64 s.cred) := HI0.out.bs.cell 5
    have xk3 : V.cell? ⟨w.heap.size + 1, 3, none⟩ = some (.int .i64 p.ack) := HI0.out.bk.cell 3
    have xk4 : V.cell? ⟨w.heap.size + 1, 4, none⟩ = some (.int .i64 p.cred) := HI0.out.bk.cell 4
    have b1 := HOK.out.2.1.base
    have b2 := HOK.out.2.1.cred
    have b3 := HOK.out.2.2.1.2.1
    have b4 := HOK.out.2.2.1.2.2.1
    have b5 := HN.out
    have b6 := HOK.out.2.1.out
    have b7 := HOK.out.2.1.lim
    rw [HL.out.1] at b6
    have kw1 : IntKind.i64.wrap (s.base + s.cred) = s.base + s.cred := by rw [IntWalk.i64_in _ (by omega)]
    have kw2 : IntKind.i64.wrap (p.ack + p.cred) = p.ack + p.cred := by rw [IntWalk.i64_in _ (by omega)]
    obtain ⟨gr, hgr⟩ : ∃ x, x = max (s.base + s.cred) (p.ack + p.cred) := ⟨_, rfl⟩
    have hmax := max_run _ _ _ hgr
    have HGR := Lib.hid hgr
    clear hgr
    go_wp2_with fail
    clear hmax kw1 kw2 xc3 xc5 xk3 xk4
    go_loopw [10, 11] (fun v10 v11 wr => ∃ k : Nat, k ≤ no ∧ v11 = .int .i64 k ∧ v10 = .int .i64 ((s.out.take k).foldl (samp p now) (-1)) ∧ AckI w base p #[.int .i64 s.ses, .int .i64 s.lim, .int .i64 s.tmo, .int .i64 s.base, .int .i64 s.next, .int .i64 s.cred, .slice A2 no c2, .slice Aq2 nq cq2] #[.int .i64 p.kind, .int .i64 p.ses, .int .i64 p.seq, .int .i64 p.ack, .int .i64 p.cred, .slice As ns cs, .slice Ap np cp] #[.int .i64 0, .int .i64 0, .int .i64 0, .int .i64 0, .int .i64 0, .int .i64 0, .slice none 0 0, .slice none 0 0] (.slice A2 no c2) (.slice Aq2 nq cq2) es qs k wr) (fun _ v11 _ => no - (intOf v11).toNat)
    case atStart => exact ⟨0, by omega, rfl, rfl, HI0.out⟩
    case round =>
      obtain ⟨k, hk, rfl, rfl, hI⟩ := hrel
      have HI := Lib.hid hI
      clear hI HI0
      by_cases hlt : k < no
      · have ik : (k : Int) < no := by omega
        have hke : k < es.length := by rw [HQ.out.1]; exact hlt
        have hks : k < s.out.length := by rw [HL.out.1]; exact hlt
        have hsk : s.out[k] = es[k].om := by
          have h2 : s.out[k]? = (es.map Oe.om)[k]? := by rw [HQ.out.2.2.1]
          rw [List.getElem?_map, List.getElem?_eq_getElem hke, List.getElem?_eq_getElem hks] at h2
          injection h2
        have hkl : k < (updE (ackE p) k es).length := by rw [updE_len]; exact hke
        have hat := updE_at (ackE p) es hke hkl
        obtain ⟨g, cc, cur, hv, hg, hbl, _, _, hcell⟩ := HI.out.own.form encO_len (by omega)
        injection hv with hA hn2 hc
        subst hA hc
        clear hn2
        have hcell := hcell k hkl
        rw [hat] at hcell
        have htm := HOK.out.2.2.2.2 k hks
        have hfs := fold_succ (samp p now) (-1) s.out k hks
        rw [hsk] at htm hfs
        obtain ⟨E, hE⟩ : ∃ E, E = es[k] := ⟨_, rfl⟩
        rw [← hE] at hcell htm hfs
        obtain ⟨d0, -⟩ := hcell 0 _ rfl
        obtain ⟨d1, -⟩ := hcell 1 _ rfl
        obtain ⟨d2, -⟩ := hcell 2 _ rfl
        obtain ⟨d3, z3⟩ := hcell 3 _ rfl
        obtain ⟨d4, -⟩ := hcell 4 _ rfl
        rw [Nat.add_zero] at d0
        have hgl := hbl.lt
        change 0 ≤ E.time ∧ E.time ≤ 1073741824 at htm
        obtain ⟨ak, hak⟩ : ∃ x, x = E.ak := ⟨_, rfl⟩
        obtain ⟨ab, hab⟩ : ∃ x, x = ackedB p E.seq := ⟨_, rfl⟩
        obtain ⟨sv, hsv⟩ : ∃ x, x = (s.out.take k).foldl (samp p now) (-1) := ⟨_, rfl⟩
        rw [← hak] at d3
        rw [← hsv]
        have HX := Lib.hid (And.intro hke (And.intro hE hak))
        have HA : Hid (ackE p es[k] = (if (!ak && ab) = true then { es[k] with ak := true } else es[k])) := by show _ = _; unfold ackE; rw [← hE, hak, hab]
        have HF : Hid ((s.out.take (k + 1)).foldl (samp p now) (-1) = if (!ak && ab) = true ∧ E.cnt = 1 ∧ E.time ≤ now then now - E.time else sv) := by
          show _ = _
          rw [hfs, ← hsv]
          unfold samp Oe.om
          dsimp only
          rw [hak, hab]
        have HAB := Lib.hid hab
        clear hcell hsk hat hfs hbl hE hak hab hsv hkl hks
        have xc6 : wr.cell? ⟨w.heap.size, 6, none⟩ = some (.slice (some ⟨g, 0, none⟩) no c2) := HI.out.bs.cell 6
        have lS := HI.out.bs.lt
        have hbX : Below wr.heap.size wr (wr.alloc (.cells #[.int .i64 E.seq, .int .i64 E.time, .int .i64 E.cnt, .bool ak, .slice E.A E.p.length E.c] 82)) := (Below.refl _ _).alloc (Nat.le_refl _) _
        have HI2 := Lib.hid (And.intro (HI.out.below hbX) (And.intro (Blk.new wr 82 #[.int .i64 E.seq, .int .i64 E.time, .int .i64 E.cnt, .bool ak, .slice E.A E.p.length E.c]) hbX))
        clear hbX
        cases ak with
        | true =>
          have HS := Lib.hid (HI2.out.1.skip HX.out.1 (by rw [HA.out]; rfl))
          have HF2 : Hid ((s.out.take (k + 1)).foldl (samp p now) (-1) = sv) := by show _ = _; rw [HF.out, if_neg (by simp)]
          go_wp2_with fail
          go_roundw
          case rel => exact ⟨k + 1, by omega, by go_num, by rw [HF2.out], HS.out⟩
          case measure => simp [intOf]; omega
        | false =>
          have xk0 : (wr.alloc (.cells #[.int .i64 E.seq, .int .i64 E.time, .int .i64 E.cnt, .bool false, .slice E.A E.p.length E.c] 82)).cell? ⟨w.heap.size + 1, 0, none⟩ = some (.int .i64 p.kind) := HI2.out.1.bk.cell 0
          have xk1 : (wr.alloc (.cells #[.int .i64 E.seq, .int .i64 E.time, .int .i64 E.cnt, .bool false, .slice E.A E.p.length E.c] 82)).cell? ⟨w.heap.size + 1, 1, none⟩ = some (.int .i64 p.ses) := HI2.out.1.bk.cell 1
          have xk2 : (wr.alloc (.cells #[.int .i64 E.seq, .int .i64 E.time, .int .i64 E.cnt, .bool false, .slice E.A E.p.length E.c] 82)).cell? ⟨w.heap.size + 1, 2, none⟩ = some (.int .i64 p.seq) := HI2.out.1.bk.cell 2
          have xk3 : (wr.alloc (.cells #[.int .i64 E.seq, .int .i64 E.time, .int .i64 E.cnt, .bool false, .slice E.A E.p.length E.c] 82)).cell? ⟨w.heap.size + 1, 3, none⟩ = some (.int .i64 p.ack) := HI2.out.1.bk.cell 3
          have xk4 : (wr.alloc (.cells #[.int .i64 E.seq, .int .i64 E.time, .int .i64 E.cnt, .bool false, .slice E.A E.p.length E.c] 82)).cell? ⟨w.heap.size + 1, 4, none⟩ = some (.int .i64 p.cred) := HI2.out.1.bk.cell 4
          have xk5 : (wr.alloc (.cells #[.int .i64 E.seq, .int .i64 E.time, .int .i64 E.cnt, .bool false, .slice E.A E.p.length E.c] 82)).cell? ⟨w.heap.size + 1, 5, none⟩ = some (.slice As ns cs) := HI2.out.1.bk.cell 5
          have xk6 : (wr.alloc (.cells #[.int .i64 E.seq, .int .i64 E.time, .int .i64 E.cnt, .bool false, .slice E.A E.p.length E.c] 82)).cell? ⟨w.heap.size + 1, 6, none⟩ = some (.slice Ap np cp) := HI2.out.1.bk.cell 6
          have lK := HI2.out.1.bk.lt
          go_wp2_with fail
          refine (refacked_any p E.seq _ base _ (HP.out.up HI2.out.1.bel) HOK.out.2.2.2.1 HSM.out.2.sel).mono ?_
          rintro e w1 ⟨rfl, hb1⟩
          have hbW := HI2.out.2.2.trans (hb1.mono HI2.out.2.2.size)
          have e3 := (hbW.cell (p := ⟨g, k * 5 + 3, none⟩) hgl).trans d3
          have ez3 := (hbW.frozen (p := ⟨g, k * 5 + 3, none⟩) hgl).trans z3
          have hgl1 := Nat.lt_of_lt_of_le hgl hbW.size
          have HI1 := Lib.hid (And.intro (HI2.out.1.below hb1) (HI2.out.2.1.below hb1 HI2.out.2.1.lt))
          rw [← HAB.out]
          clear hb1 hbW xc6 d0 d1 d2 d3 d4 z3 lS lK xk0 xk1 xk2 xk3 xk4 xk5 xk6
          have yc6 : w1.cell? ⟨w.heap.size, 6, none⟩ = some (.slice (some ⟨g, 0, none⟩) no c2) := HI1.out.1.bs.cell 6
          cases ab with
          | false =>
            have HS := Lib.hid (HI1.out.1.skip HX.out.1 (by rw [HA.out]; rfl))
            have HF2 : Hid ((s.out.take (k + 1)).foldl (samp p now) (-1) = sv) := by show _ = _; rw [HF.out, if_neg (by simp)]
            go_wp2_with fail
            go_roundw
            case rel => exact ⟨k + 1, by omega, by go_num, by rw [HF2.out], HS.out⟩
            case measure => simp [intOf]; omega
          | true =>
            have HS := Lib.hid (HI1.out.1.set hbw HQ.out.1 HX.out.1 (by rw [HA.out]; rfl) hg)
            have hX9 := HI1.out.2.far (p := ⟨g, k * 5 + 3, none⟩) (by dsimp only; omega) (.bool true)
            have q1 : (w1.setCell ⟨g, k * 5 + 3, none⟩ (.bool true)).cell? ⟨wr.heap.size, 1, none⟩ = some (.int .i64 E.time) := hX9.cell 1
            have q2 : (w1.setCell ⟨g, k * 5 + 3, none⟩ (.bool true)).cell? ⟨wr.heap.size, 2, none⟩ = some (.int .i64 E.cnt) := hX9.cell 2
            clear hX9
            have kwn : IntKind.i64.wrap (now - E.time) = now - E.time := by rw [IntWalk.i64_in _ (by omega)]
            go_upto_region 15 with fail
            clear yc6 e3 ez3 hgl1
            obtain ⟨X, hX⟩ : ∃ x, x = wr.heap.size := ⟨_, rfl⟩
            rw [← hX] at q1 q2 ⊢
            clear hX
            generalize (w1.setCell ⟨g, k * 5 + 3, none⟩ (.bool true)) = W5 at *
            by_cases hc1 : E.cnt = 1
            rotate_left 1
            · have k1 : ((E.cnt : Int) == 1) = false := by simpa using hc1
              have HF2 : Hid ((s.out.take (k + 1)).foldl (samp p now) (-1) = sv) := by show _ = _; rw [HF.out, if_neg (fun h => hc1 h.2.1)]
              clear hc1
              go_wp2_with fail
              go_roundw
              case rel => exact ⟨k + 1, by omega, by go_num, by rw [HF2.out], HS.out⟩
              case measure => simp [intOf]; omega
            have k1 : ((E.cnt : Int) == 1) = true := by simpa using hc1
            by_cases hc2 : E.time ≤ now
            rotate_left 1
            · have k2 : decide (E.time ≤ now) = false := decide_eq_false hc2
              have HF2 : Hid ((s.out.take (k + 1)).foldl (samp p now) (-1) = sv) := by show _ = _; rw [HF.out, if_neg (fun h => hc2 h.2.2)]
              clear hc2 hc1
              go_wp2_with fail
              go_roundw
              case rel => exact ⟨k + 1, by omega, by go_num, by rw [HF2.out], HS.out⟩
              case measure => simp [intOf]; omega
            have k2 : decide (E.time ≤ now) = true := decide_eq_true hc2
            have HF2 : Hid ((s.out.take (k + 1)).foldl (samp p now) (-1) = now - E.time) := by show _ = _; rw [HF.out, if_pos ⟨rfl, hc1, hc2⟩]
            clear hc2 hc1
            go_wp2_with fail
            go_roundw
            case rel => exact ⟨k + 1, by omega, by go_num, by rw [HF2.out], HS.out⟩
            case measure => simp [intOf]; omega
      · obtain rfl : k = no := by omega
        obtain ⟨wo, hwo⟩ : ∃ x : World, x = wr := ⟨_, rfl⟩
        subst hwo
        have hfold : (s.out.take k).foldl (samp p now) (-1) = s.out.foldl (samp p now) (-1) := by rw [List.take_of_length_le (by rw [HL.out.1]; exact Nat.le_refl _)]
        rw [hfold]
        clear hfold
        obtain ⟨L, hL⟩ : ∃ L, L = es.map (ackE p) := ⟨_, rfl⟩
        have hLm : L.map Oe.om = s.out.map (ackO p) := by
          rw [hL, ← HQ.out.2.2.1, List.map_map, List.map_map]
          apply List.map_congr_left
          intro e _
          exact ackE_om p e
        have hLn : L.length = k := by rw [hL, List.length_map, HQ.out.1]
        have hJ0 : Hid (AckJ w base s (.slice A2 k c2) (.slice Aq2 nq cq2) L qs 0 wo) := by
          refine ⟨?_, HI.out.bo, ?_, HI.out.bq, HI.out.bel⟩
          · rw [show s.base + ((0 : Nat) : Int) = s.base by simp]
            exact HI.out.bs
          · have h := HI.out.own
            rw [updE_all _ _ HQ.out.1, ← hL] at h
            exact h.vec
        have HLL := Lib.hid (And.intro hLm hLn)
        have hbx := HI.out.bel
        have xc6 : wo.cell? ⟨w.heap.size, 6, none⟩ = some (.slice A2 k c2) := HI.out.bs.cell 6
        have lS := HI.out.bs.lt
        clear hL hLm hLn hbx
        go_wp2_with fail
        clear xc6 lS HI
        go_loopw [142] (fun _ wr => ∃ (j : Nat) (vo : Value) (l : List Oe), j ≤ k ∧ l = L.drop j ∧ (∀ i (hi : i < L.length), i < j → L[i].ak = true) ∧ Hid (AckJ w base s vo (.slice Aq2 nq cq2) l qs j wr)) (fun _ wr => lenOf ((wr.cell? ⟨w.heap.size, 6, none⟩).getD undef))
        case atStart => exact ⟨0, _, L, by omega, rfl, fun i hi h => by omega, hJ0⟩
        case round =>
          obtain ⟨j, vo, l, hjk, hl, hak, HJ⟩ := hrel
          obtain ⟨Av, cv, rfl, hlc, hcm, -⟩ := HJ.out.vec.val
          have HLJ := Lib.hid (And.intro hl hak)
          have hjl : l.length = k - j := by rw [hl, List.length_drop, HLL.out.2]
          clear hJ0 hl hak
          have xc3 : wr.cell? ⟨w.heap.size, 3, none⟩ = some (.int .i64 (s.base + (j : Nat))) := HJ.out.bs.cell 3
          have xc6 : wr.cell? ⟨w.heap.size, 6, none⟩ = some (.slice Av l.length cv) := HJ.out.bs.cell 6
          have xz3 := HJ.out.bs.frozen 3
          have xz6 := HJ.out.bs.frozen 6
          have lS := HJ.out.bs.lt
          have hgb : 0 ≤ gr ∧ gr ≤ 1073741888 := by rw [HGR.out]; omega
          cases l with
          | nil =>
            have HFj : Hid (j = ((s.out.map (ackO p)).takeWhile (·.ak)).length) := by
              show _ = _
              rw [← HLL.out.1]
              symm
              refine tw_eq (L.map Oe.om) j (fun i hi h => ?_) (fun h => ?_) (by rw [List.length_map, HLL.out.2]; exact hjk)
              · rw [List.getElem_map]; rw [List.length_map] at hi; exact HLJ.out.2 i hi h
              · rw [List.length_map, HLL.out.2] at h; simp at hjl; omega
            rw [List.length_nil] at xc6 hlc
            clear hjl
            have HSM2 : Hid (ackS s now p = ({ s with base := s.base + j, out := (s.out.map (ackO p)).drop j, cred := max (gr - (s.base + j)) 0 }, s.out.foldl (samp p now) (-1))) := by
              show _ = _
              unfold ackS
              rw [if_neg (by rw [HACC.out]; simp), HGR.out, HFj.out]
            obtain ⟨cr, hcr⟩ : ∃ x, x = max 0 (gr - (s.base + (j : Int))) := ⟨_, rfl⟩
            have hmax2 := max_run _ _ _ hcr
            have kwg : IntKind.i64.wrap (gr - (s.base + (j : Int))) = gr - (s.base + (j : Int)) := by rw [IntWalk.i64_in _ (by omega)]
            have HCR := Lib.hid hcr
            clear hcr xc3 xc6 xz3 xz6 lS
            have hB : Blk wr (w.heap.size) 25 #[.int .i64 s.ses, .int .i64 s.lim, .int .i64 s.tmo, .int .i64 (s.base + (j : Int)), .int .i64 s.next, .int .i64 s.cred, .slice Av 0 cv, .slice Aq2 nq cq2] := HJ.out.bs
            have xc0 : wr.cell? ⟨w.heap.size, 0, none⟩ = some (.int .i64 s.ses) := hB.cell 0
            have xc1 : wr.cell? ⟨w.heap.size, 1, none⟩ = some (.int .i64 s.lim) := hB.cell 1
            have xc2 : wr.cell? ⟨w.heap.size, 2, none⟩ = some (.int .i64 s.tmo) := hB.cell 2
            have xc3 : wr.cell? ⟨w.heap.size, 3, none⟩ = some (.int .i64 (s.base + (j : Int))) := hB.cell 3
            have xc4 : wr.cell? ⟨w.heap.size, 4, none⟩ = some (.int .i64 s.next) := hB.cell 4
            have xc5 : wr.cell? ⟨w.heap.size, 5, none⟩ = some (.int .i64 s.cred) := hB.cell 5
            have xc6 : wr.cell? ⟨w.heap.size, 6, none⟩ = some (.slice Av 0 cv) := hB.cell 6
            have xc7 : wr.cell? ⟨w.heap.size, 7, none⟩ = some (.slice Aq2 nq cq2) := hB.cell 7
            have xz0 := hB.frozen 0
            have xz1 := hB.frozen 1
            have xz2 := hB.frozen 2
            have xz3 := hB.frozen 3
            have xz4 := hB.frozen 4
            have xz5 := hB.frozen 5
            have xz6 := hB.frozen 6
            have xz7 := hB.frozen 7
            have xo0 : wr.cell? ⟨w.heap.size + 1 + 1, 0, none⟩ = some (.int .i64 0) := HJ.out.bo.cell 0
            have xo1 : wr.cell? ⟨w.heap.size + 1 + 1, 1, none⟩ = some (.int .i64 0) := HJ.out.bo.cell 1
            have xo2 : wr.cell? ⟨w.heap.size + 1 + 1, 2, none⟩ = some (.int .i64 0) := HJ.out.bo.cell 2
            have xo3 : wr.cell? ⟨w.heap.size + 1 + 1, 3, none⟩ = some (.int .i64 0) := HJ.out.bo.cell 3
            have xo4 : wr.cell? ⟨w.heap.size + 1 + 1, 4, none⟩ = some (.int .i64 0) := HJ.out.bo.cell 4
            have xo5 : wr.cell? ⟨w.heap.size + 1 + 1, 5, none⟩ = some (.int .i64 0) := HJ.out.bo.cell 5
            have xo6 : wr.cell? ⟨w.heap.size + 1 + 1, 6, none⟩ = some (.slice none 0 0) := HJ.out.bo.cell 6
            have xo7 : wr.cell? ⟨w.heap.size + 1 + 1, 7, none⟩ = some (.slice none 0 0) := HJ.out.bo.cell 7
            have xy0 := HJ.out.bo.frozen 0
            have xy1 := HJ.out.bo.frozen 1
            have xy2 := HJ.out.bo.frozen 2
            have xy3 := HJ.out.bo.frozen 3
            have xy4 := HJ.out.bo.frozen 4
            have xy5 := HJ.out.bo.frozen 5
            have xy6 := HJ.out.bo.frozen 6
            have xy7 := HJ.out.bo.frozen 7
            have lS := hB.lt
            have lO := HJ.out.bo.lt
            have hk6 : Blk (wr.setCell ⟨w.heap.size, 5, none⟩ (.int .i64 cr)) (w.heap.size) 25 #[.int .i64 s.ses, .int .i64 s.lim, .int .i64 s.tmo, .int .i64 (s.base + (j : Int)), .int .i64 s.next, .int .i64 cr, .slice Av 0 cv, .slice Aq2 nq cq2] := hB.set_ 5 (.int .i64 cr)
            have hT6 : Turn base [25] wr (wr.setCell ⟨w.heap.size, 5, none⟩ (.int .i64 cr)) := (Turn.refl base [25] wr).set hB (by simp) hbw 5 _
            have hO6 := HJ.out.bo.far (p := ⟨w.heap.size, 5, none⟩) (by dsimp only; omega) (.int .i64 cr)
            have hb6 := HJ.out.bel.setCell (p := ⟨w.heap.size, 5, none⟩) (Nat.le_refl _) (.int .i64 cr)
            have hkF := set25_blk hO6 (.int .i64 s.ses) (.int .i64 s.lim) (.int .i64 s.tmo) (.int .i64 (s.base + (j : Int))) (.int .i64 s.next) (.int .i64 cr) (.slice Av 0 cv) (.slice Aq2 nq cq2)
            have hTF := set25_turn hO6 (base := base) (by omega) (.int .i64 s.ses) (.int .i64 s.lim) (.int .i64 s.tmo) (.int .i64 (s.base + (j : Int))) (.int .i64 s.next) (.int .i64 cr) (.slice Av 0 cv) (.slice Aq2 nq cq2)
            have hbF := set25_below hb6 (g := w.heap.size + 1 + 1) (by omega) (.int .i64 s.ses) (.int .i64 s.lim) (.int .i64 s.tmo) (.int .i64 (s.base + (j : Int))) (.int .i64 s.next) (.int .i64 cr) (.slice Av 0 cv) (.slice Aq2 nq cq2)
            have HF3 := Lib.hid (And.intro hkF (And.intro hbF (And.intro ((HJ.out.vec.turn hT6 (by simp) (oeR_ab (by simp))).turn hTF (by simp) (oeR_ab (by simp))) ((HJ.out.bq.turn hT6 (by simp) (qeR_ab (by simp))).turn hTF (by simp) (qeR_ab (by simp))))))
            clear hB hk6 hT6 hO6 hb6 hkF hTF hbF
            go_wp2_with fail
            refine bodyPost_ret (results_cell_tmp (t := 25) rfl _ _ (w.heap.size + 1 + 1) _ _ rfl HF3.out.1 Try.underlying25 rfl (by kernel_rfl)) rfl ?_
            refine ⟨⟨_, _, rfl, ?_, by rw [HSM2.out]⟩, HF3.out.2.1⟩
            rw [HSM2.out, Int.max_comm, ← HCR.out, ← HLL.out.1, ← List.map_drop]
            exact ⟨_, _, rfl, ⟨[], HF3.out.2.2.1, by rw [HLJ.out.1]⟩, ⟨qs, HF3.out.2.2.2.vec, HQ.out.2.2.2⟩⟩
          | cons a t =>
            obtain ⟨b, off, c9, hv9, -, -, hbw9, hc⟩ := HJ.out.vec.at_ encO_len (by omega) (by simp)
            injection hv9 with hA9 hn9 hc9
            subst hA9 hc9
            clear hn9
            have d3 : wr.cell? ⟨b, off + 3, none⟩ = some (.bool a.ak) := by have h := hc 0 (by simp) 3 _ rfl; simpa using h
            clear hc
            have hjlt : j < L.length := by rw [HLL.out.2]; simp at hjl; omega
            have haL : L[j] = a := by
              have h1 := congrArg (fun q : List Oe => q[0]?) HLJ.out.1
              simp only [List.getElem?_cons_zero, List.getElem?_drop, Nat.add_zero, List.getElem?_eq_getElem hjlt] at h1
              injection h1 with h1
              exact h1.symm
            obtain ⟨ak, hak⟩ : ∃ x, a.ak = x := ⟨_, rfl⟩
            rw [hak] at d3
            have HAK := Lib.hid (And.intro hak haL)
            have HJL := Lib.hid hjlt
            rw [List.length_cons] at xc6 hlc hjl
            clear hak haL
            cases ak with
            | false =>
              have HFj : Hid (j = ((s.out.map (ackO p)).takeWhile (·.ak)).length) := by
                show _ = _
                rw [← HLL.out.1]
                symm
                refine tw_eq (L.map Oe.om) j (fun i hi h => ?_) (fun h => ?_) (by rw [List.length_map, HLL.out.2]; exact hjk)
                · rw [List.getElem_map]; rw [List.length_map] at hi; exact HLJ.out.2 i hi h
                · rw [List.getElem_map]; exact (congrArg Oe.ak HAK.out.2).trans HAK.out.1
              clear hjl
              have HSM2 : Hid (ackS s now p = ({ s with base := s.base + j, out := (s.out.map (ackO p)).drop j, cred := max (gr - (s.base + j)) 0 }, s.out.foldl (samp p now) (-1))) := by
                show _ = _
                unfold ackS
                rw [if_neg (by rw [HACC.out]; simp), HGR.out, HFj.out]
              obtain ⟨cr, hcr⟩ : ∃ x, x = max 0 (gr - (s.base + (j : Int))) := ⟨_, rfl⟩
              have hmax2 := max_run _ _ _ hcr
              have kwg : IntKind.i64.wrap (gr - (s.base + (j : Int))) = gr - (s.base + (j : Int)) := by rw [IntWalk.i64_in _ (by omega)]
              have HCR := Lib.hid hcr
              clear hcr xc3 xc6 xz3 xz6 lS
              have hB : Blk wr (w.heap.size) 25 #[.int .i64 s.ses, .int .i64 s.lim, .int .i64 s.tmo, .int .i64 (s.base + (j : Int)), .int .i64 s.next, .int .i64 s.cred, .slice (some ⟨b, off, none⟩) (t.length + 1) cv, .slice Aq2 nq cq2] := HJ.out.bs
              have xc0 : wr.cell? ⟨w.heap.size, 0, none⟩ = some (.int .i64 s.ses) := hB.cell 0
              have xc1 : wr.cell? ⟨w.heap.size, 1, none⟩ = some (.int .i64 s.lim) := hB.cell 1
              have xc2 : wr.cell? ⟨w.heap.size, 2, none⟩ = some (.int .i64 s.tmo) := hB.cell 2
              have xc3 : wr.cell? ⟨w.heap.size, 3, none⟩ = some (.int .i64 (s.base + (j : Int))) := hB.cell 3
              have xc4 : wr.cell? ⟨w.heap.size, 4, none⟩ = some (.int .i64 s.next) := hB.cell 4
              have xc5 : wr.cell? ⟨w.heap.size, 5, none⟩ = some (.int .i64 s.cred) := hB.cell 5
              have xc6 : wr.cell? ⟨w.heap.size, 6, none⟩ = some (.slice (some ⟨b, off, none⟩) (t.length + 1) cv) := hB.cell 6
              have xc7 : wr.cell? ⟨w.heap.size, 7, none⟩ = some (.slice Aq2 nq cq2) := hB.cell 7
              have xz0 := hB.frozen 0
              have xz1 := hB.frozen 1
              have xz2 := hB.frozen 2
              have xz3 := hB.frozen 3
              have xz4 := hB.frozen 4
              have xz5 := hB.frozen 5
              have xz6 := hB.frozen 6
              have xz7 := hB.frozen 7
              have xo0 : wr.cell? ⟨w.heap.size + 1 + 1, 0, none⟩ = some (.int .i64 0) := HJ.out.bo.cell 0
              have xo1 : wr.cell? ⟨w.heap.size + 1 + 1, 1, none⟩ = some (.int .i64 0) := HJ.out.bo.cell 1
              have xo2 : wr.cell? ⟨w.heap.size + 1 + 1, 2, none⟩ = some (.int .i64 0) := HJ.out.bo.cell 2
              have xo3 : wr.cell? ⟨w.heap.size + 1 + 1, 3, none⟩ = some (.int .i64 0) := HJ.out.bo.cell 3
              have xo4 : wr.cell? ⟨w.heap.size + 1 + 1, 4, none⟩ = some (.int .i64 0) := HJ.out.bo.cell 4
              have xo5 : wr.cell? ⟨w.heap.size + 1 + 1, 5, none⟩ = some (.int .i64 0) := HJ.out.bo.cell 5
              have xo6 : wr.cell? ⟨w.heap.size + 1 + 1, 6, none⟩ = some (.slice none 0 0) := HJ.out.bo.cell 6
              have xo7 : wr.cell? ⟨w.heap.size + 1 + 1, 7, none⟩ = some (.slice none 0 0) := HJ.out.bo.cell 7
              have xy0 := HJ.out.bo.frozen 0
              have xy1 := HJ.out.bo.frozen 1
              have xy2 := HJ.out.bo.frozen 2
              have xy3 := HJ.out.bo.frozen 3
              have xy4 := HJ.out.bo.frozen 4
              have xy5 := HJ.out.bo.frozen 5
              have xy6 := HJ.out.bo.frozen 6
              have xy7 := HJ.out.bo.frozen 7
              have lS := hB.lt
              have lO := HJ.out.bo.lt
              have hk6 : Blk (wr.setCell ⟨w.heap.size, 5, none⟩ (.int .i64 cr)) (w.heap.size) 25 #[.int .i64 s.ses, .int .i64 s.lim, .int .i64 s.tmo, .int .i64 (s.base + (j : Int)), .int .i64 s.next, .int .i64 cr, .slice (some ⟨b, off, none⟩) (t.length + 1) cv, .slice Aq2 nq cq2] := hB.set_ 5 (.int .i64 cr)
              have hT6 : Turn base [25] wr (wr.setCell ⟨w.heap.size, 5, none⟩ (.int .i64 cr)) := (Turn.refl base [25] wr).set hB (by simp) hbw 5 _
              have hO6 := HJ.out.bo.far (p := ⟨w.heap.size, 5, none⟩) (by dsimp only; omega) (.int .i64 cr)
              have hb6 := HJ.out.bel.setCell (p := ⟨w.heap.size, 5, none⟩) (Nat.le_refl _) (.int .i64 cr)
              have hkF := set25_blk hO6 (.int .i64 s.ses) (.int .i64 s.lim) (.int .i64 s.tmo) (.int .i64 (s.base + (j : Int))) (.int .i64 s.next) (.int .i64 cr) (.slice (some ⟨b, off, none⟩) (t.length + 1) cv) (.slice Aq2 nq cq2)
              have hTF := set25_turn hO6 (base := base) (by omega) (.int .i64 s.ses) (.int .i64 s.lim) (.int .i64 s.tmo) (.int .i64 (s.base + (j : Int))) (.int .i64 s.next) (.int .i64 cr) (.slice (some ⟨b, off, none⟩) (t.length + 1) cv) (.slice Aq2 nq cq2)
              have hbF := set25_below hb6 (g := w.heap.size + 1 + 1) (by omega) (.int .i64 s.ses) (.int .i64 s.lim) (.int .i64 s.tmo) (.int .i64 (s.base + (j : Int))) (.int .i64 s.next) (.int .i64 cr) (.slice (some ⟨b, off, none⟩) (t.length + 1) cv) (.slice Aq2 nq cq2)
              have HF3 := Lib.hid (And.intro hkF (And.intro hbF (And.intro ((HJ.out.vec.turn hT6 (by simp) (oeR_ab (by simp))).turn hTF (by simp) (oeR_ab (by simp))) ((HJ.out.bq.turn hT6 (by simp) (qeR_ab (by simp))).turn hTF (by simp) (qeR_ab (by simp))))))
              clear hB hk6 hT6 hO6 hb6 hkF hTF hbF
              go_wp2_with fail
              refine bodyPost_ret (results_cell_tmp (t := 25) rfl _ _ (w.heap.size + 1 + 1) _ _ rfl HF3.out.1 Try.underlying25 rfl (by kernel_rfl)) rfl ?_
              refine ⟨⟨_, _, rfl, ?_, by rw [HSM2.out]⟩, HF3.out.2.1⟩
              rw [HSM2.out, Int.max_comm, ← HCR.out, ← HLL.out.1, ← List.map_drop]
              exact ⟨_, _, rfl, ⟨(a :: t), HF3.out.2.2.1, by rw [HLJ.out.1]⟩, ⟨qs, HF3.out.2.2.2.vec, HQ.out.2.2.2⟩⟩
            | true =>
              have kwj : IntKind.i64.wrap (s.base + (j : Int) + 1) = s.base + (j : Int) + 1 := by rw [IntWalk.i64_in _ (by omega)]
              have k1 : (1 ≤ (t.length : Int) + 1) = True := eq_true (by omega)
              have hdrop : t = L.drop (j + 1) := by
                have h1 := congrArg (fun q : List Oe => q.drop 1) HLJ.out.1
                simp only [List.drop_succ_cons, List.drop_zero, List.drop_drop] at h1
                rw [show j + 1 = j + 1 from rfl] at h1
                exact h1
              have hall : ∀ i (hi : i < L.length), i < j + 1 → L[i].ak = true := fun i hi h => by
                rcases Nat.lt_or_ge i j with h2 | h2
                · exact HLJ.out.2 i hi h2
                · obtain rfl : i = j := by omega
                  rw [HAK.out.2]; exact HAK.out.1
              have HDA := Lib.hid (And.intro hdrop hall)
              clear hdrop hall hjl
              by_cases hcc : cv = 1
              · subst hcc
                have ht : t = [] := List.eq_nil_of_length_eq_zero (by omega)
                have HT := Lib.hid ht
                clear ht
                have HN := Lib.hid (HJ.out.pop hbw (vo' := .slice (some ⟨b, off, none⟩) 0 0) (l' := []) ⟨⟨_, 0, rfl, Nat.le_refl _, by unfold maxLen; omega, Rd.none_⟩, nofun⟩)
                have hm0 : wr.cell? ⟨w.heap.size, 6, none⟩ = some (.slice (some ⟨b, off, none⟩) (t.length + 1) 1) := xc6
                have HM := Lib.hid hm0
                clear hm0
                go_wp2_with fail
                clear xc3 xc6 xz3 xz6 lS d3 kwj k1
                go_roundw
                case rel => exact ⟨j + 1, _, [], by have := HJL.out; rw [HLL.out.2] at this; omega, by rw [← HDA.out.1, HT.out], HDA.out.2, HN⟩
                case measure => rw [HM.out, show (((wr.setCell ⟨w.heap.size, 6, none⟩ (.slice (some ⟨b, off, none⟩) 0 0)).setCell ⟨w.heap.size, 3, none⟩ (.int .i64 (s.base + (j : Int) + 1))).cell? ⟨w.heap.size, 6, none⟩) = some (.slice (some ⟨b, off, none⟩) 0 0) from HN.out.bs.cell 6]; simp [lenOf]
              · have hvt0 := Vec.tail HJ.out.vec (encO_len a)
                rw [if_neg hcc] at hvt0
                have HN := Lib.hid (HJ.out.pop hbw (vo' := .slice (some ⟨b, off + 5, none⟩) t.length (cv - 1)) (l' := t) hvt0)
                have HM : Hid (wr.cell? ⟨w.heap.size, 6, none⟩ = some (.slice (some ⟨b, off, none⟩) (t.length + 1) cv)) := xc6
                clear hvt0
                go_wp2_with fail
                clear xc3 xc6 xz3 xz6 lS d3 kwj k1
                go_roundw
                case rel => exact ⟨j + 1, _, t, by have := HJL.out; rw [HLL.out.2] at this; omega, HDA.out.1, HDA.out.2, HN⟩
                case measure => rw [HM.out, show (((wr.setCell ⟨w.heap.size, 6, none⟩ (.slice (some ⟨b, off + 5, none⟩) t.length (cv - 1))).setCell ⟨w.heap.size, 3, none⟩ (.int .i64 (s.base + (j : Int) + 1))).cell? ⟨w.heap.size, 6, none⟩) = some (.slice (some ⟨b, off + 5, none⟩) t.length (cv - 1)) from HN.out.bs.cell 6]; simp [lenOf]
  obtain ⟨m, rfl⟩ : ∃ m, ns = m + 1 := ⟨ns - 1, by omega⟩
  clear hns0
  have hml : p.sel.length - 1 = m := by rw [HL.out.2.2.1]; omega
  have hmlt : m < p.sel.length := by rw [HL.out.2.2.1]; omega
  obtain ⟨b, off, c9, hv9, -, -, hbw9, hc⟩ := (HXS.out.up HW2.out.2.2.2).at_ encX_len (by omega) (by omega)
  injection hv9 with hA9 hn9 hc9
  subst hA9 hc9
  clear hn9
  obtain ⟨y, hy⟩ : ∃ y, y = p.sel[m] := ⟨_, rfl⟩
  have d0 : w2.cell? ⟨b, off + m * 2, none⟩ = some (.int .i64 y.s) := by rw [hy]; exact hc m hmlt 0 _ rfl
  have d1 : w2.cell? ⟨b, off + m * 2 + 1, none⟩ = some (.int .i64 y.c) := by rw [hy]; exact hc m hmlt 1 _ rfl
  have hbx := chkP_bd HP0.out y (by rw [hy]; exact List.getElem_mem hmlt)
  have HANY : Hid ((p.sel.any fun x => decide (s.next < x.s + x.c)) = decide (s.next < y.s + y.c)) := by
    show _ = _
    rw [sel_end HP0.out s.next (by omega), hy]
    simp only [hml]
  have kwm : IntKind.i64.wrap (m : Int) = m := by rw [IntWalk.i64_in _ (by omega)]
  have kwy : IntKind.i64.wrap (y.s + y.c) = y.s + y.c := by rw [IntWalk.i64_in _ (by omega)]
  have kn1 : (0 < m + 1) = True := eq_true (by omega)
  have km1 : ((m : Int) < (m : Int) + 1) = True := eq_true (by omega)
  have km0 : (0 ≤ (m : Int)) = True := eq_true (by omega)
  clear hc hy hml hmlt hbx
  by_cases he : s.next < y.s + y.c
  · have ke : decide (s.next < y.s + y.c) = true := decide_eq_true he
    have HEE := Lib.hid ke
    clear he
    refine wp_region_lexP [(0, 1), (1, 1), (2, 1), (3, 1), (5, 1), (10, 1), (12, 1), (18, 1), (4, 1), (6, 1), (11, 1), (13, 1), (19, 1), (7, 1), (14, 1), (8, 1), (15, 1), (9, 1), (16, 1), (17, 1), (20, 1), (21, 1)] [] (fun w9 => w9.cell? ⟨w.heap.size, 4, none⟩ = some (.int .i64 s.next) ∧ w9.cell? ⟨w.heap.size + 1, 5, none⟩ = some (.slice (some ⟨b, off, none⟩) (m + 1) cs) ∧ w9.cell? ⟨b, off + m * 2, none⟩ = some (.int .i64 y.s) ∧ w9.cell? ⟨b, off + m * 2 + 1, none⟩ = some (.int .i64 y.c)) (by kernel_rfl) (by kernel_rfl) (by kernel_rfl) (by kernel_rfl) (by kernel_rfl) ⟨xc4, xk5, d0, d1⟩ ?_
    repeat ((first | (refine lexP_read rfl (by rfl) (by first | exact wanted_none rfl | exact wanted_some (b := true) (c := true) rfl rfl rfl | exact wanted_some (b := false) (c := false) rfl rfl rfl) (by intro w9 hS9; (try dsimp only at hS9); go_simp <;> with_reducible rfl) ?_) | (refine lexP_skip rfl (fun _ => trivial) (by first | exact wanted_some (b := true) (c := false) rfl rfl rfl | exact wanted_some (b := false) (c := true) rfl rfl rfl) ?_) | (refine lexP_builtin rfl (fun _ => trivial) (by first | exact wanted_none rfl | exact wanted_some (b := true) (c := true) rfl rfl rfl | exact wanted_some (b := false) (c := false) rfl rfl rfl) (by intro w9 hS9; (try dsimp only at hS9); go_simp <;> with_reducible rfl) ?_)); (try simp only [Act.put, List.getElem_toArray, List.getElem_cons_succ, List.getElem_cons_zero, List.setIfInBounds_toArray, List.set_cons_zero, List.set_cons_succ]))
    refine lexP_nil (panQ_normal ?_)
    have HW3 := Lib.hid (And.intro (HW2.out.1.below (Below.refl _ w2).drew HW2.out.1.lt) (And.intro (HW2.out.2.1.below (Below.refl _ w2).drew HW2.out.2.1.lt) (And.intro (HW2.out.2.2.1.below (Below.refl _ w2).drew HW2.out.2.2.1.lt) HW2.out.2.2.2.drew)))
    clear xc0 xc1 xc2 xc3 xc4 xc5 xc6 xc7 xk0 xk1 xk2 xk3 xk4 xk5 xk6 xd0 xd1 xd2 xd3 xd4 xd5 xd6 xd7 xy0 xy1 xy2 xy3 xy4 xy5 xy6 xy7 xz0 xz1 xz2 xz3 xz4 xz5 xz6 xz7 lS lK lO HW1 HW2
    generalize w2.drew = w3 at *
    have xc0 : w3.cell? ⟨w.heap.size, 0, none⟩ = some (.int .i64 s.ses) := HW3.out.1.cell 0
    have xc1 : w3.cell? ⟨w.heap.size, 1, none⟩ = some (.int .i64 s.lim) := HW3.out.1.cell 1
    have xc2 : w3.cell? ⟨w.heap.size, 2, none⟩ = some (.int .i64 s.tmo) := HW3.out.1.cell 2
    have xc3 : w3.cell? ⟨w.heap.size, 3, none⟩ = some (.int .i64 s.base) := HW3.out.1.cell 3
    have xc4 : w3.cell? ⟨w.heap.size, 4, none⟩ = some (.int .i64 s.next) := HW3.out.1.cell 4
    have xc5 : w3.cell? ⟨w.heap.size, 5, none⟩ = some (.int .i64 s.cred) := HW3.out.1.cell 5
    have xc6 : w3.cell? ⟨w.heap.size, 6, none⟩ = some (.slice Ao no co) := HW3.out.1.cell 6
    have xc7 : w3.cell? ⟨w.heap.size, 7, none⟩ = some (.slice Aq nq cq) := HW3.out.1.cell 7
    have xk0 : w3.cell? ⟨w.heap.size + 1, 0, none⟩ = some (.int .i64 p.kind) := HW3.out.2.1.cell 0
    have xk1 : w3.cell? ⟨w.heap.size + 1, 1, none⟩ = some (.int .i64 p.ses) := HW3.out.2.1.cell 1
    have xk2 : w3.cell? ⟨w.heap.size + 1, 2, none⟩ = some (.int .i64 p.seq) := HW3.out.2.1.cell 2
    have xk3 : w3.cell? ⟨w.heap.size + 1, 3, none⟩ = some (.int .i64 p.ack) := HW3.out.2.1.cell 3
    have xk4 : w3.cell? ⟨w.heap.size + 1, 4, none⟩ = some (.int .i64 p.cred) := HW3.out.2.1.cell 4
    have xk5 : w3.cell? ⟨w.heap.size + 1, 5, none⟩ = some (.slice (some ⟨b, off, none⟩) (m + 1) cs) := HW3.out.2.1.cell 5
    have xk6 : w3.cell? ⟨w.heap.size + 1, 6, none⟩ = some (.slice Ap np cp) := HW3.out.2.1.cell 6
    have xd0 : w3.cell? ⟨w.heap.size + 1 + 1, 0, none⟩ = some (.int .i64 0) := HW3.out.2.2.1.cell 0
    have xd1 : w3.cell? ⟨w.heap.size + 1 + 1, 1, none⟩ = some (.int .i64 0) := HW3.out.2.2.1.cell 1
    have xd2 : w3.cell? ⟨w.heap.size + 1 + 1, 2, none⟩ = some (.int .i64 0) := HW3.out.2.2.1.cell 2
    have xd3 : w3.cell? ⟨w.heap.size + 1 + 1, 3, none⟩ = some (.int .i64 0) := HW3.out.2.2.1.cell 3
    have xd4 : w3.cell? ⟨w.heap.size + 1 + 1, 4, none⟩ = some (.int .i64 0) := HW3.out.2.2.1.cell 4
    have xd5 : w3.cell? ⟨w.heap.size + 1 + 1, 5, none⟩ = some (.int .i64 0) := HW3.out.2.2.1.cell 5
    have xd6 : w3.cell? ⟨w.heap.size + 1 + 1, 6, none⟩ = some (.slice none 0 0) := HW3.out.2.2.1.cell 6
    have xd7 : w3.cell? ⟨w.heap.size + 1 + 1, 7, none⟩ = some (.slice none 0 0) := HW3.out.2.2.1.cell 7
    have xy0 := HW3.out.2.2.1.frozen 0
    have xy1 := HW3.out.2.2.1.frozen 1
    have xy2 := HW3.out.2.2.1.frozen 2
    have xy3 := HW3.out.2.2.1.frozen 3
    have xy4 := HW3.out.2.2.1.frozen 4
    have xy5 := HW3.out.2.2.1.frozen 5
    have xy6 := HW3.out.2.2.1.frozen 6
    have xy7 := HW3.out.2.2.1.frozen 7
    have xz0 := HW3.out.1.frozen 0
    have xz1 := HW3.out.1.frozen 1
    have xz2 := HW3.out.1.frozen 2
    have xz3 := HW3.out.1.frozen 3
    have xz4 := HW3.out.1.frozen 4
    have xz5 := HW3.out.1.frozen 5
    have xz6 := HW3.out.1.frozen 6
    have xz7 := HW3.out.1.frozen 7
    have lS := HW3.out.1.lt
    have lK := HW3.out.2.1.lt
    have lO := HW3.out.2.2.1.lt
    have HM : Hid (ackS s now p = (s, -1)) := by
      show _ = _
      unfold ackS
      rw [if_pos]
      unfold acceptB
      rw [HDEC.out, HANY.out, HEE.out]; rfl
    have hkF := set25_blk HW3.out.2.2.1 (.int .i64 s.ses) (.int .i64 s.lim) (.int .i64 s.tmo) (.int .i64 s.base) (.int .i64 s.next) (.int .i64 s.cred) (.slice Ao no co) (.slice Aq nq cq)
    have hbF := set25_below HW3.out.2.2.2 (g := w.heap.size + 1 + 1) (by omega) (.int .i64 s.ses) (.int .i64 s.lim) (.int .i64 s.tmo) (.int .i64 s.base) (.int .i64 s.next) (.int .i64 s.cred) (.slice Ao no co) (.slice Aq nq cq)
    have HF := Lib.hid (And.intro hkF hbF)
    clear hkF hbF
    go_wp2_with fail
    refine bodyPost_ret (results_cell_tmp (t := 25) rfl _ _ (w.heap.size + 1 + 1) _ _ rfl HF.out.1 Try.underlying25 rfl (by kernel_rfl)) rfl ?_
    exact ⟨⟨_, _, rfl, by rw [HM.out]; exact HV.out.up HF.out.2, by rw [HM.out]⟩, HF.out.2⟩
  have ke : decide (s.next < y.s + y.c) = false := decide_eq_false he
  have HACC : Hid (acceptB s now p = true) := by show _ = _; unfold acceptB; rw [HDEC.out, HANY.out, ke]; rfl
  clear he
  refine wp_region_lexP [(0, 1), (1, 1), (2, 1), (3, 1), (5, 1), (10, 1), (12, 1), (18, 1), (4, 1), (6, 1), (11, 1), (13, 1), (19, 1), (7, 1), (14, 1), (8, 1), (15, 1), (9, 1), (16, 1), (17, 1), (20, 1), (21, 1)] [] (fun w9 => w9.cell? ⟨w.heap.size, 4, none⟩ = some (.int .i64 s.next) ∧ w9.cell? ⟨w.heap.size + 1, 5, none⟩ = some (.slice (some ⟨b, off, none⟩) (m + 1) cs) ∧ w9.cell? ⟨b, off + m * 2, none⟩ = some (.int .i64 y.s) ∧ w9.cell? ⟨b, off + m * 2 + 1, none⟩ = some (.int .i64 y.c)) (by kernel_rfl) (by kernel_rfl) (by kernel_rfl) (by kernel_rfl) (by kernel_rfl) ⟨xc4, xk5, d0, d1⟩ ?_
  repeat ((first | (refine lexP_read rfl (by rfl) (by first | exact wanted_none rfl | exact wanted_some (b := true) (c := true) rfl rfl rfl | exact wanted_some (b := false) (c := false) rfl rfl rfl) (by intro w9 hS9; (try dsimp only at hS9); go_simp <;> with_reducible rfl) ?_) | (refine lexP_skip rfl (fun _ => trivial) (by first | exact wanted_some (b := true) (c := false) rfl rfl rfl | exact wanted_some (b := false) (c := true) rfl rfl rfl) ?_) | (refine lexP_builtin rfl (fun _ => trivial) (by first | exact wanted_none rfl | exact wanted_some (b := true) (c := true) rfl rfl rfl | exact wanted_some (b := false) (c := false) rfl rfl rfl) (by intro w9 hS9; (try dsimp only at hS9); go_simp <;> with_reducible rfl) ?_)); (try simp only [Act.put, List.getElem_toArray, List.getElem_cons_succ, List.getElem_cons_zero, List.setIfInBounds_toArray, List.set_cons_zero, List.set_cons_succ]))
  refine lexP_nil (panQ_normal ?_)
  have HW3 := Lib.hid (And.intro (HW2.out.1.below (Below.refl _ w2).drew HW2.out.1.lt) (And.intro (HW2.out.2.1.below (Below.refl _ w2).drew HW2.out.2.1.lt) (And.intro (HW2.out.2.2.1.below (Below.refl _ w2).drew HW2.out.2.2.1.lt) HW2.out.2.2.2.drew)))
  clear xc0 xc1 xc2 xc3 xc4 xc5 xc6 xc7 xk0 xk1 xk2 xk3 xk4 xk5 xk6 xd0 xd1 xd2 xd3 xd4 xd5 xd6 xd7 xy0 xy1 xy2 xy3 xy4 xy5 xy6 xy7 xz0 xz1 xz2 xz3 xz4 xz5 xz6 xz7 lS lK lO HW1 HW2
  generalize w2.drew = w3 at *
  have xc0 : w3.cell? ⟨w.heap.size, 0, none⟩ = some (.int .i64 s.ses) := HW3.out.1.cell 0
  have xc1 : w3.cell? ⟨w.heap.size, 1, none⟩ = some (.int .i64 s.lim) := HW3.out.1.cell 1
  have xc2 : w3.cell? ⟨w.heap.size, 2, none⟩ = some (.int .i64 s.tmo) := HW3.out.1.cell 2
  have xc3 : w3.cell? ⟨w.heap.size, 3, none⟩ = some (.int .i64 s.base) := HW3.out.1.cell 3
  have xc4 : w3.cell? ⟨w.heap.size, 4, none⟩ = some (.int .i64 s.next) := HW3.out.1.cell 4
  have xc5 : w3.cell? ⟨w.heap.size, 5, none⟩ = some (.int .i64 s.cred) := HW3.out.1.cell 5
  have xc6 : w3.cell? ⟨w.heap.size, 6, none⟩ = some (.slice Ao no co) := HW3.out.1.cell 6
  have xc7 : w3.cell? ⟨w.heap.size, 7, none⟩ = some (.slice Aq nq cq) := HW3.out.1.cell 7
  have xk0 : w3.cell? ⟨w.heap.size + 1, 0, none⟩ = some (.int .i64 p.kind) := HW3.out.2.1.cell 0
  have xk1 : w3.cell? ⟨w.heap.size + 1, 1, none⟩ = some (.int .i64 p.ses) := HW3.out.2.1.cell 1
  have xk2 : w3.cell? ⟨w.heap.size + 1, 2, none⟩ = some (.int .i64 p.seq) := HW3.out.2.1.cell 2
  have xk3 : w3.cell? ⟨w.heap.size + 1, 3, none⟩ = some (.int .i64 p.ack) := HW3.out.2.1.cell 3
  have xk4 : w3.cell? ⟨w.heap.size + 1, 4, none⟩ = some (.int .i64 p.cred) := HW3.out.2.1.cell 4
  have xk5 : w3.cell? ⟨w.heap.size + 1, 5, none⟩ = some (.slice (some ⟨b, off, none⟩) (m + 1) cs) := HW3.out.2.1.cell 5
  have xk6 : w3.cell? ⟨w.heap.size + 1, 6, none⟩ = some (.slice Ap np cp) := HW3.out.2.1.cell 6
  have xd0 : w3.cell? ⟨w.heap.size + 1 + 1, 0, none⟩ = some (.int .i64 0) := HW3.out.2.2.1.cell 0
  have xd1 : w3.cell? ⟨w.heap.size + 1 + 1, 1, none⟩ = some (.int .i64 0) := HW3.out.2.2.1.cell 1
  have xd2 : w3.cell? ⟨w.heap.size + 1 + 1, 2, none⟩ = some (.int .i64 0) := HW3.out.2.2.1.cell 2
  have xd3 : w3.cell? ⟨w.heap.size + 1 + 1, 3, none⟩ = some (.int .i64 0) := HW3.out.2.2.1.cell 3
  have xd4 : w3.cell? ⟨w.heap.size + 1 + 1, 4, none⟩ = some (.int .i64 0) := HW3.out.2.2.1.cell 4
  have xd5 : w3.cell? ⟨w.heap.size + 1 + 1, 5, none⟩ = some (.int .i64 0) := HW3.out.2.2.1.cell 5
  have xd6 : w3.cell? ⟨w.heap.size + 1 + 1, 6, none⟩ = some (.slice none 0 0) := HW3.out.2.2.1.cell 6
  have xd7 : w3.cell? ⟨w.heap.size + 1 + 1, 7, none⟩ = some (.slice none 0 0) := HW3.out.2.2.1.cell 7
  have xy0 := HW3.out.2.2.1.frozen 0
  have xy1 := HW3.out.2.2.1.frozen 1
  have xy2 := HW3.out.2.2.1.frozen 2
  have xy3 := HW3.out.2.2.1.frozen 3
  have xy4 := HW3.out.2.2.1.frozen 4
  have xy5 := HW3.out.2.2.1.frozen 5
  have xy6 := HW3.out.2.2.1.frozen 6
  have xy7 := HW3.out.2.2.1.frozen 7
  have xz0 := HW3.out.1.frozen 0
  have xz1 := HW3.out.1.frozen 1
  have xz2 := HW3.out.1.frozen 2
  have xz3 := HW3.out.1.frozen 3
  have xz4 := HW3.out.1.frozen 4
  have xz5 := HW3.out.1.frozen 5
  have xz6 := HW3.out.1.frozen 6
  have xz7 := HW3.out.1.frozen 7
  have lS := HW3.out.1.lt
  have lK := HW3.out.2.1.lt
  have lO := HW3.out.2.2.1.lt
  clear d0 d1 kwm kwy kn1 km1 km0 ke hbw9
  have HOK := Lib.hid (And.intro HE0.out (And.intro (chkS_rng HE0.out) (And.intro (chkP_ok HP0.out) (And.intro (chkP_bd HP0.out) (fun k (h : k < s.out.length) => (outE_ok (outsE_at s.base s.out 0 (chkS_rng HE0.out).outs k h)).2.2.2.1)))))
  have hc3 := refCopySender_any s _ base w3 (HV.out.up HW3.out.2.2.2) HSM.out.1 (chkS_pay HE0.out).1 (chkS_pay HE0.out).2 (Nat.le_trans hbw HW3.out.2.2.2.size)
  unfold snC at hc3
  have HC3 := Lib.hid hc3
  clear hc3
  go_wp2_with fail
  refine HC3.out.mono ?_
  clear HC3
  rintro e w4 ⟨⟨vo2, vq2, es, qs, rfl, hO2, hom, hQ2, hqm⟩, hb1⟩
  clear xc0 xc1 xc2 xc3 xc4 xc5 xc6 xc7 xk0 xk1 xk2 xk3 xk4 xk5 xk6 xd0 xd1 xd2 xd3 xd4 xd5 xd6 xd7 xy0 xy1 xy2 xy3 xy4 xy5 xy6 xy7 xz0 xz1 xz2 xz3 xz4 xz5 xz6 xz7 lS lK lO
  have HW4 := Lib.hid (And.intro (HW3.out.1.below hb1 HW3.out.1.lt) (And.intro (HW3.out.2.1.below hb1 HW3.out.2.1.lt) (And.intro (HW3.out.2.2.1.below hb1 HW3.out.2.2.1.lt) (HW3.out.2.2.2.trans (hb1.mono HW3.out.2.2.2.size)))))
  clear hb1
  obtain ⟨A2, c2, rfl, -, -⟩ := hO2.vform
  obtain ⟨Aq2, cq2, rfl, -, -⟩ := hQ2.vform
  have hle : es.length = no := by rw [← HL.out.1, ← hom, List.length_map]
  have hlq : qs.length = nq := by rw [← HL.out.2.1, ← hqm, List.length_map]
  rw [hle] at hO2 ⊢
  rw [hlq] at hQ2 ⊢
  have HQ := Lib.hid (And.intro hle (And.intro hlq (And.intro hom hqm)))
  clear hle hlq hom hqm
  unfold snC
  have xc0 : w4.cell? ⟨w.heap.size, 0, none⟩ = some (.int .i64 s.ses) := HW4.out.1.cell 0
  have xc1 : w4.cell? ⟨w.heap.size, 1, none⟩ = some (.int .i64 s.lim) := HW4.out.1.cell 1
  have xc2 : w4.cell? ⟨w.heap.size, 2, none⟩ = some (.int .i64 s.tmo) := HW4.out.1.cell 2
  have xc3 : w4.cell? ⟨w.heap.size, 3, none⟩ = some (.int .i64 s.base) := HW4.out.1.cell 3
  have xc4 : w4.cell? ⟨w.heap.size, 4, none⟩ = some (.int .i64 s.next) := HW4.out.1.cell 4
  have xc5 : w4.cell? ⟨w.heap.size, 5, none⟩ = some (.int .i64 s.cred) := HW4.out.1.cell 5
  have xc6 : w4.cell? ⟨w.heap.size, 6, none⟩ = some (.slice Ao no co) := HW4.out.1.cell 6
  have xc7 : w4.cell? ⟨w.heap.size, 7, none⟩ = some (.slice Aq nq cq) := HW4.out.1.cell 7
  have xz0 := HW4.out.1.frozen 0
  have xz1 := HW4.out.1.frozen 1
  have xz2 := HW4.out.1.frozen 2
  have xz3 := HW4.out.1.frozen 3
  have xz4 := HW4.out.1.frozen 4
  have xz5 := HW4.out.1.frozen 5
  have xz6 := HW4.out.1.frozen 6
  have xz7 := HW4.out.1.frozen 7
  have lS := HW4.out.1.lt
  have hkS := set25_blk HW4.out.1 (.int .i64 s.ses) (.int .i64 s.lim) (.int .i64 s.tmo) (.int .i64 s.base) (.int .i64 s.next) (.int .i64 s.cred) (.slice A2 no c2) (.slice Aq2 nq cq2)
  have hkK := set25_other HW4.out.2.1 (g := w.heap.size) (by omega) (.int .i64 s.ses) (.int .i64 s.lim) (.int .i64 s.tmo) (.int .i64 s.base) (.int .i64 s.next) (.int .i64 s.cred) (.slice A2 no c2) (.slice Aq2 nq cq2)
  have hkO := set25_other HW4.out.2.2.1 (g := w.heap.size) (by omega) (.int .i64 s.ses) (.int .i64 s.lim) (.int .i64 s.tmo) (.int .i64 s.base) (.int .i64 s.next) (.int .i64 s.cred) (.slice A2 no c2) (.slice Aq2 nq cq2)
  have hT0 := set25_turn HW4.out.1 hbw (.int .i64 s.ses) (.int .i64 s.lim) (.int .i64 s.tmo) (.int .i64 s.base) (.int .i64 s.next) (.int .i64 s.cred) (.slice A2 no c2) (.slice Aq2 nq cq2)
  have hb0 := set25_below HW4.out.2.2.2 (g := w.heap.size) (Nat.le_refl _) (.int .i64 s.ses) (.int .i64 s.lim) (.int .i64 s.tmo) (.int .i64 s.base) (.int .i64 s.next) (.int .i64 s.cred) (.slice A2 no c2) (.slice Aq2 nq cq2)
  have HI0 : Hid (AckI w base p #[.int .i64 s.ses, .int .i64 s.lim, .int .i64 s.tmo, .int .i64 s.base, .int .i64 s.next, .int .i64 s.cred, .slice A2 no c2, .slice Aq2 nq cq2] #[.int .i64 p.kind, .int .i64 p.ses, .int .i64 p.seq, .int .i64 p.ack, .int .i64 p.cred, .slice (some ⟨b, off, none⟩) (m + 1) cs, .slice Ap np cp] #[.int .i64 0, .int .i64 0, .int .i64 0, .int .i64 0, .int .i64 0, .int .i64 0, .slice none 0 0, .slice none 0 0] (.slice A2 no c2) (.slice Aq2 nq cq2) es qs 0 ((((((((w4.setCell ⟨w.heap.size, 0, none⟩ (.int .i64 s.ses)).setCell ⟨w.heap.size, 1, none⟩ (.int .i64 s.lim)).setCell ⟨w.heap.size, 2, none⟩ (.int .i64 s.tmo)).setCell ⟨w.heap.size, 3, none⟩ (.int .i64 s.base)).setCell ⟨w.heap.size, 4, none⟩ (.int .i64 s.next)).setCell ⟨w.heap.size, 5, none⟩ (.int .i64 s.cred)).setCell ⟨w.heap.size, 6, none⟩ (.slice A2 no c2)).setCell ⟨w.heap.size, 7, none⟩ (.slice Aq2 nq cq2))) := ⟨hkS, hkK, hkO, hb0, by rw [updE_zero]; exact (hO2.turn hT0 (by simp) (oeR_ab (by simp))).low HW3.out.2.2.2.size, (hQ2.turn hT0 (by simp) (qeR_ab (by simp))).low HW3.out.2.2.2.size⟩
  clear hkS hkK hkO hT0 hb0 hO2 hQ2
  go_upto_region 7 with fail
  generalize ((((((((w4.setCell ⟨w.heap.size, 0, none⟩ (.int .i64 s.ses)).setCell ⟨w.heap.size, 1, none⟩ (.int .i64 s.lim)).setCell ⟨w.heap.size, 2, none⟩ (.int .i64 s.tmo)).setCell ⟨w.heap.size, 3, none⟩ (.int .i64 s.base)).setCell ⟨w.heap.size, 4, none⟩ (.int .i64 s.next)).setCell ⟨w.heap.size, 5, none⟩ (.int .i64 s.cred)).setCell ⟨w.heap.size, 6, none⟩ (.slice A2 no c2)).setCell ⟨w.heap.size, 7, none⟩ (.slice Aq2 nq cq2)) = V at *
  clear xc0 xc1 xc2 xc3 xc4 xc5 xc6 xc7 xz0 xz1 xz2 xz3 xz4 xz5 xz6 xz7 lS
  have xc3 : V.cell? ⟨w.heap.size, 3, none⟩ = some (.int .i64 s.base) := HI0.out.bs.cell 3
  have xc5 : V.cell? ⟨w.heap.size, 5, none⟩ = some (.int .i64 s.cred) := HI0.out.bs.cell 5
  have xk3 : V.cell? ⟨w.heap.size + 1, 3, none⟩ = some (.int .i64 p.ack) := HI0.out.bk.cell 3
  have xk4 : V.cell? ⟨w.heap.size + 1, 4, none⟩ = some (.int .i64 p.cred) := HI0.out.bk.cell 4
  have b1 := HOK.out.2.1.base
  have b2 := HOK.out.2.1.cred
  have b3 := HOK.out.2.2.1.2.1
  have b4 := HOK.out.2.2.1.2.2.1
  have b5 := HN.out
  have b6 := HOK.out.2.1.out
  have b7 := HOK.out.2.1.lim
  rw [HL.out.1] at b6
  have kw1 : IntKind.i64.wrap (s.base + s.cred) = s.base + s.cred := by rw [IntWalk.i64_in _ (by omega)]
  have kw2 : IntKind.i64.wrap (p.ack + p.cred) = p.ack + p.cred := by rw [IntWalk.i64_in _ (by omega)]
  obtain ⟨gr, hgr⟩ : ∃ x, x = max (s.base + s.cred) (p.ack + p.cred) := ⟨_, rfl⟩
  have hmax := max_run _ _ _ hgr
  have HGR := Lib.hid hgr
  clear hgr
  go_wp2_with fail
  clear hmax kw1 kw2 xc3 xc5 xk3 xk4
  go_loopw [10, 11] (fun v10 v11 wr => ∃ k : Nat, k ≤ no ∧ v11 = .int .i64 k ∧ v10 = .int .i64 ((s.out.take k).foldl (samp p now) (-1)) ∧ AckI w base p #[.int .i64 s.ses, .int .i64 s.lim, .int .i64 s.tmo, .int .i64 s.base, .int .i64 s.next, .int .i64 s.cred, .slice A2 no c2, .slice Aq2 nq cq2] #[.int .i64 p.kind, .int .i64 p.ses, .int .i64 p.seq, .int .i64 p.ack, .int .i64 p.cred, .slice (some ⟨b, off, none⟩) (m + 1) cs, .slice Ap np cp] #[.int .i64 0, .int .i64 0, .int .i64 0, .int .i64 0, .int .i64 0, .int .i64 0, .slice none 0 0, .slice none 0 0] (.slice A2 no c2) (.slice Aq2 nq cq2) es qs k wr) (fun _ v11 _ => no - (intOf v11).toNat)
  case atStart => exact ⟨0, by omega, rfl, rfl, HI0.out⟩
  case round =>
    obtain ⟨k, hk, rfl, rfl, hI⟩ := hrel
    have HI := Lib.hid hI
    clear hI HI0
    by_cases hlt : k < no
    · have ik : (k : Int) < no := by omega
      have hke : k < es.length := by rw [HQ.out.1]; exact hlt
      have hks : k < s.out.length := by rw [HL.out.1]; exact hlt
      have hsk : s.out[k] = es[k].om := by
        have h2 : s.out[k]? = (es.map Oe.om)[k]? := by rw [HQ.out.2.2.1]
        rw [List.getElem?_map, List.getElem?_eq_getElem hke, List.getElem?_eq_getElem hks] at h2
        injection h2
      have hkl : k < (updE (ackE p) k es).length := by rw [updE_len]; exact hke
      have hat := updE_at (ackE p) es hke hkl
      obtain ⟨g, cc, cur, hv, hg, hbl, _, _, hcell⟩ := HI.out.own.form encO_len (by omega)
      injection hv with hA hn2 hc
      subst hA hc
      clear hn2
      have hcell := hcell k hkl
      rw [hat] at hcell
      have htm := HOK.out.2.2.2.2 k hks
      have hfs := fold_succ (samp p now) (-1) s.out k hks
      rw [hsk] at htm hfs
      obtain ⟨E, hE⟩ : ∃ E, E = es[k] := ⟨_, rfl⟩
      rw [← hE] at hcell htm hfs
      obtain ⟨d0, -⟩ := hcell 0 _ rfl
      obtain ⟨d1, -⟩ := hcell 1 _ rfl
      obtain ⟨d2, -⟩ := hcell 2 _ rfl
      obtain ⟨d3, z3⟩ := hcell 3 _ rfl
      obtain ⟨d4, -⟩ := hcell 4 _ rfl
      rw [Nat.add_zero] at d0
      have hgl := hbl.lt
      change 0 ≤ E.time ∧ E.time ≤ 1073741824 at htm
      obtain ⟨ak, hak⟩ : ∃ x, x = E.ak := ⟨_, rfl⟩
      obtain ⟨ab, hab⟩ : ∃ x, x = ackedB p E.seq := ⟨_, rfl⟩
      obtain ⟨sv, hsv⟩ : ∃ x, x = (s.out.take k).foldl (samp p now) (-1) := ⟨_, rfl⟩
      rw [← hak] at d3
      rw [← hsv]
      have HX := Lib.hid (And.intro hke (And.intro hE hak))
      have HA : Hid (ackE p es[k] = (if (!ak && ab) = true then { es[k] with ak := true } else es[k])) := by show _ = _; unfold ackE; rw [← hE, hak, hab]
      have HF : Hid ((s.out.take (k + 1)).foldl (samp p now) (-1) = if (!ak && ab) = true ∧ E.cnt = 1 ∧ E.time ≤ now then now - E.time else sv) := by
        show _ = _
        rw [hfs, ← hsv]
        unfold samp Oe.om
        dsimp only
        rw [hak, hab]
      have HAB := Lib.hid hab
      clear hcell hsk hat hfs hbl hE hak hab hsv hkl hks
      have xc6 : wr.cell? ⟨w.heap.size, 6, none⟩ = some (.slice (some ⟨g, 0, none⟩) no c2) := HI.out.bs.cell 6
      have lS := HI.out.bs.lt
      have hbX : Below wr.heap.size wr (wr.alloc (.cells #[.int .i64 E.seq, .int .i64 E.time, .int .i64 E.cnt, .bool ak, .slice E.A E.p.length E.c] 82)) := (Below.refl _ _).alloc (Nat.le_refl _) _
      have HI2 := Lib.hid (And.intro (HI.out.below hbX) (And.intro (Blk.new wr 82 #[.int .i64 E.seq, .int .i64 E.time, .int .i64 E.cnt, .bool ak, .slice E.A E.p.length E.c]) hbX))
      clear hbX
      cases ak with
      | true =>
        have HS := Lib.hid (HI2.out.1.skip HX.out.1 (by rw [HA.out]; rfl))
        have HF2 : Hid ((s.out.take (k + 1)).foldl (samp p now) (-1) = sv) := by show _ = _; rw [HF.out, if_neg (by simp)]
        go_wp2_with fail
        go_roundw
        case rel => exact ⟨k + 1, by omega, by go_num, by rw [HF2.out], HS.out⟩
        case measure => simp [intOf]; omega
      | false =>
        have xk0 : (wr.alloc (.cells #[.int .i64 E.seq, .int .i64 E.time, .int .i64 E.cnt, .bool false, .slice E.A E.p.length E.c] 82)).cell? ⟨w.heap.size + 1, 0, none⟩ = some (.int .i64 p.kind) := HI2.out.1.bk.cell 0
        have xk1 : (wr.alloc (.cells #[.int .i64 E.seq, .int .i64 E.time, .int .i64 E.cnt, .bool false, .slice E.A E.p.length E.c] 82)).cell? ⟨w.heap.size + 1, 1, none⟩ = some (.int .i64 p.ses) := HI2.out.1.bk.cell 1
        have xk2 : (wr.alloc (.cells #[.int .i64 E.seq, .int .i64 E.time, .int .i64 E.cnt, .bool false, .slice E.A E.p.length E.c] 82)).cell? ⟨w.heap.size + 1, 2, none⟩ = some (.int .i64 p.seq) := HI2.out.1.bk.cell 2
        have xk3 : (wr.alloc (.cells #[.int .i64 E.seq, .int .i64 E.time, .int .i64 E.cnt, .bool false, .slice E.A E.p.length E.c] 82)).cell? ⟨w.heap.size + 1, 3, none⟩ = some (.int .i64 p.ack) := HI2.out.1.bk.cell 3
        have xk4 : (wr.alloc (.cells #[.int .i64 E.seq, .int .i64 E.time, .int .i64 E.cnt, .bool false, .slice E.A E.p.length E.c] 82)).cell? ⟨w.heap.size + 1, 4, none⟩ = some (.int .i64 p.cred) := HI2.out.1.bk.cell 4
        have xk5 : (wr.alloc (.cells #[.int .i64 E.seq, .int .i64 E.time, .int .i64 E.cnt, .bool false, .slice E.A E.p.length E.c] 82)).cell? ⟨w.heap.size + 1, 5, none⟩ = some (.slice (some ⟨b, off, none⟩) (m + 1) cs) := HI2.out.1.bk.cell 5
        have xk6 : (wr.alloc (.cells #[.int .i64 E.seq, .int .i64 E.time, .int .i64 E.cnt, .bool false, .slice E.A E.p.length E.c] 82)).cell? ⟨w.heap.size + 1, 6, none⟩ = some (.slice Ap np cp) := HI2.out.1.bk.cell 6
        have lK := HI2.out.1.bk.lt
        go_wp2_with fail
        refine (refacked_any p E.seq _ base _ (HP.out.up HI2.out.1.bel) HOK.out.2.2.2.1 HSM.out.2.sel).mono ?_
        rintro e w1 ⟨rfl, hb1⟩
        have hbW := HI2.out.2.2.trans (hb1.mono HI2.out.2.2.size)
        have e3 := (hbW.cell (p := ⟨g, k * 5 + 3, none⟩) hgl).trans d3
        have ez3 := (hbW.frozen (p := ⟨g, k * 5 + 3, none⟩) hgl).trans z3
        have hgl1 := Nat.lt_of_lt_of_le hgl hbW.size
        have HI1 := Lib.hid (And.intro (HI2.out.1.below hb1) (HI2.out.2.1.below hb1 HI2.out.2.1.lt))
        rw [← HAB.out]
        clear hb1 hbW xc6 d0 d1 d2 d3 d4 z3 lS lK xk0 xk1 xk2 xk3 xk4 xk5 xk6
        have yc6 : w1.cell? ⟨w.heap.size, 6, none⟩ = some (.slice (some ⟨g, 0, none⟩) no c2) := HI1.out.1.bs.cell 6
        cases ab with
        | false =>
          have HS := Lib.hid (HI1.out.1.skip HX.out.1 (by rw [HA.out]; rfl))
          have HF2 : Hid ((s.out.take (k + 1)).foldl (samp p now) (-1) = sv) := by show _ = _; rw [HF.out, if_neg (by simp)]
          go_wp2_with fail
          go_roundw
          case rel => exact ⟨k + 1, by omega, by go_num, by rw [HF2.out], HS.out⟩
          case measure => simp [intOf]; omega
        | true =>
          have HS := Lib.hid (HI1.out.1.set hbw HQ.out.1 HX.out.1 (by rw [HA.out]; rfl) hg)
          have hX9 := HI1.out.2.far (p := ⟨g, k * 5 + 3, none⟩) (by dsimp only; omega) (.bool true)
          have q1 : (w1.setCell ⟨g, k * 5 + 3, none⟩ (.bool true)).cell? ⟨wr.heap.size, 1, none⟩ = some (.int .i64 E.time) := hX9.cell 1
          have q2 : (w1.setCell ⟨g, k * 5 + 3, none⟩ (.bool true)).cell? ⟨wr.heap.size, 2, none⟩ = some (.int .i64 E.cnt) := hX9.cell 2
          clear hX9
          have kwn : IntKind.i64.wrap (now - E.time) = now - E.time := by rw [IntWalk.i64_in _ (by omega)]
          go_upto_region 15 with fail
          clear yc6 e3 ez3 hgl1
          obtain ⟨X, hX⟩ : ∃ x, x = wr.heap.size := ⟨_, rfl⟩
          rw [← hX] at q1 q2 ⊢
          clear hX
          generalize (w1.setCell ⟨g, k * 5 + 3, none⟩ (.bool true)) = W5 at *
          by_cases hc1 : E.cnt = 1
          rotate_left 1
          · have k1 : ((E.cnt : Int) == 1) = false := by simpa using hc1
            have HF2 : Hid ((s.out.take (k + 1)).foldl (samp p now) (-1) = sv) := by show _ = _; rw [HF.out, if_neg (fun h => hc1 h.2.1)]
            clear hc1
            go_wp2_with fail
            go_roundw
            case rel => exact ⟨k + 1, by omega, by go_num, by rw [HF2.out], HS.out⟩
            case measure => simp [intOf]; omega
          have k1 : ((E.cnt : Int) == 1) = true := by simpa using hc1
          by_cases hc2 : E.time ≤ now
          rotate_left 1
          · have k2 : decide (E.time ≤ now) = false := decide_eq_false hc2
            have HF2 : Hid ((s.out.take (k + 1)).foldl (samp p now) (-1) = sv) := by show _ = _; rw [HF.out, if_neg (fun h => hc2 h.2.2)]
            clear hc2 hc1
            go_wp2_with fail
            go_roundw
            case rel => exact ⟨k + 1, by omega, by go_num, by rw [HF2.out], HS.out⟩
            case measure => simp [intOf]; omega
          have k2 : decide (E.time ≤ now) = true := decide_eq_true hc2
          have HF2 : Hid ((s.out.take (k + 1)).foldl (samp p now) (-1) = now - E.time) := by show _ = _; rw [HF.out, if_pos ⟨rfl, hc1, hc2⟩]
          clear hc2 hc1
          go_wp2_with fail
          go_roundw
          case rel => exact ⟨k + 1, by omega, by go_num, by rw [HF2.out], HS.out⟩
          case measure => simp [intOf]; omega
    · obtain rfl : k = no := by omega
      obtain ⟨wo, hwo⟩ : ∃ x : World, x = wr := ⟨_, rfl⟩
      subst hwo
      have hfold : (s.out.take k).foldl (samp p now) (-1) = s.out.foldl (samp p now) (-1) := by rw [List.take_of_length_le (by rw [HL.out.1]; exact Nat.le_refl _)]
      rw [hfold]
      clear hfold
      obtain ⟨L, hL⟩ : ∃ L, L = es.map (ackE p) := ⟨_, rfl⟩
      have hLm : L.map Oe.om = s.out.map (ackO p) := by
        rw [hL, ← HQ.out.2.2.1, List.map_map, List.map_map]
        apply List.map_congr_left
        intro e _
        exact ackE_om p e
      have hLn : L.length = k := by rw [hL, List.length_map, HQ.out.1]
      have hJ0 : Hid (AckJ w base s (.slice A2 k c2) (.slice Aq2 nq cq2) L qs 0 wo) := by
        refine ⟨?_, HI.out.bo, ?_, HI.out.bq, HI.out.bel⟩
        · rw [show s.base + ((0 : Nat) : Int) = s.base by simp]
          exact HI.out.bs
        · have h := HI.out.own
          rw [updE_all _ _ HQ.out.1, ← hL] at h
          exact h.vec
      have HLL := Lib.hid (And.intro hLm hLn)
      have hbx := HI.out.bel
      have xc6 : wo.cell? ⟨w.heap.size, 6, none⟩ = some (.slice A2 k c2) := HI.out.bs.cell 6
      have lS := HI.out.bs.lt
      clear hL hLm hLn hbx
      go_wp2_with fail
      clear xc6 lS HI
      go_loopw [142] (fun _ wr => ∃ (j : Nat) (vo : Value) (l : List Oe), j ≤ k ∧ l = L.drop j ∧ (∀ i (hi : i < L.length), i < j → L[i].ak = true) ∧ Hid (AckJ w base s vo (.slice Aq2 nq cq2) l qs j wr)) (fun _ wr => lenOf ((wr.cell? ⟨w.heap.size, 6, none⟩).getD undef))
      case atStart => exact ⟨0, _, L, by omega, rfl, fun i hi h => by omega, hJ0⟩
      case round =>
        obtain ⟨j, vo, l, hjk, hl, hak, HJ⟩ := hrel
        obtain ⟨Av, cv, rfl, hlc, hcm, -⟩ := HJ.out.vec.val
        have HLJ := Lib.hid (And.intro hl hak)
        have hjl : l.length = k - j := by rw [hl, List.length_drop, HLL.out.2]
        clear hJ0 hl hak
        have xc3 : wr.cell? ⟨w.heap.size, 3, none⟩ = some (.int .i64 (s.base + (j : Nat))) := HJ.out.bs.cell 3
        have xc6 : wr.cell? ⟨w.heap.size, 6, none⟩ = some (.slice Av l.length cv) := HJ.out.bs.cell 6
        have xz3 := HJ.out.bs.frozen 3
        have xz6 := HJ.out.bs.frozen 6
        have lS := HJ.out.bs.lt
        have hgb : 0 ≤ gr ∧ gr ≤ 1073741888 := by rw [HGR.out]; omega
        cases l with
        | nil =>
          have HFj : Hid (j = ((s.out.map (ackO p)).takeWhile (·.ak)).length) := by
            show _ = _
            rw [← HLL.out.1]
            symm
            refine tw_eq (L.map Oe.om) j (fun i hi h => ?_) (fun h => ?_) (by rw [List.length_map, HLL.out.2]; exact hjk)
            · rw [List.getElem_map]; rw [List.length_map] at hi; exact HLJ.out.2 i hi h
            · rw [List.length_map, HLL.out.2] at h; simp at hjl; omega
          rw [List.length_nil] at xc6 hlc
          clear hjl
          have HSM2 : Hid (ackS s now p = ({ s with base := s.base + j, out := (s.out.map (ackO p)).drop j, cred := max (gr - (s.base + j)) 0 }, s.out.foldl (samp p now) (-1))) := by
            show _ = _
            unfold ackS
            rw [if_neg (by rw [HACC.out]; simp), HGR.out, HFj.out]
          obtain ⟨cr, hcr⟩ : ∃ x, x = max 0 (gr - (s.base + (j : Int))) := ⟨_, rfl⟩
          have hmax2 := max_run _ _ _ hcr
          have kwg : IntKind.i64.wrap (gr - (s.base + (j : Int))) = gr - (s.base + (j : Int)) := by rw [IntWalk.i64_in _ (by omega)]
          have HCR := Lib.hid hcr
          clear hcr xc3 xc6 xz3 xz6 lS
          have hB : Blk wr (w.heap.size) 25 #[.int .i64 s.ses, .int .i64 s.lim, .int .i64 s.tmo, .int .i64 (s.base + (j : Int)), .int .i64 s.next, .int .i64 s.cred, .slice Av 0 cv, .slice Aq2 nq cq2] := HJ.out.bs
          have xc0 : wr.cell? ⟨w.heap.size, 0, none⟩ = some (.int .i64 s.ses) := hB.cell 0
          have xc1 : wr.cell? ⟨w.heap.size, 1, none⟩ = some (.int .i64 s.lim) := hB.cell 1
          have xc2 : wr.cell? ⟨w.heap.size, 2, none⟩ = some (.int .i64 s.tmo) := hB.cell 2
          have xc3 : wr.cell? ⟨w.heap.size, 3, none⟩ = some (.int .i64 (s.base + (j : Int))) := hB.cell 3
          have xc4 : wr.cell? ⟨w.heap.size, 4, none⟩ = some (.int .i64 s.next) := hB.cell 4
          have xc5 : wr.cell? ⟨w.heap.size, 5, none⟩ = some (.int .i64 s.cred) := hB.cell 5
          have xc6 : wr.cell? ⟨w.heap.size, 6, none⟩ = some (.slice Av 0 cv) := hB.cell 6
          have xc7 : wr.cell? ⟨w.heap.size, 7, none⟩ = some (.slice Aq2 nq cq2) := hB.cell 7
          have xz0 := hB.frozen 0
          have xz1 := hB.frozen 1
          have xz2 := hB.frozen 2
          have xz3 := hB.frozen 3
          have xz4 := hB.frozen 4
          have xz5 := hB.frozen 5
          have xz6 := hB.frozen 6
          have xz7 := hB.frozen 7
          have xo0 : wr.cell? ⟨w.heap.size + 1 + 1, 0, none⟩ = some (.int .i64 0) := HJ.out.bo.cell 0
          have xo1 : wr.cell? ⟨w.heap.size + 1 + 1, 1, none⟩ = some (.int .i64 0) := HJ.out.bo.cell 1
          have xo2 : wr.cell? ⟨w.heap.size + 1 + 1, 2, none⟩ = some (.int .i64 0) := HJ.out.bo.cell 2
          have xo3 : wr.cell? ⟨w.heap.size + 1 + 1, 3, none⟩ = some (.int .i64 0) := HJ.out.bo.cell 3
          have xo4 : wr.cell? ⟨w.heap.size + 1 + 1, 4, none⟩ = some (.int .i64 0) := HJ.out.bo.cell 4
          have xo5 : wr.cell? ⟨w.heap.size + 1 + 1, 5, none⟩ = some (.int .i64 0) := HJ.out.bo.cell 5
          have xo6 : wr.cell? ⟨w.heap.size + 1 + 1, 6, none⟩ = some (.slice none 0 0) := HJ.out.bo.cell 6
          have xo7 : wr.cell? ⟨w.heap.size + 1 + 1, 7, none⟩ = some (.slice none 0 0) := HJ.out.bo.cell 7
          have xy0 := HJ.out.bo.frozen 0
          have xy1 := HJ.out.bo.frozen 1
          have xy2 := HJ.out.bo.frozen 2
          have xy3 := HJ.out.bo.frozen 3
          have xy4 := HJ.out.bo.frozen 4
          have xy5 := HJ.out.bo.frozen 5
          have xy6 := HJ.out.bo.frozen 6
          have xy7 := HJ.out.bo.frozen 7
          have lS := hB.lt
          have lO := HJ.out.bo.lt
          have hk6 : Blk (wr.setCell ⟨w.heap.size, 5, none⟩ (.int .i64 cr)) (w.heap.size) 25 #[.int .i64 s.ses, .int .i64 s.lim, .int .i64 s.tmo, .int .i64 (s.base + (j : Int)), .int .i64 s.next, .int .i64 cr, .slice Av 0 cv, .slice Aq2 nq cq2] := hB.set_ 5 (.int .i64 cr)
          have hT6 : Turn base [25] wr (wr.setCell ⟨w.heap.size, 5, none⟩ (.int .i64 cr)) := (Turn.refl base [25] wr).set hB (by simp) hbw 5 _
          have hO6 := HJ.out.bo.far (p := ⟨w.heap.size, 5, none⟩) (by dsimp only; omega) (.int .i64 cr)
          have hb6 := HJ.out.bel.setCell (p := ⟨w.heap.size, 5, none⟩) (Nat.le_refl _) (.int .i64 cr)
          have hkF := set25_blk hO6 (.int .i64 s.ses) (.int .i64 s.lim) (.int .i64 s.tmo) (.int .i64 (s.base + (j : Int))) (.int .i64 s.next) (.int .i64 cr) (.slice Av 0 cv) (.slice Aq2 nq cq2)
          have hTF := set25_turn hO6 (base := base) (by omega) (.int .i64 s.ses) (.int .i64 s.lim) (.int .i64 s.tmo) (.int .i64 (s.base + (j : Int))) (.int .i64 s.next) (.int .i64 cr) (.slice Av 0 cv) (.slice Aq2 nq cq2)
          have hbF := set25_below hb6 (g := w.heap.size + 1 + 1) (by omega) (.int .i64 s.ses) (.int .i64 s.lim) (.int .i64 s.tmo) (.int .i64 (s.base + (j : Int))) (.int .i64 s.next) (.int .i64 cr) (.slice Av 0 cv) (.slice Aq2 nq cq2)
          have HF3 := Lib.hid (And.intro hkF (And.intro hbF (And.intro ((HJ.out.vec.turn hT6 (by simp) (oeR_ab (by simp))).turn hTF (by simp) (oeR_ab (by simp))) ((HJ.out.bq.turn hT6 (by simp) (qeR_ab (by simp))).turn hTF (by simp) (qeR_ab (by simp))))))
          clear hB hk6 hT6 hO6 hb6 hkF hTF hbF
          go_wp2_with fail
          refine bodyPost_ret (results_cell_tmp (t := 25) rfl _ _ (w.heap.size + 1 + 1) _ _ rfl HF3.out.1 Try.underlying25 rfl (by kernel_rfl)) rfl ?_
          refine ⟨⟨_, _, rfl, ?_, by rw [HSM2.out]⟩, HF3.out.2.1⟩
          rw [HSM2.out, Int.max_comm, ← HCR.out, ← HLL.out.1, ← List.map_drop]
          exact ⟨_, _, rfl, ⟨[], HF3.out.2.2.1, by rw [HLJ.out.1]⟩, ⟨qs, HF3.out.2.2.2.vec, HQ.out.2.2.2⟩⟩
        | cons a t =>
          obtain ⟨b, off, c9, hv9, -, -, hbw9, hc⟩ := HJ.out.vec.at_ encO_len (by omega) (by simp)
          injection hv9 with hA9 hn9 hc9
          subst hA9 hc9
          clear hn9
          have d3 : wr.cell? ⟨b, off + 3, none⟩ = some (.bool a.ak) := by have h := hc 0 (by simp) 3 _ rfl; simpa using h
          clear hc
          have hjlt : j < L.length := by rw [HLL.out.2]; simp at hjl; omega
          have haL : L[j] = a := by
            have h1 := congrArg (fun q : List Oe => q[0]?) HLJ.out.1
            simp only [List.getElem?_cons_zero, List.getElem?_drop, Nat.add_zero, List.getElem?_eq_getElem hjlt] at h1
            injection h1 with h1
            exact h1.symm
          obtain ⟨ak, hak⟩ : ∃ x, a.ak = x := ⟨_, rfl⟩
          rw [hak] at d3
          have HAK := Lib.hid (And.intro hak haL)
          have HJL := Lib.hid hjlt
          rw [List.length_cons] at xc6 hlc hjl
          clear hak haL
          cases ak with
          | false =>
            have HFj : Hid (j = ((s.out.map (ackO p)).takeWhile (·.ak)).length) := by
              show _ = _
              rw [← HLL.out.1]
              symm
              refine tw_eq (L.map Oe.om) j (fun i hi h => ?_) (fun h => ?_) (by rw [List.length_map, HLL.out.2]; exact hjk)
              · rw [List.getElem_map]; rw [List.length_map] at hi; exact HLJ.out.2 i hi h
              · rw [List.getElem_map]; exact (congrArg Oe.ak HAK.out.2).trans HAK.out.1
            clear hjl
            have HSM2 : Hid (ackS s now p = ({ s with base := s.base + j, out := (s.out.map (ackO p)).drop j, cred := max (gr - (s.base + j)) 0 }, s.out.foldl (samp p now) (-1))) := by
              show _ = _
              unfold ackS
              rw [if_neg (by rw [HACC.out]; simp), HGR.out, HFj.out]
            obtain ⟨cr, hcr⟩ : ∃ x, x = max 0 (gr - (s.base + (j : Int))) := ⟨_, rfl⟩
            have hmax2 := max_run _ _ _ hcr
            have kwg : IntKind.i64.wrap (gr - (s.base + (j : Int))) = gr - (s.base + (j : Int)) := by rw [IntWalk.i64_in _ (by omega)]
            have HCR := Lib.hid hcr
            clear hcr xc3 xc6 xz3 xz6 lS
            have hB : Blk wr (w.heap.size) 25 #[.int .i64 s.ses, .int .i64 s.lim, .int .i64 s.tmo, .int .i64 (s.base + (j : Int)), .int .i64 s.next, .int .i64 s.cred, .slice (some ⟨b, off, none⟩) (t.length + 1) cv, .slice Aq2 nq cq2] := HJ.out.bs
            have xc0 : wr.cell? ⟨w.heap.size, 0, none⟩ = some (.int .i64 s.ses) := hB.cell 0
            have xc1 : wr.cell? ⟨w.heap.size, 1, none⟩ = some (.int .i64 s.lim) := hB.cell 1
            have xc2 : wr.cell? ⟨w.heap.size, 2, none⟩ = some (.int .i64 s.tmo) := hB.cell 2
            have xc3 : wr.cell? ⟨w.heap.size, 3, none⟩ = some (.int .i64 (s.base + (j : Int))) := hB.cell 3
            have xc4 : wr.cell? ⟨w.heap.size, 4, none⟩ = some (.int .i64 s.next) := hB.cell 4
            have xc5 : wr.cell? ⟨w.heap.size, 5, none⟩ = some (.int .i64 s.cred) := hB.cell 5
            have xc6 : wr.cell? ⟨w.heap.size, 6, none⟩ = some (.slice (some ⟨b, off, none⟩) (t.length + 1) cv) := hB.cell 6
            have xc7 : wr.cell? ⟨w.heap.size, 7, none⟩ = some (.slice Aq2 nq cq2) := hB.cell 7
            have xz0 := hB.frozen 0
            have xz1 := hB.frozen 1
            have xz2 := hB.frozen 2
            have xz3 := hB.frozen 3
            have xz4 := hB.frozen 4
            have xz5 := hB.frozen 5
            have xz6 := hB.frozen 6
            have xz7 := hB.frozen 7
            have xo0 : wr.cell? ⟨w.heap.size + 1 + 1, 0, none⟩ = some (.int .i64 0) := HJ.out.bo.cell 0
            have xo1 : wr.cell? ⟨w.heap.size + 1 + 1, 1, none⟩ = some (.int .i64 0) := HJ.out.bo.cell 1
            have xo2 : wr.cell? ⟨w.heap.size + 1 + 1, 2, none⟩ = some (.int .i64 0) := HJ.out.bo.cell 2
            have xo3 : wr.cell? ⟨w.heap.size + 1 + 1, 3, none⟩ = some (.int .i64 0) := HJ.out.bo.cell 3
            have xo4 : wr.cell? ⟨w.heap.size + 1 + 1, 4, none⟩ = some (.int .i64 0) := HJ.out.bo.cell 4
            have xo5 : wr.cell? ⟨w.heap.size + 1 + 1, 5, none⟩ = some (.int .i64 0) := HJ.out.bo.cell 5
            have xo6 : wr.cell? ⟨w.heap.size + 1 + 1, 6, none⟩ = some (.slice none 0 0) := HJ.out.bo.cell 6
            have xo7 : wr.cell? ⟨w.heap.size + 1 + 1, 7, none⟩ = some (.slice none 0 0) := HJ.out.bo.cell 7
            have xy0 := HJ.out.bo.frozen 0
            have xy1 := HJ.out.bo.frozen 1
            have xy2 := HJ.out.bo.frozen 2
            have xy3 := HJ.out.bo.frozen 3
            have xy4 := HJ.out.bo.frozen 4
            have xy5 := HJ.out.bo.frozen 5
            have xy6 := HJ.out.bo.frozen 6
            have xy7 := HJ.out.bo.frozen 7
            have lS := hB.lt
            have lO := HJ.out.bo.lt
            have hk6 : Blk (wr.setCell ⟨w.heap.size, 5, none⟩ (.int .i64 cr)) (w.heap.size) 25 #[.int .i64 s.ses, .int .i64 s.lim, .int .i64 s.tmo, .int .i64 (s.base + (j : Int)), .int .i64 s.next, .int .i64 cr, .slice (some ⟨b, off, none⟩) (t.length + 1) cv, .slice Aq2 nq cq2] := hB.set_ 5 (.int .i64 cr)
            have hT6 : Turn base [25] wr (wr.setCell ⟨w.heap.size, 5, none⟩ (.int .i64 cr)) := (Turn.refl base [25] wr).set hB (by simp) hbw 5 _
            have hO6 := HJ.out.bo.far (p := ⟨w.heap.size, 5, none⟩) (by dsimp only; omega) (.int .i64 cr)
            have hb6 := HJ.out.bel.setCell (p := ⟨w.heap.size, 5, none⟩) (Nat.le_refl _) (.int .i64 cr)
            have hkF := set25_blk hO6 (.int .i64 s.ses) (.int .i64 s.lim) (.int .i64 s.tmo) (.int .i64 (s.base + (j : Int))) (.int .i64 s.next) (.int .i64 cr) (.slice (some ⟨b, off, none⟩) (t.length + 1) cv) (.slice Aq2 nq cq2)
            have hTF := set25_turn hO6 (base := base) (by omega) (.int .i64 s.ses) (.int .i64 s.lim) (.int .i64 s.tmo) (.int .i64 (s.base + (j : Int))) (.int .i64 s.next) (.int .i64 cr) (.slice (some ⟨b, off, none⟩) (t.length + 1) cv) (.slice Aq2 nq cq2)
            have hbF := set25_below hb6 (g := w.heap.size + 1 + 1) (by omega) (.int .i64 s.ses) (.int .i64 s.lim) (.int .i64 s.tmo) (.int .i64 (s.base + (j : Int))) (.int .i64 s.next) (.int .i64 cr) (.slice (some ⟨b, off, none⟩) (t.length + 1) cv) (.slice Aq2 nq cq2)
            have HF3 := Lib.hid (And.intro hkF (And.intro hbF (And.intro ((HJ.out.vec.turn hT6 (by simp) (oeR_ab (by simp))).turn hTF (by simp) (oeR_ab (by simp))) ((HJ.out.bq.turn hT6 (by simp) (qeR_ab (by simp))).turn hTF (by simp) (qeR_ab (by simp))))))
            clear hB hk6 hT6 hO6 hb6 hkF hTF hbF
            go_wp2_with fail
            refine bodyPost_ret (results_cell_tmp (t := 25) rfl _ _ (w.heap.size + 1 + 1) _ _ rfl HF3.out.1 Try.underlying25 rfl (by kernel_rfl)) rfl ?_
            refine ⟨⟨_, _, rfl, ?_, by rw [HSM2.out]⟩, HF3.out.2.1⟩
            rw [HSM2.out, Int.max_comm, ← HCR.out, ← HLL.out.1, ← List.map_drop]
            exact ⟨_, _, rfl, ⟨(a :: t), HF3.out.2.2.1, by rw [HLJ.out.1]⟩, ⟨qs, HF3.out.2.2.2.vec, HQ.out.2.2.2⟩⟩
          | true =>
            have kwj : IntKind.i64.wrap (s.base + (j : Int) + 1) = s.base + (j : Int) + 1 := by rw [IntWalk.i64_in _ (by omega)]
            have k1 : (1 ≤ (t.length : Int) + 1) = True := eq_true (by omega)
            have hdrop : t = L.drop (j + 1) := by
              have h1 := congrArg (fun q : List Oe => q.drop 1) HLJ.out.1
              simp only [List.drop_succ_cons, List.drop_zero, List.drop_drop] at h1
              rw [show j + 1 = j + 1 from rfl] at h1
              exact h1
            have hall : ∀ i (hi : i < L.length), i < j + 1 → L[i].ak = true := fun i hi h => by
              rcases Nat.lt_or_ge i j with h2 | h2
              · exact HLJ.out.2 i hi h2
              · obtain rfl : i = j := by omega
                rw [HAK.out.2]; exact HAK.out.1
            have HDA := Lib.hid (And.intro hdrop hall)
            clear hdrop hall hjl
            by_cases hcc : cv = 1
            · subst hcc
              have ht : t = [] := List.eq_nil_of_length_eq_zero (by omega)
              have HT := Lib.hid ht
              clear ht
              have HN := Lib.hid (HJ.out.pop hbw (vo' := .slice (some ⟨b, off, none⟩) 0 0) (l' := []) ⟨⟨_, 0, rfl, Nat.le_refl _, by unfold maxLen; omega, Rd.none_⟩, nofun⟩)
              have hm0 : wr.cell? ⟨w.heap.size, 6, none⟩ = some (.slice (some ⟨b, off, none⟩) (t.length + 1) 1) := xc6
              have HM := Lib.hid hm0
              clear hm0
              go_wp2_with fail
              clear xc3 xc6 xz3 xz6 lS d3 kwj k1
              go_roundw
              case rel => exact ⟨j + 1, _, [], by have := HJL.out; rw [HLL.out.2] at this; omega, by rw [← HDA.out.1, HT.out], HDA.out.2, HN⟩
              case measure => rw [HM.out, show (((wr.setCell ⟨w.heap.size, 6, none⟩ (.slice (some ⟨b, off, none⟩) 0 0)).setCell ⟨w.heap.size, 3, none⟩ (.int .i64 (s.base + (j : Int) + 1))).cell? ⟨w.heap.size, 6, none⟩) = some (.slice (some ⟨b, off, none⟩) 0 0) from HN.out.bs.cell 6]; simp [lenOf]
            · have hvt0 := Vec.tail HJ.out.vec (encO_len a)
              rw [if_neg hcc] at hvt0
              have HN := Lib.hid (HJ.out.pop hbw (vo' := .slice (some ⟨b, off + 5, none⟩) t.length (cv - 1)) (l' := t) hvt0)
              have HM : Hid (wr.cell? ⟨w.heap.size, 6, none⟩ = some (.slice (some ⟨b, off, none⟩) (t.length + 1) cv)) := xc6
              clear hvt0
              go_wp2_with fail
              clear xc3 xc6 xz3 xz6 lS d3 kwj k1
              go_roundw
              case rel => exact ⟨j + 1, _, t, by have := HJL.out; rw [HLL.out.2] at this; omega, HDA.out.1, HDA.out.2, HN⟩
              case measure => rw [HM.out, show (((wr.setCell ⟨w.heap.size, 6, none⟩ (.slice (some ⟨b, off + 5, none⟩) t.length (cv - 1))).setCell ⟨w.heap.size, 3, none⟩ (.int .i64 (s.base + (j : Int) + 1))).cell? ⟨w.heap.size, 6, none⟩) = some (.slice (some ⟨b, off + 5, none⟩) t.length (cv - 1)) from HN.out.bs.cell 6]; simp [lenOf]
end Go.Proofs.Ytanmndhdhlmjgaa
