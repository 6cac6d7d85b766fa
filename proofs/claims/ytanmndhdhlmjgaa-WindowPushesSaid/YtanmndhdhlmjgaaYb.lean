/- The walk of the reference's Push. Conditions: small. -/
import Derived.Test.YtanmndhdhlmjgaaYa
import Derived.Test.YtanmndhdhlmjgaaWj
import Derived.Test.YtanmndhdhlmjgaaWh
namespace Go.Proofs.Ytanmndhdhlmjgaa
open Go.RowKit
set_option maxRecDepth 100000 in
set_option maxHeartbeats 2000000 in
set_option linter.unusedSimpArgs false in
theorem refPush_any (s : Sm) (v : Value) (base : Nat) (p : List Nat) (vp : Value) (w : World) (hv : SnV w base s v) (hs : Small s) (hbw : base ≤ w.heap.size) (hp : BsV w base p vp) (hpl : p.length ≤ 100000) :
    Calls Try.prog 24 #[v, vp] w fun e w' => (∃ u k, e = .returned (.tuple #[u, .int .i64 k]) ∧ (k : Int) = ((pushS s p).2 : Nat) ∧ SnV w' base (pushS s p).1 u) ∧ Below w.heap.size w w' := by
  obtain ⟨Ap, cp, rfl, hbp⟩ := hp
  have HV := Lib.hid hv
  obtain ⟨vo, vq, rfl, hO, hQ⟩ := hv
  obtain ⟨Ao, co, rfl, -, -⟩ := hO.form
  obtain ⟨Aq, cq, rfl, -, -⟩ := hQ.form
  clear hO hQ
  obtain ⟨no, hno⟩ : ∃ n, s.out.length = n := ⟨_, rfl⟩
  obtain ⟨nq, hnq⟩ : ∃ n, s.q.length = n := ⟨_, rfl⟩
  obtain ⟨pl, hpll⟩ : ∃ n, p.length = n := ⟨_, rfl⟩
  have hsq := hs.q
  rw [hno, hnq] at HV ⊢
  rw [hnq] at hsq
  have HP := Lib.hid hbp
  rw [hpll] at hpl ⊢
  have HL := Lib.hid (And.intro hno (And.intro hnq (And.intro hpll hs)))
  clear hno hnq hpll hs hbp
  unfold snC at HV ⊢
  have HW : Hid (Blk ((w.alloc (.cells #[.int .i64 s.ses, .int .i64 s.lim, .int .i64 s.tmo, .int .i64 s.base, .int .i64 s.next, .int .i64 s.cred, .slice Ao no co, .slice Aq nq cq] 25)).alloc (.cells #[.int .i64 0, .int .i64 0, .int .i64 0, .int .i64 0, .int .i64 0, .int .i64 0, .slice none 0 0, .slice none 0 0] 25)) (w.heap.size) 25 #[.int .i64 s.ses, .int .i64 s.lim, .int .i64 s.tmo, .int .i64 s.base, .int .i64 s.next, .int .i64 s.cred, .slice Ao no co, .slice Aq nq cq] ∧ Blk ((w.alloc (.cells #[.int .i64 s.ses, .int .i64 s.lim, .int .i64 s.tmo, .int .i64 s.base, .int .i64 s.next, .int .i64 s.cred, .slice Ao no co, .slice Aq nq cq] 25)).alloc (.cells #[.int .i64 0, .int .i64 0, .int .i64 0, .int .i64 0, .int .i64 0, .int .i64 0, .slice none 0 0, .slice none 0 0] 25)) (w.heap.size + 1) 25 #[.int .i64 0, .int .i64 0, .int .i64 0, .int .i64 0, .int .i64 0, .int .i64 0, .slice none 0 0, .slice none 0 0] ∧ Below w.heap.size w ((w.alloc (.cells #[.int .i64 s.ses, .int .i64 s.lim, .int .i64 s.tmo, .int .i64 s.base, .int .i64 s.next, .int .i64 s.cred, .slice Ao no co, .slice Aq nq cq] 25)).alloc (.cells #[.int .i64 0, .int .i64 0, .int .i64 0, .int .i64 0, .int .i64 0, .int .i64 0, .slice none 0 0, .slice none 0 0] 25))) := by
    have h1 := (Blk.new w 25 #[.int .i64 s.ses, .int .i64 s.lim, .int .i64 s.tmo, .int .i64 s.base, .int .i64 s.next, .int .i64 s.cred, .slice Ao no co, .slice Aq nq cq]).alloc (.cells #[.int .i64 0, .int .i64 0, .int .i64 0, .int .i64 0, .int .i64 0, .int .i64 0, .slice none 0 0, .slice none 0 0] 25)
    have h2 := Blk.new (w.alloc (.cells #[.int .i64 s.ses, .int .i64 s.lim, .int .i64 s.tmo, .int .i64 s.base, .int .i64 s.next, .int .i64 s.cred, .slice Ao no co, .slice Aq nq cq] 25)) 25 #[.int .i64 0, .int .i64 0, .int .i64 0, .int .i64 0, .int .i64 0, .int .i64 0, .slice none 0 0, .slice none 0 0]
    rw [World.size_alloc] at h2
    exact ⟨h1, h2, ((Below.refl _ w).alloc (Nat.le_refl _) _).alloc (by simp) _⟩
  obtain ⟨ev, hev⟩ : ∃ n, chkS s = n := ⟨_, rfl⟩
  have hc1 := refCheckSender_any s _ base ((w.alloc (.cells #[.int .i64 s.ses, .int .i64 s.lim, .int .i64 s.tmo, .int .i64 s.base, .int .i64 s.next, .int .i64 s.cred, .slice Ao no co, .slice Aq nq cq] 25)).alloc (.cells #[.int .i64 0, .int .i64 0, .int .i64 0, .int .i64 0, .int .i64 0, .int .i64 0, .slice none 0 0, .slice none 0 0] 25)) (HV.out.up HW.out.2.2) HL.out.2.2.2
  rw [hev] at hc1
  have HC1 := Lib.hid hc1
  have HE := Lib.hid hev
  clear hc1 hev
  go_enter Try.func24, Try.ntmps24
  go_wp2_with fail
  generalize ((w.alloc (.cells #[.int .i64 s.ses, .int .i64 s.lim, .int .i64 s.tmo, .int .i64 s.base, .int .i64 s.next, .int .i64 s.cred, .slice Ao no co, .slice Aq nq cq] 25)).alloc (.cells #[.int .i64 0, .int .i64 0, .int .i64 0, .int .i64 0, .int .i64 0, .int .i64 0, .slice none 0 0, .slice none 0 0] 25)) = W at *
  refine HC1.out.mono ?_
  clear HC1
  rintro e w1 ⟨rfl, hb1⟩
  have HW1 := Lib.hid (And.intro (HW.out.1.below hb1 HW.out.1.lt) (And.intro (HW.out.2.1.below hb1 HW.out.2.1.lt) (HW.out.2.2.trans (hb1.mono HW.out.2.2.size))))
  clear hb1 HW
  have xc0 : w1.cell? ⟨w.heap.size, 0, none⟩ = some (.int .i64 s.ses) := HW1.out.1.cell 0
  have xc1 : w1.cell? ⟨w.heap.size, 1, none⟩ = some (.int .i64 s.lim) := HW1.out.1.cell 1
  have xc2 : w1.cell? ⟨w.heap.size, 2, none⟩ = some (.int .i64 s.tmo) := HW1.out.1.cell 2
  have xc3 : w1.cell? ⟨w.heap.size, 3, none⟩ = some (.int .i64 s.base) := HW1.out.1.cell 3
  have xc4 : w1.cell? ⟨w.heap.size, 4, none⟩ = some (.int .i64 s.next) := HW1.out.1.cell 4
  have xc5 : w1.cell? ⟨w.heap.size, 5, none⟩ = some (.int .i64 s.cred) := HW1.out.1.cell 5
  have xc6 : w1.cell? ⟨w.heap.size, 6, none⟩ = some (.slice Ao no co) := HW1.out.1.cell 6
  have xc7 : w1.cell? ⟨w.heap.size, 7, none⟩ = some (.slice Aq nq cq) := HW1.out.1.cell 7
  have xd0 : w1.cell? ⟨w.heap.size + 1, 0, none⟩ = some (.int .i64 0) := HW1.out.2.1.cell 0
  have xd1 : w1.cell? ⟨w.heap.size + 1, 1, none⟩ = some (.int .i64 0) := HW1.out.2.1.cell 1
  have xd2 : w1.cell? ⟨w.heap.size + 1, 2, none⟩ = some (.int .i64 0) := HW1.out.2.1.cell 2
  have xd3 : w1.cell? ⟨w.heap.size + 1, 3, none⟩ = some (.int .i64 0) := HW1.out.2.1.cell 3
  have xd4 : w1.cell? ⟨w.heap.size + 1, 4, none⟩ = some (.int .i64 0) := HW1.out.2.1.cell 4
  have xd5 : w1.cell? ⟨w.heap.size + 1, 5, none⟩ = some (.int .i64 0) := HW1.out.2.1.cell 5
  have xd6 : w1.cell? ⟨w.heap.size + 1, 6, none⟩ = some (.slice none 0 0) := HW1.out.2.1.cell 6
  have xd7 : w1.cell? ⟨w.heap.size + 1, 7, none⟩ = some (.slice none 0 0) := HW1.out.2.1.cell 7
  have xy0 := HW1.out.2.1.frozen 0
  have xy1 := HW1.out.2.1.frozen 1
  have xy2 := HW1.out.2.1.frozen 2
  have xy3 := HW1.out.2.1.frozen 3
  have xy4 := HW1.out.2.1.frozen 4
  have xy5 := HW1.out.2.1.frozen 5
  have xy6 := HW1.out.2.1.frozen 6
  have xy7 := HW1.out.2.1.frozen 7
  have lS := HW1.out.1.lt
  have lR := HW1.out.2.1.lt
  by_cases he : ev = 0
  rotate_left 1
  · have k0 : ((ev : Int) != 0) = true := by simpa using he
    have HE0 := Lib.hid he
    clear he
    have HM : Hid (pushS s p = (zeroS, ev)) := by show _ = _; unfold pushS; rw [if_pos (by rw [HE.out]; exact HE0.out), HE.out]
    have hkF := set25_blk HW1.out.2.1 (.int .i64 0) (.int .i64 0) (.int .i64 0) (.int .i64 0) (.int .i64 0) (.int .i64 0) (.slice none 0 0) (.slice none 0 0)
    have hbF := set25_below HW1.out.2.2 (g := w.heap.size + 1) (by omega) (.int .i64 0) (.int .i64 0) (.int .i64 0) (.int .i64 0) (.int .i64 0) (.int .i64 0) (.slice none 0 0) (.slice none 0 0)
    have HF := Lib.hid (And.intro hkF hbF)
    clear hkF hbF
    go_wp2_with fail
    refine bodyPost_ret (results_cell_tmp (t := 25) rfl _ _ (w.heap.size + 1) _ _ rfl HF.out.1 Try.underlying25 rfl (by kernel_rfl)) rfl ?_
    exact ⟨⟨_, ev, rfl, by rw [HM.out]; (try rfl), by rw [HM.out]; exact ⟨_, _, rfl, osV_nil _ _, qsV_nil _ _⟩⟩, HF.out.2⟩
  have k0 : ((ev : Int) != 0) = false := by simp [he]
  have HE0 : Hid (chkS s = 0) := by show _ = _; rw [HE.out, he]
  clear he
  by_cases h1 : 4096 < pl
  · have k1 : decide ((4096 : Int) < (pl : Int)) = true := decide_eq_true (by omega)
    have H1 := Lib.hid h1
    have k1b : (4096 < pl) = True := eq_true h1
    clear h1
    have HM : Hid (pushS s p = (zeroS, 5)) := by show _ = _; unfold pushS; rw [if_neg (not_not_intro HE0.out), if_pos (by rw [HL.out.2.2.1]; exact H1.out)]
    have hkF := set25_blk HW1.out.2.1 (.int .i64 0) (.int .i64 0) (.int .i64 0) (.int .i64 0) (.int .i64 0) (.int .i64 0) (.slice none 0 0) (.slice none 0 0)
    have hbF := set25_below HW1.out.2.2 (g := w.heap.size + 1) (by omega) (.int .i64 0) (.int .i64 0) (.int .i64 0) (.int .i64 0) (.int .i64 0) (.int .i64 0) (.slice none 0 0) (.slice none 0 0)
    have HF := Lib.hid (And.intro hkF hbF)
    clear hkF hbF
    go_wp2_with fail
    refine bodyPost_ret (results_cell_tmp (t := 25) rfl _ _ (w.heap.size + 1) _ _ rfl HF.out.1 Try.underlying25 rfl (by kernel_rfl)) rfl ?_
    exact ⟨⟨_, 5, rfl, by rw [HM.out]; (try rfl), by rw [HM.out]; exact ⟨_, _, rfl, osV_nil _ _, qsV_nil _ _⟩⟩, HF.out.2⟩
  have k1 : decide ((4096 : Int) < (pl : Int)) = false := decide_eq_false (by omega)
  have H1 := Lib.hid h1
  have k1b : (4096 < pl) = False := eq_false h1
  clear h1
  by_cases h2 : 4096 ≤ nq
  · have k2 : decide ((4096 : Int) ≤ (nq : Int)) = true := decide_eq_true (by omega)
    have H2 := Lib.hid h2
    have k2b : (4096 ≤ nq) = True := eq_true h2
    clear h2
    have HM : Hid (pushS s p = (zeroS, 11)) := by show _ = _; unfold pushS; rw [if_neg (not_not_intro HE0.out), if_neg (by rw [HL.out.2.2.1]; exact H1.out), if_pos (by rw [HL.out.2.1]; exact H2.out)]
    have hkF := set25_blk HW1.out.2.1 (.int .i64 0) (.int .i64 0) (.int .i64 0) (.int .i64 0) (.int .i64 0) (.int .i64 0) (.slice none 0 0) (.slice none 0 0)
    have hbF := set25_below HW1.out.2.2 (g := w.heap.size + 1) (by omega) (.int .i64 0) (.int .i64 0) (.int .i64 0) (.int .i64 0) (.int .i64 0) (.int .i64 0) (.slice none 0 0) (.slice none 0 0)
    have HF := Lib.hid (And.intro hkF hbF)
    clear hkF hbF
    go_wp2_with fail
    refine bodyPost_ret (results_cell_tmp (t := 25) rfl _ _ (w.heap.size + 1) _ _ rfl HF.out.1 Try.underlying25 rfl (by kernel_rfl)) rfl ?_
    exact ⟨⟨_, 11, rfl, by rw [HM.out]; (try rfl), by rw [HM.out]; exact ⟨_, _, rfl, osV_nil _ _, qsV_nil _ _⟩⟩, HF.out.2⟩
  have k2 : decide ((4096 : Int) ≤ (nq : Int)) = false := decide_eq_false (by omega)
  have H2 := Lib.hid h2
  have k2b : (4096 ≤ nq) = False := eq_false h2
  clear h2
  have HM : Hid (pushS s p = ({ s with q := s.q ++ [p] }, 0)) := by show _ = _; unfold pushS; rw [if_neg (not_not_intro HE0.out), if_neg (by rw [HL.out.2.2.1]; exact H1.out), if_neg (by rw [HL.out.2.1]; exact H2.out)]
  have hc3 := refCopySender_any s _ base w1 (HV.out.up HW1.out.2.2) HL.out.2.2.2 (chkS_pay HE0.out).1 (chkS_pay HE0.out).2 (Nat.le_trans hbw HW1.out.2.2.size)
  unfold snC at hc3
  have HC3 := Lib.hid hc3
  clear hc3
  go_wp2_with fail
  refine HC3.out.mono ?_
  clear HC3
  rintro e w2 ⟨⟨vo2, vq2, es, qs, rfl, hO2, hom, hQ2, hqm⟩, hb2⟩
  obtain ⟨A2, c2, rfl, -, -⟩ := hO2.vform
  obtain ⟨Aq2, cq2, rfl, -, -⟩ := hQ2.vform
  have hln : qs.length = nq := by rw [← HL.out.2.1, ← hqm, List.length_map]
  obtain ⟨ne, hle⟩ : ∃ n, es.length = n := ⟨_, rfl⟩
  rw [hle] at hO2 ⊢
  rw [hln] at hQ2 ⊢
  have HQ := Lib.hid (And.intro hom (And.intro hqm (And.intro hle hln)))
  clear hom hqm hle hln
  unfold snC
  have hbO : Below w2.heap.size w2 (w2.alloc (.cells #[.int .i64 s.ses, .int .i64 s.lim, .int .i64 s.tmo, .int .i64 s.base, .int .i64 s.next, .int .i64 s.cred, .slice A2 ne c2, .slice Aq2 nq cq2] 25)) := (Below.refl _ w2).alloc (Nat.le_refl _) _
  have hb0 := HW1.out.2.2.trans ((hb2.trans (hbO.mono hb2.size)).mono HW1.out.2.2.size)
  have HV0 := Lib.hid (And.intro (Blk.new w2 25 #[.int .i64 s.ses, .int .i64 s.lim, .int .i64 s.tmo, .int .i64 s.base, .int .i64 s.next, .int .i64 s.cred, .slice A2 ne c2, .slice Aq2 nq cq2]) (And.intro ((HW1.out.2.1.below hb2 HW1.out.2.1.lt).below hbO (Nat.lt_of_lt_of_le HW1.out.2.1.lt hb2.size)) (And.intro hb0 (And.intro (hO2.up hbO (oeR_ab (by simp))) (And.intro ((hQ2.up hbO (qeR_ab (by simp))).low HW1.out.2.2.size) ((HP.out.up HW1.out.2.2).up (hb2.trans (hbO.mono hb2.size))))))))
  have hRl : w.heap.size + 1 < w2.heap.size := Nat.lt_of_lt_of_le HW1.out.2.1.lt hb2.size
  clear hbO hb0 hO2 hQ2 hb2 xc0 xc1 xc2 xc3 xc4 xc5 xc6 xc7 xd0 xd1 xd2 xd3 xd4 xd5 xd6 xd7 xy0 xy1 xy2 xy3 xy4 xy5 xy6 xy7 lS lR
  go_upto_region 9 with fail
  obtain ⟨O, hO⟩ : ∃ x, x = w2.heap.size := ⟨_, rfl⟩
  rw [← hO] at HV0 hRl ⊢
  clear hO
  generalize (w2.alloc (.cells #[.int .i64 s.ses, .int .i64 s.lim, .int .i64 s.tmo, .int .i64 s.base, .int .i64 s.next, .int .i64 s.cred, .slice A2 ne c2, .slice Aq2 nq cq2] 25)) = V at *
  have xo7 : V.cell? ⟨O, 7, none⟩ = some (.slice Aq2 nq cq2) := HV0.out.1.cell 7
  have lO := HV0.out.1.lt
  refine wp_region_lexP [(0, 1), (2, 1), (1, 1), (3, 0), (4, 0), (5, 0), (6, 1), (7, 0)] [7] (fun w9 => w9.cell? ⟨O, 7, none⟩ = some (.slice Aq2 nq cq2)) (by kernel_rfl) (by kernel_rfl) (by kernel_rfl) (by kernel_rfl) (by kernel_rfl) xo7 ?_
  repeat (refine lexP_read rfl (by rfl) (by rfl) (by intro w9 hS9; (try dsimp only at hS9); go_simp <;> with_reducible rfl) ?_; (try simp only [Act.put, List.getElem_toArray, List.getElem_cons_succ, List.getElem_cons_zero, List.setIfInBounds_toArray, List.set_cons_zero, List.set_cons_succ]))
  refine lexP_eff rfl (fun _ => trivial) ?_
  go_simp
  have hRB := HV0.out.2.2.2.2.2.up (Below.refl _ V).drew
  unfold Byt at hRB
  rw [HL.out.2.2.1] at hRB
  refine CallsIn.mono ((callsIn_wide (n := 0)).2 (copied_any Ap pl cp p V.drew hRB.rd hpl)) ?_
  rintro z w3 ⟨⟨v3, rfl, hown3⟩, hb3⟩
  dsimp only
  obtain ⟨A3, c3, rfl, -, -, -⟩ := own_slice hown3
  have hb1 : Below V.heap.size V w3 := (Below.refl _ V).drew.trans hb3
  have y7 := (hb1.cell (p := ⟨O, 7, none⟩) lO).trans xo7
  have lO1 := Nat.lt_of_lt_of_le lO hb1.size
  refine ⟨y7, ?_⟩
  (try simp only [Act.put, List.getElem_toArray, List.getElem_cons_succ, List.getElem_cons_zero, List.setIfInBounds_toArray, List.set_cons_zero, List.set_cons_succ])
  have hbN : Below w3.heap.size w3 (w3.alloc (.cells #[.slice A3 pl c3] 42)) := (Below.refl _ w3).alloc (Nat.le_refl _) _
  have hbA := hb1.trans (hbN.mono hb1.size)
  have HN := Lib.hid (And.intro (HV0.out.1.below hbA HV0.out.1.lt) (And.intro (HV0.out.2.1.below hbA HV0.out.2.1.lt) (And.intro (HV0.out.2.2.1.trans (hbA.mono HV0.out.2.2.1.size)) (And.intro (HV0.out.2.2.2.1.up hbA (oeR_ab (by simp))) (And.intro (HV0.out.2.2.2.2.1.up hbA (qeR_ab (by simp))) (And.intro ((byt_of_own (base := base) hown3 HL.out.2.2.1).up hbN) (Blk.new w3 42 #[.slice A3 pl c3])))))))
  have hnn : qs.length = nq := HQ.out.2.2.2
  clear hb3 hown3 hb1 hbN hbA hRB xo7 lO
  refine lexP_eff rfl (fun _ => trivial) ?_
  go_simp
  (try simp only [Act.put, List.getElem_toArray, List.getElem_cons_succ, List.getElem_cons_zero, List.setIfInBounds_toArray, List.set_cons_zero, List.set_cons_succ])
  refine lexP_push (E := encQ) (R := QeR) (t := 42) (sz := 1) (base := base) (low := w.heap.size) (l := qs) (b := ⟨A3, c3, p⟩) (v := .slice Aq2 nq cq2) rfl (fun _ => trivial) _ _ 23 (by rfl) _ 24 Try.underlying23 info42 rfl (by omega) (encQ_one _) rfl (by rfl) HN.out.2.2.2.2.1 hbw (qeR_ab (by simp)) HN.out.2.2.2.2.2.1 (by rfl) (by unfold encQ; rw [HL.out.2.2.1]; exact HN.out.2.2.2.2.2.2) (by omega) (by omega) HN.out.2.2.1.size ?_
  intro v9 w9 hp9
  obtain ⟨A9, c9, rfl, -, -⟩ := hp9.own.vform
  have hl9 : (qs ++ [(⟨A3, c3, p⟩ : Qe)]).length = nq + 1 := by rw [List.length_append, hnn]; rfl
  rw [hl9] at hp9 ⊢
  have hkO := HN.out.1.turn hp9.turn (by simp)
  have hkR := HN.out.2.1.turn hp9.turn (by simp)
  have q7 : w9.cell? ⟨O, 7, none⟩ = some (.slice Aq2 nq cq2) := hkO.cell 7
  have qz7 := hkO.frozen 7
  have lO9 := hkO.lt
  have hT5 : Turn (w.heap.size) [25] w9 (w9.setCell ⟨O, 7, none⟩ (.slice A9 (nq + 1) c9)) := (Turn.refl _ _ _).set hkO (by simp) (by omega) 7 _
  have hk6 : Blk (w9.setCell ⟨O, 7, none⟩ (.slice A9 (nq + 1) c9)) O 25 #[.int .i64 s.ses, .int .i64 s.lim, .int .i64 s.tmo, .int .i64 s.base, .int .i64 s.next, .int .i64 s.cred, .slice A2 ne c2, .slice A9 (nq + 1) c9] := hkO.set_ 7 _
  have hb9 := Turn.belowT HN.out.2.2.1 ((hp9.turn.mono (T' := [25, 42]) (by simp)).trans (hT5.mono (by simp))) (Nat.le_refl _) HN.out.2.2.1.size
  have HF6 := Lib.hid (And.intro hk6 (And.intro (hkR.far (p := ⟨O, 7, none⟩) (by dsimp only; omega) (.slice A9 (nq + 1) c9)) (And.intro hb9 (And.intro ((HN.out.2.2.2.1.turn (hp9.turn.base hbw) (by simp) (oeR_ab (by simp))).turn (hT5.base hbw) (by simp) (oeR_ab (by simp))) (hp9.own.turn (hT5.base hbw) (by simp) (qeR_ab (by simp)))))))
  clear hk6 hb9 hT5 hkO hkR hp9
  refine ⟨.inr q7, ?_⟩
  (try simp only [Act.put, List.getElem_toArray, List.getElem_cons_succ, List.getElem_cons_zero, List.setIfInBounds_toArray, List.set_cons_zero, List.set_cons_succ])
  repeat (refine lexP_read rfl (by rfl) (by rfl) (by intro w9 hS9; (try dsimp only at hS9); go_simp <;> with_reducible rfl) ?_; (try simp only [Act.put, List.getElem_toArray, List.getElem_cons_succ, List.getElem_cons_zero, List.setIfInBounds_toArray, List.set_cons_zero, List.set_cons_succ]))
  refine lexP_eff rfl (fun _ => trivial) ?_
  go_simp
  refine lexP_nil (panQ_normal ?_)
  clear q7 qz7 lO9 y7 lO1
  generalize (w9.setCell ⟨O, 7, none⟩ (.slice A9 (nq + 1) c9)) = V6 at *
  have xc0 : V6.cell? ⟨O, 0, none⟩ = some (.int .i64 s.ses) := HF6.out.1.cell 0
  have xc1 : V6.cell? ⟨O, 1, none⟩ = some (.int .i64 s.lim) := HF6.out.1.cell 1
  have xc2 : V6.cell? ⟨O, 2, none⟩ = some (.int .i64 s.tmo) := HF6.out.1.cell 2
  have xc3 : V6.cell? ⟨O, 3, none⟩ = some (.int .i64 s.base) := HF6.out.1.cell 3
  have xc4 : V6.cell? ⟨O, 4, none⟩ = some (.int .i64 s.next) := HF6.out.1.cell 4
  have xc5 : V6.cell? ⟨O, 5, none⟩ = some (.int .i64 s.cred) := HF6.out.1.cell 5
  have xc6 : V6.cell? ⟨O, 6, none⟩ = some (.slice A2 ne c2) := HF6.out.1.cell 6
  have xc7 : V6.cell? ⟨O, 7, none⟩ = some (.slice A9 (nq + 1) c9) := HF6.out.1.cell 7
  have lO := HF6.out.1.lt
  have xd0 : V6.cell? ⟨w.heap.size + 1, 0, none⟩ = some (.int .i64 0) := HF6.out.2.1.cell 0
  have xd1 : V6.cell? ⟨w.heap.size + 1, 1, none⟩ = some (.int .i64 0) := HF6.out.2.1.cell 1
  have xd2 : V6.cell? ⟨w.heap.size + 1, 2, none⟩ = some (.int .i64 0) := HF6.out.2.1.cell 2
  have xd3 : V6.cell? ⟨w.heap.size + 1, 3, none⟩ = some (.int .i64 0) := HF6.out.2.1.cell 3
  have xd4 : V6.cell? ⟨w.heap.size + 1, 4, none⟩ = some (.int .i64 0) := HF6.out.2.1.cell 4
  have xd5 : V6.cell? ⟨w.heap.size + 1, 5, none⟩ = some (.int .i64 0) := HF6.out.2.1.cell 5
  have xd6 : V6.cell? ⟨w.heap.size + 1, 6, none⟩ = some (.slice none 0 0) := HF6.out.2.1.cell 6
  have xd7 : V6.cell? ⟨w.heap.size + 1, 7, none⟩ = some (.slice none 0 0) := HF6.out.2.1.cell 7
  have xy0 := HF6.out.2.1.frozen 0
  have xy1 := HF6.out.2.1.frozen 1
  have xy2 := HF6.out.2.1.frozen 2
  have xy3 := HF6.out.2.1.frozen 3
  have xy4 := HF6.out.2.1.frozen 4
  have xy5 := HF6.out.2.1.frozen 5
  have xy6 := HF6.out.2.1.frozen 6
  have xy7 := HF6.out.2.1.frozen 7
  have lR := HF6.out.2.1.lt
  have hkF := set25_blk HF6.out.2.1 (.int .i64 s.ses) (.int .i64 s.lim) (.int .i64 s.tmo) (.int .i64 s.base) (.int .i64 s.next) (.int .i64 s.cred) (.slice A2 ne c2) (.slice A9 (nq + 1) c9)
  have hTF := set25_turn HF6.out.2.1 (base := base) (by omega) (.int .i64 s.ses) (.int .i64 s.lim) (.int .i64 s.tmo) (.int .i64 s.base) (.int .i64 s.next) (.int .i64 s.cred) (.slice A2 ne c2) (.slice A9 (nq + 1) c9)
  have hbF := set25_below HF6.out.2.2.1 (g := w.heap.size + 1) (by omega) (.int .i64 s.ses) (.int .i64 s.lim) (.int .i64 s.tmo) (.int .i64 s.base) (.int .i64 s.next) (.int .i64 s.cred) (.slice A2 ne c2) (.slice A9 (nq + 1) c9)
  have HF := Lib.hid (And.intro hkF (And.intro hbF (And.intro (HF6.out.2.2.2.1.turn hTF (by simp) (oeR_ab (by simp))) (HF6.out.2.2.2.2.turn hTF (by simp) (qeR_ab (by simp))))))
  clear hkF hTF hbF
  go_wp2_with fail
  refine bodyPost_ret (results_cell_tmp (t := 25) rfl _ _ (w.heap.size + 1) _ _ rfl HF.out.1 Try.underlying25 rfl (by kernel_rfl)) rfl ?_
  refine ⟨⟨_, 0, rfl, by rw [HM.out]; rfl, ?_⟩, HF.out.2.1⟩
  rw [HM.out]
  exact ⟨_, _, rfl, ⟨es, HF.out.2.2.1.vec, HQ.out.1⟩, ⟨qs ++ [⟨A3, c3, p⟩], HF.out.2.2.2.vec, by rw [List.map_append, HQ.out.2.1]; rfl⟩⟩
end Go.Proofs.Ytanmndhdhlmjgaa
