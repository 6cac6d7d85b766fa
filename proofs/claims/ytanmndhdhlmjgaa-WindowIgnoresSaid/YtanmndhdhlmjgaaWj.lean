/- The walk of Push. Conditions: small. -/
import Derived.Test.YtanmndhdhlmjgaaFq
import Derived.Test.YtanmndhdhlmjgaaWi
import Derived.Test.YtanmndhdhlmjgaaVf
import Derived.Deep.Cut
import Derived.Test.YtanmndhdhlmjgaaWe
namespace Go.Proofs.Ytanmndhdhlmjgaa
open Go.RowKit
theorem elem_cells {w : World} {g : Nat} (us : Array Value) (e : TypeId) (h : g = w.heap.size) : ∀ j u, us.toList[j]? = some u → (w.alloc (.cells us e)).cell? ((⟨g, 0, none⟩ : Addr).add j) = some u := by
  subst h
  obtain ⟨ad, h, _, hc⟩ := (elem_reads w us e).2 (by omega)
  injection h with h
  subst h
  exact hc
theorem outsE_pay (base : Int) : ∀ (l : List Om) (i : Nat), outsE base i l = 0 → ∀ o ∈ l, o.p.length ≤ 4096
  | [], _, _ => nofun
  | o :: l, i, h => by
    rw [outsE] at h
    split at h
    · rename_i h0
      intro x hx
      rcases List.mem_cons.1 hx with rfl | hx
      · unfold outE at h0
        split at h0
        · cases h0
        split at h0
        · cases h0
        split at h0
        · cases h0
        split at h0
        · cases h0
        split at h0
        · cases h0
        · omega
      · exact outsE_pay base l (i + 1) h x hx
    · rename_i h0
      exact absurd h h0
/-- a sender that passes its check holds short payloads -/
theorem chkS_pay {s : Sm} (h : chkS s = 0) : (∀ o ∈ s.out, o.p.length ≤ 100000) ∧ ∀ p ∈ s.q, p.length ≤ 100000 := by
  unfold chkS at h
  split at h
  · cases h
  split at h
  · cases h
  split at h
  · rename_i h0
    exact absurd h h0
  rename_i h3
  split at h
  · cases h
  split at h
  · cases h
  rename_i h5
  refine ⟨fun o ho => Nat.le_trans (outsE_pay s.base s.out 0 (Decidable.not_not.1 h3) o ho) (by omega), fun p hp => ?_⟩
  simp only [Bool.not_eq_true, List.any_eq_false, decide_eq_true_eq] at h5
  have := h5 p hp
  omega
end Go.Proofs.Ytanmndhdhlmjgaa
namespace Go.Proofs.Ytanmndhdhlmjgaa.Fr
open Go.RowKit
set_option maxRecDepth 100000 in
set_option maxHeartbeats 8000000 in
set_option linter.unusedSimpArgs false in
theorem Push_any (s : Sm) (v : Value) (base : Nat) (p : List Nat) (vp : Value) (w : World) (hv : SnV w base s v) (hs : Small s) (hbw : base ≤ w.heap.size) (hp : BsV w base p vp) (hpl : p.length ≤ 100000) :
    Calls Try.prog 23 #[v, vp] w fun e w' => (∃ u k, e = .returned (.tuple #[u, .int .i64 k]) ∧ (k : Int) = ((pushS s p).2 : Nat) ∧ SnV w' base (pushS s p).1 u ∧ FreshQ w.heap.size u) ∧ Below w.heap.size w w' := by
  obtain ⟨Ap, cp, rfl, hbp⟩ := hp
  have HV := Lib.hid hv
  obtain ⟨vo, vq, rfl, hO, hQ⟩ := hv
  obtain ⟨Aq, cq, rfl, hq1, hq2⟩ := hQ.form
  obtain ⟨nq, hnq⟩ : ∃ n, s.q.length = n := ⟨_, rfl⟩
  obtain ⟨pl, hpll⟩ : ∃ n, p.length = n := ⟨_, rfl⟩
  have hsq := hs.q
  have HL := Lib.hid (And.intro hnq (And.intro hpll hs))
  have HP := Lib.hid hbp
  rw [hnq] at hsq hq1 ⊢
  rw [hpll] at hpl ⊢
  clear hO hQ hnq hpll hs hbp
  obtain ⟨ev, hev⟩ : ∃ n, chkS s = n := ⟨_, rfl⟩
  have HEV := Lib.hid hev
  clear hev
  have hk := (Blk.new w 25 (snC s vo (.slice Aq nq cq))).alloc (.cells #[.int .i64 0, .int .i64 0, .int .i64 0, .int .i64 0, .int .i64 0, .int .i64 0, .slice none 0 0, .slice none 0 0] 25)
  have hk2 := Blk.new (w.alloc (.cells (snC s vo (.slice Aq nq cq)) 25)) 25 #[.int .i64 0, .int .i64 0, .int .i64 0, .int .i64 0, .int .i64 0, .int .i64 0, .slice none 0 0, .slice none 0 0]
  have hb : Below w.heap.size w ((w.alloc (.cells (snC s vo (.slice Aq nq cq)) 25)).alloc (.cells #[.int .i64 0, .int .i64 0, .int .i64 0, .int .i64 0, .int .i64 0, .int .i64 0, .slice none 0 0, .slice none 0 0] 25)) := ((Below.refl _ w).alloc (Nat.le_refl _) _).alloc (by simp) _
  rw [World.size_alloc] at hk2
  have hcall := CheckSender_any s _ base ((w.alloc (.cells (snC s vo (.slice Aq nq cq)) 25)).alloc (.cells #[.int .i64 0, .int .i64 0, .int .i64 0, .int .i64 0, .int .i64 0, .int .i64 0, .slice none 0 0, .slice none 0 0] 25)) (HV.out.up hb) HL.out.2.2
  rw [HEV.out, HL.out.1] at hcall
  have H1 := Lib.hid (And.intro hk (And.intro hk2 hb))
  clear hk hk2 hb
  unfold snC at hcall H1 ⊢
  have HC := Lib.hid hcall
  clear hcall
  go_enter Try.func23, Try.ntmps23
  go_wp2_with fail
  refine HC.out.mono ?_
  clear HC
  rintro e w1 ⟨rfl, hb1⟩
  have hk := H1.out.1.below hb1 H1.out.1.lt
  have hk2 := H1.out.2.1.below hb1 H1.out.2.1.lt
  have hbw1 := H1.out.2.2.trans (hb1.mono H1.out.2.2.size)
  have c0 : w1.cell? ⟨w.heap.size, 0, none⟩ = some (.int .i64 s.ses) := hk.cell 0
  have c1 : w1.cell? ⟨w.heap.size, 1, none⟩ = some (.int .i64 s.lim) := hk.cell 1
  have c2 : w1.cell? ⟨w.heap.size, 2, none⟩ = some (.int .i64 s.tmo) := hk.cell 2
  have c3 : w1.cell? ⟨w.heap.size, 3, none⟩ = some (.int .i64 s.base) := hk.cell 3
  have c4 : w1.cell? ⟨w.heap.size, 4, none⟩ = some (.int .i64 s.next) := hk.cell 4
  have c5 : w1.cell? ⟨w.heap.size, 5, none⟩ = some (.int .i64 s.cred) := hk.cell 5
  have c6 : w1.cell? ⟨w.heap.size, 6, none⟩ = some (vo) := hk.cell 6
  have c7 : w1.cell? ⟨w.heap.size, 7, none⟩ = some (.slice Aq nq cq) := hk.cell 7
  have z0 := hk.frozen 0
  have z1 := hk.frozen 1
  have z2 := hk.frozen 2
  have z3 := hk.frozen 3
  have z4 := hk.frozen 4
  have z5 := hk.frozen 5
  have z6 := hk.frozen 6
  have z7 := hk.frozen 7
  have d0 : w1.cell? ⟨w.heap.size + 1, 0, none⟩ = some (.int .i64 0) := hk2.cell 0
  have d1 : w1.cell? ⟨w.heap.size + 1, 1, none⟩ = some (.int .i64 0) := hk2.cell 1
  have d2 : w1.cell? ⟨w.heap.size + 1, 2, none⟩ = some (.int .i64 0) := hk2.cell 2
  have d3 : w1.cell? ⟨w.heap.size + 1, 3, none⟩ = some (.int .i64 0) := hk2.cell 3
  have d4 : w1.cell? ⟨w.heap.size + 1, 4, none⟩ = some (.int .i64 0) := hk2.cell 4
  have d5 : w1.cell? ⟨w.heap.size + 1, 5, none⟩ = some (.int .i64 0) := hk2.cell 5
  have d6 : w1.cell? ⟨w.heap.size + 1, 6, none⟩ = some (.slice none 0 0) := hk2.cell 6
  have d7 : w1.cell? ⟨w.heap.size + 1, 7, none⟩ = some (.slice none 0 0) := hk2.cell 7
  have y0 := hk2.frozen 0
  have y1 := hk2.frozen 1
  have y2 := hk2.frozen 2
  have y3 := hk2.frozen 3
  have y4 := hk2.frozen 4
  have y5 := hk2.frozen 5
  have y6 := hk2.frozen 6
  have y7 := hk2.frozen 7
  have l1 := hk2.lt
  have l0 := hk.lt
  have HW := Lib.hid (And.intro hk (And.intro hk2 hbw1))
  have HZ := Lib.hid (And.intro (set25_blk hk2 (.int .i64 0) (.int .i64 0) (.int .i64 0) (.int .i64 0) (.int .i64 0) (.int .i64 0) (.slice none 0 0) (.slice none 0 0)) (set25_below hbw1 (g := w.heap.size + 1) (by omega) (.int .i64 0) (.int .i64 0) (.int .i64 0) (.int .i64 0) (.int .i64 0) (.int .i64 0) (.slice none 0 0) (.slice none 0 0)))
  clear hk hk2 hbw1 hb1
  by_cases he : ev = 0
  rotate_left 1
  · have k0 : ((ev : Int) != 0) = true := by simpa using he
    have HM : Hid (pushS s p = (zeroS, ev)) := by show _ = _; unfold pushS; rw [if_pos (by rw [HEV.out]; exact he), HEV.out]
    clear he
    go_wp2_with fail
    refine bodyPost_ret (results_cell_tmp (t := 25) rfl _ _ (w.heap.size + 1) _ _ rfl HZ.out.1 Try.underlying25 rfl (by kernel_rfl)) rfl ?_
    exact ⟨⟨_, ev, rfl, by rw [HM.out], by rw [HM.out]; exact ⟨_, _, rfl, osV_nil _ _, qsV_nil _ _⟩, freshQ_nil⟩, HZ.out.2⟩
  have k0 : ((ev : Int) != 0) = false := by simp [he]
  have HE0 : Hid (¬ chkS s ≠ 0) := by show ¬ _; rw [HEV.out]; exact not_not_intro he
  clear he
  by_cases h1 : 4096 < pl
  · have HM : Hid (pushS s p = (zeroS, 5)) := by show _ = _; unfold pushS; rw [if_neg HE0.out, if_pos (by rw [HL.out.2.1]; exact h1)]
    go_wp2_with fail
    refine (long_any _ _ _ (decide_eq_true h1) _).mono ?_
    rintro e w2 ⟨rfl, rfl⟩
    go_wp2_with fail
    refine bodyPost_ret (results_cell_tmp (t := 25) rfl _ _ (w.heap.size + 1) _ _ rfl HZ.out.1 Try.underlying25 rfl (by kernel_rfl)) rfl ?_
    exact ⟨⟨_, 5, rfl, by rw [HM.out]; rfl, by rw [HM.out]; exact ⟨_, _, rfl, osV_nil _ _, qsV_nil _ _⟩, freshQ_nil⟩, HZ.out.2⟩
  by_cases h2 : 4096 ≤ nq
  · have HM : Hid (pushS s p = (zeroS, 11)) := by show _ = _; unfold pushS; rw [if_neg HE0.out, if_neg (by rw [HL.out.2.1]; exact h1), if_pos (by rw [HL.out.1]; exact h2)]
    go_wp2_with fail
    refine (long_any _ _ _ (decide_eq_false h1) _).mono ?_
    rintro e w2 ⟨rfl, rfl⟩
    go_wp2_with fail
    refine bodyPost_ret (results_cell_tmp (t := 25) rfl _ _ (w.heap.size + 1) _ _ rfl HZ.out.1 Try.underlying25 rfl (by kernel_rfl)) rfl ?_
    exact ⟨⟨_, 11, rfl, by rw [HM.out]; rfl, by rw [HM.out]; exact ⟨_, _, rfl, osV_nil _ _, qsV_nil _ _⟩, freshQ_nil⟩, HZ.out.2⟩
  have HM : Hid (pushS s p = ({ s with q := s.q ++ [p] }, 0)) := by show _ = _; unfold pushS; rw [if_neg HE0.out, if_neg (by rw [HL.out.2.1]; exact h1), if_neg (by rw [HL.out.1]; exact h2)]
  have hcall := copySender_any s _ base w1 (HV.out.up HW.out.2.2) HL.out.2.2 (chkS_pay (Decidable.not_not.1 HE0.out)).1 (chkS_pay (Decidable.not_not.1 HE0.out)).2 (Nat.le_trans hbw HW.out.2.2.size)
  unfold snC at hcall
  rw [HL.out.1] at hcall
  have HC := Lib.hid hcall
  clear hcall HZ
  go_wp2_with fail
  refine (long_any _ _ _ (decide_eq_false h1) _).mono ?_
  rintro e w2 ⟨rfl, rfl⟩
  go_wp2_with fail
  refine HC.out.mono ?_
  clear HC
  rintro e w2 ⟨⟨vo2, vq2, es, qs, rfl, hO2, hom, hQ2, hqm⟩, hb2⟩
  unfold snC
  dsimp only
  obtain ⟨Ao, co, rfl, ho1, ho2⟩ := hO2.vform
  obtain ⟨Aq2, cq2, rfl, hq3, hq4⟩ := hQ2.vform
  have hnq2 : qs.length = nq := by rw [← HL.out.1, ← hqm, List.length_map]
  obtain ⟨no, hno⟩ : ∃ n, es.length = n := ⟨_, rfl⟩
  have hkA := HW.out.1.below hb2 l0
  have hkB := HW.out.2.1.below hb2 l1
  have hbw2 := HW.out.2.2.trans (hb2.mono HW.out.2.2.size)
  have HQ := Lib.hid (And.intro hnq2 hno)
  rw [hno] at hO2 ho1 ⊢
  rw [hnq2] at hQ2 hq3 ⊢
  clear hno hnq2
  clear c0 c1 c2 c3 c4 c5 c6 c7 z0 z1 z2 z3 z4 z5 z6 z7 d0 d1 d2 d3 d4 d5 d6 d7 y0 y1 y2 y3 y4 y5 y6 y7
  have c0 : w2.cell? ⟨w.heap.size, 0, none⟩ = some (.int .i64 s.ses) := hkA.cell 0
  have c1 : w2.cell? ⟨w.heap.size, 1, none⟩ = some (.int .i64 s.lim) := hkA.cell 1
  have c2 : w2.cell? ⟨w.heap.size, 2, none⟩ = some (.int .i64 s.tmo) := hkA.cell 2
  have c3 : w2.cell? ⟨w.heap.size, 3, none⟩ = some (.int .i64 s.base) := hkA.cell 3
  have c4 : w2.cell? ⟨w.heap.size, 4, none⟩ = some (.int .i64 s.next) := hkA.cell 4
  have c5 : w2.cell? ⟨w.heap.size, 5, none⟩ = some (.int .i64 s.cred) := hkA.cell 5
  have c6 : w2.cell? ⟨w.heap.size, 6, none⟩ = some (vo) := hkA.cell 6
  have c7 : w2.cell? ⟨w.heap.size, 7, none⟩ = some (.slice Aq nq cq) := hkA.cell 7
  have z0 := hkA.frozen 0
  have z1 := hkA.frozen 1
  have z2 := hkA.frozen 2
  have z3 := hkA.frozen 3
  have z4 := hkA.frozen 4
  have z5 := hkA.frozen 5
  have z6 := hkA.frozen 6
  have z7 := hkA.frozen 7
  have lA := hkA.lt
  have lB := hkB.lt
  have hkS := set25_blk hkA (.int .i64 s.ses) (.int .i64 s.lim) (.int .i64 s.tmo) (.int .i64 s.base) (.int .i64 s.next) (.int .i64 s.cred) (.slice Ao no co) (.slice Aq2 nq cq2)
  have hkS2 := set25_other hkB (g := w.heap.size) (by omega) (.int .i64 s.ses) (.int .i64 s.lim) (.int .i64 s.tmo) (.int .i64 s.base) (.int .i64 s.next) (.int .i64 s.cred) (.slice Ao no co) (.slice Aq2 nq cq2)
  have hTS := set25_turn hkA (base := base) hbw (.int .i64 s.ses) (.int .i64 s.lim) (.int .i64 s.tmo) (.int .i64 s.base) (.int .i64 s.next) (.int .i64 s.cred) (.slice Ao no co) (.slice Aq2 nq cq2)
  have hbS := set25_below hbw2 (g := w.heap.size) (Nat.le_refl _) (.int .i64 s.ses) (.int .i64 s.lim) (.int .i64 s.tmo) (.int .i64 s.base) (.int .i64 s.next) (.int .i64 s.cred) (.slice Ao no co) (.slice Aq2 nq cq2)
  go_upto_region 9 with fail
  generalize ((((((((w2.setCell ⟨w.heap.size, 0, none⟩ (.int .i64 s.ses)).setCell ⟨w.heap.size, 1, none⟩ (.int .i64 s.lim)).setCell ⟨w.heap.size, 2, none⟩ (.int .i64 s.tmo)).setCell ⟨w.heap.size, 3, none⟩ (.int .i64 s.base)).setCell ⟨w.heap.size, 4, none⟩ (.int .i64 s.next)).setCell ⟨w.heap.size, 5, none⟩ (.int .i64 s.cred)).setCell ⟨w.heap.size, 6, none⟩ (.slice Ao no co)).setCell ⟨w.heap.size, 7, none⟩ (.slice Aq2 nq cq2)) = V at *
  have HV2 := Lib.hid (And.intro hkS (And.intro hkS2 (And.intro (hO2.turn hTS (by simp) (oeR_ab (by simp))) (And.intro (hQ2.turn hTS (by simp) (qeR_ab (by simp))) (And.intro hbS ((HP.out.up hbw2).turn hTS (by simp)))))))
  have lV := hkS.lt
  have lV2 := hkS2.lt
  have f7 : V.cell? ⟨w.heap.size, 7, none⟩ = some (.slice Aq2 nq cq2) := hkS.cell 7
  clear c0 c1 c2 c3 c4 c5 c6 c7 z0 z1 z2 z3 z4 z5 z6 z7 hkS hkS2 hTS hbS hkA hkB hbw2 hb2 hO2 hQ2
  refine wp_region_lexP [(0, 1), (2, 1), (1, 1), (3, 0), (4, 0), (5, 0), (6, 1), (7, 0)] [7] (fun w9 => w9.cell? ⟨w.heap.size, 7, none⟩ = some (.slice Aq2 nq cq2)) (by kernel_rfl) (by kernel_rfl) (by kernel_rfl) (by kernel_rfl) (by kernel_rfl) f7 ?_
  repeat (refine lexP_read rfl (by rfl) (by rfl) (by intro w9 hS9; (try dsimp only at hS9); go_simp <;> with_reducible rfl) ?_; (try simp only [Act.put, List.setIfInBounds_toArray, List.set_cons_zero, List.set_cons_succ]))
  refine lexP_eff rfl (fun _ => trivial) ?_
  go_simp
  refine CallsIn.mono ((callsIn_wide (n := 0)).2 (CloneB_any Ap pl cp (u8s p) V.drew (by have h := HV2.out.2.2.2.2.2; unfold Byt at h; rw [HL.out.2.1] at h; exact h.rd) hpl (u8s_one _))) ?_
  rintro e w3 ⟨⟨v3, rfl, hown3⟩, hb3⟩
  dsimp only
  obtain ⟨A3, cc3, rfl, -, -, -⟩ := own_slice hown3
  have hb3' : Below V.heap.size V w3 := (Below.refl _ V).drew.trans hb3
  have q7 := (hb3'.cell (p := ⟨w.heap.size, 7, none⟩) lV).trans f7
  refine ⟨q7, ?_⟩
  (try simp only [Act.put, List.setIfInBounds_toArray, List.set_cons_zero, List.set_cons_succ])
  refine lexP_eff rfl (fun _ => trivial) ?_
  go_simp
  have hk4 := Blk.new w3 42 #[.slice A3 pl cc3]
  have hb4 : Below w3.heap.size w3 (w3.alloc (.cells #[.slice A3 pl cc3] 42)) := (Below.refl _ w3).alloc (Nat.le_refl _) _
  have q7' := (hb4.cell (p := ⟨w.heap.size, 7, none⟩) (Nat.lt_of_lt_of_le lV hb3'.size)).trans q7
  refine ⟨q7', ?_⟩
  (try simp only [Act.put, List.setIfInBounds_toArray, List.set_cons_zero, List.set_cons_succ])
  have hnn : qs.length = nq := HQ.out.1
  have hlw := HV2.out.2.2.2.2.1.size
  have hQ4 : Own1 encQ QeR 42 1 (w3.alloc (.cells #[.slice A3 pl cc3] 42)) base w.heap.size (.slice Aq2 nq cq2) qs := ((HV2.out.2.2.2.1.up hb3' (qeR_ab (by simp))).up hb4 (qeR_ab (by simp))).low HW.out.2.2.size
  refine lexP_push (E := encQ) (R := QeR) (t := 42) (sz := 1) (base := base) (low := w.heap.size) (l := qs) (b := ⟨A3, cc3, p⟩) (v := .slice Aq2 nq cq2) rfl (fun _ => trivial) _ _ 23 (by rfl) _ 24 Try.underlying23 info42 rfl (by omega) (encQ_one _) rfl (by rfl) hQ4 hbw (qeR_ab (by simp)) ((byt_of_own hown3 HL.out.2.1).up hb4) (by rfl) (by unfold encQ; rw [HL.out.2.1]; exact hk4) (by omega) (by omega) (by have := hb3'.size; simp only [World.size_alloc]; omega) ?_
  intro v5 w5 hp5
  obtain ⟨A5, cc5, rfl, -, -⟩ := hp5.own.vform
  rw [List.length_append, hnn] at hp5 ⊢
  have hTa : Turn base [42] V w5 := (Turn.of_below (hb3'.trans (hb4.mono hb3'.size))).trans (hp5.turn.base hbw)
  have hk5 := HV2.out.1.turn hTa (by simp)
  have hkR5 := HV2.out.2.1.turn hTa (by simp)
  have hO5 := HV2.out.2.2.1.turn hTa (by simp) (oeR_ab (by simp))
  have hb5 : Below w.heap.size w w5 := Turn.belowT (HV2.out.2.2.2.2.1.trans ((hb3'.trans (hb4.mono hb3'.size)).mono HV2.out.2.2.2.2.1.size)) hp5.turn (Nat.le_refl _) (by have := hb3'.size; simp only [World.size_alloc]; omega)
  have q5 : w5.cell? ⟨w.heap.size, 7, none⟩ = some (.slice Aq2 nq cq2) := hk5.cell 7
  have yy5 := hk5.frozen 7
  have l5 := hk5.lt
  refine ⟨.inr q5, ?_⟩
  (try simp only [Act.put, List.setIfInBounds_toArray, List.set_cons_zero, List.set_cons_succ])
  repeat (refine lexP_read rfl (by rfl) (by rfl) (by intro w9 hS9; (try dsimp only at hS9); go_simp <;> with_reducible rfl) ?_; (try simp only [Act.put, List.setIfInBounds_toArray, List.set_cons_zero, List.set_cons_succ]))
  refine lexP_eff rfl (fun _ => trivial) ?_
  go_simp
  refine lexP_nil (panQ_normal ?_)
  have hk6 := hk5.set_ 7 (.slice A5 (nq + 1) cc5)
  have hT6 := (Turn.refl base [25] w5).set hk5 (by simp) hbw 7 (.slice A5 (nq + 1) cc5)
  have hkR6 := hkR5.far (p := ⟨w.heap.size, 7, none⟩) (by dsimp only; omega) (.slice A5 (nq + 1) cc5)
  have hO6 := hO5.turn hT6 (by simp) (oeR_ab (by simp))
  have hQ6 := hp5.own.turn hT6 (by simp) (qeR_ab (by simp))
  have hb6 := hb5.setCell (p := ⟨w.heap.size, 7, none⟩) (Nat.le_refl _) (.slice A5 (nq + 1) cc5)
  generalize (w5.setCell ⟨w.heap.size, 7, none⟩ (.slice A5 (nq + 1) cc5)) = V6 at *
  have c0 : V6.cell? ⟨w.heap.size, 0, none⟩ = some (.int .i64 s.ses) := hk6.cell 0
  have c1 : V6.cell? ⟨w.heap.size, 1, none⟩ = some (.int .i64 s.lim) := hk6.cell 1
  have c2 : V6.cell? ⟨w.heap.size, 2, none⟩ = some (.int .i64 s.tmo) := hk6.cell 2
  have c3 : V6.cell? ⟨w.heap.size, 3, none⟩ = some (.int .i64 s.base) := hk6.cell 3
  have c4 : V6.cell? ⟨w.heap.size, 4, none⟩ = some (.int .i64 s.next) := hk6.cell 4
  have c5 : V6.cell? ⟨w.heap.size, 5, none⟩ = some (.int .i64 s.cred) := hk6.cell 5
  have c6 : V6.cell? ⟨w.heap.size, 6, none⟩ = some (.slice Ao no co) := hk6.cell 6
  have c7 : V6.cell? ⟨w.heap.size, 7, none⟩ = some (.slice A5 (nq + 1) cc5) := hk6.cell 7
  have d0 : V6.cell? ⟨w.heap.size + 1, 0, none⟩ = some (.int .i64 0) := hkR6.cell 0
  have d1 : V6.cell? ⟨w.heap.size + 1, 1, none⟩ = some (.int .i64 0) := hkR6.cell 1
  have d2 : V6.cell? ⟨w.heap.size + 1, 2, none⟩ = some (.int .i64 0) := hkR6.cell 2
  have d3 : V6.cell? ⟨w.heap.size + 1, 3, none⟩ = some (.int .i64 0) := hkR6.cell 3
  have d4 : V6.cell? ⟨w.heap.size + 1, 4, none⟩ = some (.int .i64 0) := hkR6.cell 4
  have d5 : V6.cell? ⟨w.heap.size + 1, 5, none⟩ = some (.int .i64 0) := hkR6.cell 5
  have d6 : V6.cell? ⟨w.heap.size + 1, 6, none⟩ = some (.slice none 0 0) := hkR6.cell 6
  have d7 : V6.cell? ⟨w.heap.size + 1, 7, none⟩ = some (.slice none 0 0) := hkR6.cell 7
  have y0 := hkR6.frozen 0
  have y1 := hkR6.frozen 1
  have y2 := hkR6.frozen 2
  have y3 := hkR6.frozen 3
  have y4 := hkR6.frozen 4
  have y5 := hkR6.frozen 5
  have y6 := hkR6.frozen 6
  have y7 := hkR6.frozen 7
  have lR6 := hkR6.lt
  have hkF := set25_blk hkR6 (.int .i64 s.ses) (.int .i64 s.lim) (.int .i64 s.tmo) (.int .i64 s.base) (.int .i64 s.next) (.int .i64 s.cred) (.slice Ao no co) (.slice A5 (nq + 1) cc5)
  have hTF := set25_turn hkR6 (base := base) (by omega) (.int .i64 s.ses) (.int .i64 s.lim) (.int .i64 s.tmo) (.int .i64 s.base) (.int .i64 s.next) (.int .i64 s.cred) (.slice Ao no co) (.slice A5 (nq + 1) cc5)
  have hbF := set25_below hb6 (g := w.heap.size + 1) (by omega) (.int .i64 s.ses) (.int .i64 s.lim) (.int .i64 s.tmo) (.int .i64 s.base) (.int .i64 s.next) (.int .i64 s.cred) (.slice Ao no co) (.slice A5 (nq + 1) cc5)
  have HF := Lib.hid (And.intro hkF (And.intro (hO6.turn hTF (by simp) (oeR_ab (by simp))) (And.intro (hQ6.turn hTF (by simp) (qeR_ab (by simp))) hbF)))
  have HOQ := Lib.hid (And.intro hom hqm)
  have HVAL : Hid (Value.slice Ao no co = .slice Ao es.length co) := by show _ = _; rw [HQ.out.2]
  clear hkF hTF hbF hk6 hT6 hkR6 hO6 hQ6 hb6 hp5 hk5 hkR5 hO5 hb5 hTa hom hqm hQ4 hk4 hb4 hb3 hb3' hown3 q7 q7' q5 yy5 l5 f7
  go_wp2_with fail
  refine bodyPost_ret (results_cell_tmp (t := 25) rfl _ _ (w.heap.size + 1) _ _ rfl HF.out.1 Try.underlying25 rfl (by kernel_rfl)) rfl ?_
  refine ⟨⟨_, 0, rfl, by rw [HM.out]; rfl, ?_, freshQ_own HF.out.2.2.1.own (Nat.le_refl _)⟩, HF.out.2.2.2⟩
  rw [HM.out]
  exact ⟨_, _, rfl, ⟨es, HF.out.2.1.vec, HOQ.out.1⟩, ⟨qs ++ [⟨A3, cc3, p⟩], HF.out.2.2.1.vec, by rw [List.map_append, HOQ.out.2]; rfl⟩⟩
end Go.Proofs.Ytanmndhdhlmjgaa.Fr
namespace Go.Proofs.Ytanmndhdhlmjgaa
open Go.RowKit
theorem Push_any (s : Sm) (v : Value) (base : Nat) (p : List Nat) (vp : Value) (w : World) (hv : SnV w base s v) (hs : Small s) (hbw : base ≤ w.heap.size) (hp : BsV w base p vp) (hpl : p.length ≤ 100000) :
    Calls Try.prog 23 #[v, vp] w fun e w' => (∃ u k, e = .returned (.tuple #[u, .int .i64 k]) ∧ (k : Int) = ((pushS s p).2 : Nat) ∧ SnV w' base (pushS s p).1 u) ∧ Below w.heap.size w w' := (Fr.Push_any s v base p vp w hv hs hbw hp hpl).mono fun e w' h => by
  obtain ⟨⟨u, k, h1, h2, h3, -⟩, h4⟩ := h
  exact ⟨⟨u, k, h1, h2, h3⟩, h4⟩
end Go.Proofs.Ytanmndhdhlmjgaa
