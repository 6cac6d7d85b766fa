/- The walk of the law LinkRates. No condition. -/
import Derived.Test.YtjaoppopfeonhaaXf
import Derived.Test.YtjaoppopfeonhaaMathF
namespace Go.Proofs.Ytjaoppopfeonhaa
open Go.RowKit
set_option linter.unusedSimpArgs false in
set_option maxRecDepth 100000 in
set_option maxHeartbeats 16000000 in
theorem walkLinkRates (w : World) (v0 v1 v2 : Value) (h0 : Arg49 w v0) (h1 : Arg5 w v1) (h2 : Arg5 w v2) : Calls Try.prog 7 #[v0, v1, v2] w fun e w' => e = .returned (.bool true) ∧ Below w.heap.size w w' := by
  obtain ⟨mi, ma, ra, As, ns, c1, st, Ac, cc, cs, rfl, hS, hst, hnc1, hc1m, hC, hcc, hccm⟩ := h0
  obtain ⟨fr, rfl, hfr⟩ := h1
  obtain ⟨tt, rfl, htt⟩ := h2
  have hlen : st.length = ns := hS.count (fun _ => rfl) (by omega)
  have HX := Lib.hid (And.intro hS (And.intro hst (And.intro hC (And.intro hcc (And.intro hccm hlen)))))
  clear hS hst hC hcc hccm hlen hnc1 hc1m
  have hb0 : Below w.heap.size w (w.alloc (.cells #[.int .i64 mi, .int .i64 ma, .int .i64 ra, .slice As ns c1, .slice Ac cs.length cc] 49)) := ((Below.refl _ _).alloc (Nat.le_refl _) _)
  have g0 : Blk (w.alloc (.cells #[.int .i64 mi, .int .i64 ma, .int .i64 ra, .slice As ns c1, .slice Ac cs.length cc] 49)) w.heap.size 49 #[.int .i64 mi, .int .i64 ma, .int .i64 ra, .slice As ns c1, .slice Ac cs.length cc] := (Blk.new w 49 #[.int .i64 mi, .int .i64 ma, .int .i64 ra, .slice As ns c1, .slice Ac cs.length cc])
  have hs0 : (w.alloc (.cells #[.int .i64 mi, .int .i64 ma, .int .i64 ra, .slice As ns c1, .slice Ac cs.length cc] 49)).heap.size = w.heap.size + 1 := by simp
  go_enter Try.func7, Try.ntmps7
  go_upto_region 1 with fail
  generalize (w.alloc (.cells #[.int .i64 mi, .int .i64 ma, .int .i64 ra, .slice As ns c1, .slice Ac cs.length cc] 49)) = V at *
  have c0 : V.cell? ⟨w.heap.size, 0, none⟩ = some (.int .i64 mi) := g0.cell 0
  have c1x : V.cell? ⟨w.heap.size, 1, none⟩ = some (.int .i64 ma) := g0.cell 1
  have c2 : V.cell? ⟨w.heap.size, 2, none⟩ = some (.int .i64 ra) := g0.cell 2
  have c3 : V.cell? ⟨w.heap.size, 3, none⟩ = some (.slice As ns c1) := g0.cell 3
  have c4 : V.cell? ⟨w.heap.size, 4, none⟩ = some (.slice Ac cs.length cc) := g0.cell 4
  obtain ⟨f, hf⟩ : ∃ f, fitB mi ma ra ns cs.length = f := ⟨_, rfl⟩
  go_wp2_with fail
  refine (fit_any mi ma ra As Ac ns c1 cs.length cc V).mono ?_
  rintro e w1 ⟨rfl, hb1⟩
  rw [hf]
  have hs1 : w.heap.size + 1 ≤ w1.heap.size := by have := hb1.size; have := hb0.size; omega
  have HB := Lib.hid (And.intro (hb0.trans (hb1.mono hb0.size)) (g0.below hb1 (by omega)))
  clear c0 c1x c2 c3 c4 g0 hb0 hb1 hs0
  have c0 : w1.cell? ⟨w.heap.size, 0, none⟩ = some (.int .i64 mi) := HB.out.2.cell 0
  have c1x : w1.cell? ⟨w.heap.size, 1, none⟩ = some (.int .i64 ma) := HB.out.2.cell 1
  have c2 : w1.cell? ⟨w.heap.size, 2, none⟩ = some (.int .i64 ra) := HB.out.2.cell 2
  have c3 : w1.cell? ⟨w.heap.size, 3, none⟩ = some (.slice As ns c1) := HB.out.2.cell 3
  have c4 : w1.cell? ⟨w.heap.size, 4, none⟩ = some (.slice Ac cs.length cc) := HB.out.2.cell 4
  have AW : Hid (∀ W, Below w.heap.size w W → Calls Try.prog 12 #[] W fun e w' => e = .returned (.bool true) ∧ Below W.heap.size W w' ∧ Below w.heap.size w w') := fun W hW => (awake_any W).mono (fun e w' h => ⟨h.1, h.2, hW.trans (h.2.mono hW.size)⟩)
  cases f with
  | false =>
    go_wp2_with fail
    refine (AW.out _ HB.out.1).mono ?_
    rintro e w9 ⟨rfl, _, hb9⟩
    go_wp2_with fail
    go_ret
    exact ⟨by simp, hb9⟩
  | true =>
    have hfit : 0 ≤ mi ∧ mi ≤ ma ∧ ma ≤ 100 ∧ 0 ≤ ra ∧ ra ≤ 100 ∧ ns ≤ 20 ∧ cs.length ≤ 100 := by unfold fitB at hf; exact of_decide_eq_true hf
    clear hf
    have HFIT : Hid (0 ≤ mi ∧ mi ≤ ma ∧ ma ≤ 100 ∧ 0 ≤ ra ∧ ra ≤ 100) := ⟨hfit.1, hfit.2.1, hfit.2.2.1, hfit.2.2.2.1, hfit.2.2.2.2.1⟩
    have hns : ns ≤ 20 := hfit.2.2.2.2.2.1
    have hnc : cs.length ≤ 100 := hfit.2.2.2.2.2.2
    clear hfit
    by_cases hra0 : ra = 0
    · subst hra0
      go_wp2_with fail
      refine (AW.out _ HB.out.1).mono ?_
      rintro e w9 ⟨rfl, _, hb9⟩
      go_wp2_with fail
      go_ret
      exact ⟨by simp, hb9⟩
    have hrz : (ra == 0) = false := by rw [beq_eq_false_iff_ne]; exact hra0
    have hra : 0 < ra := by have := HFIT.out; omega
    clear hra0
    by_cases hns0 : ns = 0
    · subst hns0
      go_wp2_with fail
      refine (AW.out _ HB.out.1).mono ?_
      rintro e w9 ⟨rfl, _, hb9⟩
      go_wp2_with fail
      go_ret
      exact ⟨by simp, hb9⟩
    have hnz : ((ns : Int) == 0) = false := by rw [beq_eq_false_iff_ne]; omega
    have hnp : 0 < ns := by omega
    clear hns0
    go_wp2_with fail
    refine (run_lv mi ma ra As ns c1 st Ac cc cs w1 HFIT.out hns hnc (HX.out.1.up HB.out.1) HX.out.2.1 (HX.out.2.2.1.up HB.out.1) HX.out.2.2.2.1 HX.out.2.2.2.2.1).mono ?_
    rintro e w2 ⟨hb2, v, A3, c3x, A4, c4x, A5, c5x, rfl, hF2, ht2, hi2, hp2⟩
    have HOK : Hid (OkR mi ma ra cs.length ns (runK mi ma ra cs st ns)) := runK_ok HFIT.out (by have := HX.out.2.2.2.2.2; omega) ns (by have := HX.out.2.2.2.2.2; omega)
    have HFL : Hid (RunF mi ma st ns (runK mi ma ra cs st ns)) := runK_F HFIT.out (by have := HX.out.2.2.2.2.2; omega) ns (by have := HX.out.2.2.2.2.2; omega)
    obtain ⟨r, hr⟩ : ∃ r, runK mi ma ra cs st ns = r := ⟨_, rfl⟩
    have HRR := Lib.hid hr
    rw [hr] at hF2 ht2 hi2 hp2 HOK HFL ⊢
    clear hr
    obtain ⟨Bv, cv, rfl⟩ := hF2.form
    have hs2 := hb2.size
    have hlt : r.tm.length = ns := HOK.out.ltm
    have hli : r.id.length = ns := HOK.out.lid
    have hlc : r.cp.length = ns := HOK.out.lcp
    rw [hlt] at ht2 ⊢
    rw [hli] at hi2 ⊢
    rw [hlc] at hp2 ⊢
    have HLL := Lib.hid (And.intro hlt (And.intro hli hlc))
    clear hlt hli hlc
    have H2 := Lib.hid (And.intro (HB.out.1.trans (hb2.mono HB.out.1.size)) (And.intro (HB.out.2.below hb2 (by omega)) (And.intro hF2 (And.intro ht2 (And.intro hi2 hp2)))))
    clear hb2 hF2 ht2 hi2 hp2 c0 c1x c2 c3 c4
    unfold lkV
    have HTT : Hid (RunT ra st ns r) := by
      have := runK_T (cs := cs) HFIT.out (by have := HX.out.2.2.2.2.2; omega) ns (Nat.le_of_eq HX.out.2.2.2.2.2.symm)
      rw [HRR.out] at this
      exact this
    have hb3 : Below w2.heap.size w2 (w2.alloc (.cells #[.int .i64 r.l.mi, .int .i64 r.l.ma, .int .i64 r.l.ra, .bool r.l.dn, .int .i64 r.l.idle, .int .i64 r.l.nx, .slice Bv r.l.fl.length cv] 26)) := (Below.refl _ _).alloc (Nat.le_refl _) _
    have hz3 : w2.heap.size + 1 ≤ (w2.alloc (.cells #[.int .i64 r.l.mi, .int .i64 r.l.ma, .int .i64 r.l.ra, .bool r.l.dn, .int .i64 r.l.idle, .int .i64 r.l.nx, .slice Bv r.l.fl.length cv] 26)).heap.size := by simp
    have H3 := Lib.hid (And.intro (H2.out.1.trans (hb3.mono H2.out.1.size)) (And.intro (H2.out.2.1.below hb3 (by omega)) (And.intro (H2.out.2.2.2.1.up hb3) (H2.out.2.2.2.2.1.up hb3))))
    clear hb3
    go_upto_region 4 with fail
    generalize (w2.alloc (.cells #[.int .i64 r.l.mi, .int .i64 r.l.ma, .int .i64 r.l.ra, .bool r.l.dn, .int .i64 r.l.idle, .int .i64 r.l.nx, .slice Bv r.l.fl.length cv] 26)) = V3 at *
    have c0 : V3.cell? ⟨w.heap.size, 0, none⟩ = some (.int .i64 mi) := H3.out.2.1.cell 0
    have c1x : V3.cell? ⟨w.heap.size, 1, none⟩ = some (.int .i64 ma) := H3.out.2.1.cell 1
    have c2 : V3.cell? ⟨w.heap.size, 2, none⟩ = some (.int .i64 ra) := H3.out.2.1.cell 2
    have c3 : V3.cell? ⟨w.heap.size, 3, none⟩ = some (.slice As ns c1) := H3.out.2.1.cell 3
    have c4 : V3.cell? ⟨w.heap.size, 4, none⟩ = some (.slice Ac cs.length cc) := H3.out.2.1.cell 4
    obtain ⟨i0, hi0⟩ : ∃ i0, fr % ns = i0 := ⟨_, rfl⟩
    obtain ⟨k0, hk0⟩ : ∃ k0, tt % ns = k0 := ⟨_, rfl⟩
    have hi0b : i0 < ns := by rw [← hi0]; exact Nat.mod_lt _ hnp
    have hk0b : k0 < ns := by rw [← hk0]; exact Nat.mod_lt _ hnp
    have hm1 : (fr : Int).tmod ns = (i0 : Int) := by rw [← hi0, Int.tmod_eq_emod_of_nonneg (by omega)]; simp
    have hm2 : (tt : Int).tmod ns = (k0 : Int) := by rw [← hk0, Int.tmod_eq_emod_of_nonneg (by omega)]; simp
    clear hi0 hk0
    go_upto_region 6 with fail
    go_quiet (fail)
    generalize hV4 : V3.drewN nq = V4 at *
    have hb4 : Below V3.heap.size V3 V4 := by rw [← hV4]; exact below_drewN (Below.refl _ V3) nq
    have H4 := Lib.hid (And.intro (H3.out.1.trans (hb4.mono H3.out.1.size)) (And.intro (H3.out.2.1.below hb4 (by omega)) (And.intro (H3.out.2.2.1.up hb4) (H3.out.2.2.2.up hb4))))
    have hs4 := hb4.size
    clear hV4 hb4 c0 c1x c2 c3 c4
    go_upto_if 57 with (fail)
    go_cut [12, 13] from 55 to 59 (fun s t wx => ∃ lo hi : Nat, s = .int .i64 (lo : Nat) ∧ t = .int .i64 (hi : Nat) ∧ lo ≤ hi ∧ hi < ns ∧ wx = V4)
    case first =>
      by_cases hlt : k0 < i0
      · go_wp2_with fail
        go_meet
        exact ⟨k0, i0, rfl, rfl, by omega, by omega, rfl⟩
      · go_wp2_with fail
        go_meet
        exact ⟨i0, k0, rfl, rfl, by omega, by omega, rfl⟩
    case rest =>
      obtain ⟨lo, hi, rfl, rfl, hlh, hhi, hwx⟩ := hcut
      subst wc
      clear hm1 hm2 hi0b hk0b
      go_wp2_with fail
      go_loopw [14, 15] (fun u14 u15 W => ∃ n : Nat, lo + n ≤ hi + 1 ∧ u15 = .int .i64 ((lo + n : Nat) : Int) ∧ u14 = .int .i64 (lenR st lo n : Nat) ∧ Below V4.heap.size V4 W) (fun _ u15 _ => hi + 2 - (intOf u15).toNat)
      case atStart => exact ⟨0, by omega, rfl, rfl, Below.refl _ _⟩
      case round =>
        obtain ⟨n, hn, rfl, rfl, hbW⟩ := hrel
        have hsW := hbW.size
        have HW := Lib.hid (And.intro (H4.out.1.trans (hbW.mono H4.out.1.size)) (And.intro (H4.out.2.1.below hbW (by omega)) hbW))
        clear hbW
        have c3 : wr.cell? ⟨w.heap.size, 3, none⟩ = some (.slice As ns c1) := HW.out.2.1.cell 3
        by_cases hlt : lo + n ≤ hi
        · have hkl : lo + n < st.length := by have := HX.out.2.2.2.2.2; omega
          obtain ⟨b, off, rfl, hbw, hcs⟩ := (HX.out.1.up HW.out.1).elems (E := encSp) (fun _ => rfl) (by omega) (by omega)
          have d0 := hcs (lo + n) hkl 0 _ rfl
          have d1 := hcs (lo + n) hkl 1 _ rfl
          have hxx := HX.out.2.1 _ (List.getElem_mem hkl)
          have HLR : Hid (lenR st lo (n + 1) = lenR st lo n + (payM st[lo + n].s (lo + n)).length) := lenR_succ (List.getElem?_eq_getElem hkl)
          generalize st[lo + n] = x at *
          obtain ⟨xs, xt⟩ := x
          dsimp only at d0 d1 hxx HLR
          rw [Nat.add_zero] at d0
          rw [← Nat.add_assoc] at d1
          have hbnd := lenR_le st lo n
          clear hcs
          have hj1 : ((lo + n : Nat) : Int) ≤ hi := by omega
          have hj2 : ((lo + n : Nat) : Int) < ns := by omega
          obtain ⟨j, hj⟩ : ∃ j, lo + n = j := ⟨_, rfl⟩
          have hjj : j ≤ hi := by omega
          rw [hj] at hj1 hj2 d0 d1 HLR ⊢
          have HJ := Lib.hid hj
          clear hj hlt hkl
          obtain ⟨LB, hLB⟩ : ∃ LB, lenR st lo n = LB := ⟨_, rfl⟩
          rw [hLB] at hbnd HLR ⊢
          have hLB2 : LB ≤ 200 := by omega
          go_wp2_with fail
          refine (payload_any xs xt j wr hxx.1 (by omega)).mono ?_
          rintro e w9 ⟨⟨v9, rfl, hv9⟩, hb9⟩
          obtain ⟨A9, c9, rfl, _, _, _⟩ := own_slice hv9
          have hpl : (payM xs j).length = xs % 9 + 1 := pay_len xs j
          obtain ⟨pl, hpp⟩ : ∃ pl, (payM xs j).length = pl := ⟨_, rfl⟩
          rw [hpp] at hpl HLR ⊢
          have hpl2 : pl ≤ 9 := by have := Nat.mod_lt xs (show 0 < 9 by omega); omega
          clear hv9 hpp hpl
          go_wp2_with fail
          go_roundw
          case rel =>
            have := HJ.out
            refine ⟨n + 1, by omega, by rw [← HJ.out]; go_num, ?_, HW.out.2.2.trans (hb9.mono HW.out.2.2.size)⟩
            rw [HLR.out]
            first | rfl | go_num
          case measure => simp [intOf]; omega
        · have hn9 : n = hi - lo + 1 := by omega
          have hgt : ¬ ((lo + n : Nat) : Int) ≤ hi := by omega
          have hlo : lo < ns := by omega
          obtain ⟨JN, hJN⟩ : ∃ JN : Int, ((lo + n : Nat) : Int) = JN := ⟨_, rfl⟩
          rw [hJN] at hgt ⊢
          clear hJN
          obtain ⟨x, T, I9, Q, q1, q2, q3, q4, q5, q6, q7⟩ := HTT.out.at_ lo hlo
          obtain ⟨xk, Tk, I, Qk, p1, p2, p3, p4, p5, p6, p7⟩ := HTT.out.at_ hi hhi
          have hrt := rates HTT.out hra q2 (i := lo) (Q := Q) q4 (hi - lo) I (by omega) (by rw [show lo + (hi - lo) = hi by omega]; exact p3)
          rw [← hn9] at hrt
          have hib : I ≤ 28 * ns := by
            have h1 := HOK.out.idle
            have h2 : I ≤ r.l.idle := by
              rcases HTT.out.last with ⟨e1, _⟩ | ⟨_, e2⟩
              · omega
              · exact mono_id HTT.out hra (show hi ≤ ns - 1 by omega) (by omega) p3 e2
            omega
          have hQb : Q ≤ I9 := by rw [q5]; have h1 := Int.le_max_right T Q; have h2 := ticks_small (b := (payM x.s lo).length) (ra := ra) (by rw [pay_len]; omega) (by omega); omega
          have hTb : T ≤ I9 := by rw [q5]; have h1 := Int.le_max_left T Q; have h2 := ticks_small (b := (payM x.s lo).length) (ra := ra) (by rw [pay_len]; omega) (by omega); omega
          have hII : I9 ≤ I := mono_id HTT.out hra hlh (by omega) q3 p3
          obtain ⟨B, hB⟩ : ∃ B, max T Q = B := ⟨_, rfl⟩
          rw [hB] at hrt
          have hmx := max_lo hB
          have HMX := Lib.hid (And.intro hB (And.intro q2 (And.intro q4 (And.intro p3 hrt))))
          obtain ⟨bt, ot, rfl, hbt, hct⟩ := (H4.out.2.2.1.up HW.out.2.2).plain (by omega) (by omega)
          obtain ⟨bi, oi, rfl, hbi, hci⟩ := (H4.out.2.2.2.up HW.out.2.2).plain (by omega) (by omega)
          have dt := hct lo (.int .i64 T) (by unfold i64s; rw [List.getElem?_map, q2]; rfl)
          have di := hci hi (.int .i64 I) (by unfold i64s; rw [List.getElem?_map, p3]; rfl)
          have hlo' : (lo : Int) < ns := by omega
          have hhi' : (hi : Int) < ns := by omega
          have hlen9 : lenR st lo n ≤ 200 := by have := lenR_le st lo n; omega
          obtain ⟨LB, hLB⟩ : ∃ LB, lenR st lo n = LB := ⟨_, rfl⟩
          rw [hLB] at hlen9 ⊢
          have HLB := Lib.hid hLB
          clear hB q1 q2 q3 q4 q5 p1 p2 p3 p4 p5 hrt hct hLB hn9
          go_upto_region 14 with fail
          go_upto_if 81 with (fail)
          go_cut [16] from 80 to 89 (fun s wx => s = .int .i64 B ∧ wx = wr)
          case first =>
            by_cases h0 : lo = 0
            · have hBT : B = T := by
                have h1 := HMX.out.2.2.1
                have h2 := HMX.out.1
                rcases h1 with ⟨_, e⟩ | ⟨e, _⟩
                · rw [← h2, e, Int.max_eq_left (by omega)]
                · omega
              have h0' : ¬ (0 : Int) < lo := by omega
              clear h0
              go_wp2_with fail
              go_meet
              exact ⟨by rw [hBT], rfl⟩
            · have h0' : (0 : Int) < lo := by omega
              have hq : r.id[lo - 1]? = some Q := by
                rcases HMX.out.2.2.1 with ⟨e, _⟩ | ⟨_, e⟩
                · omega
                · exact e
              have dq := hci (lo - 1) (.int .i64 Q) (by unfold i64s; rw [List.getElem?_map, hq]; rfl)
              obtain ⟨l1, hl1⟩ : ∃ l1, lo - 1 = l1 := ⟨_, rfl⟩
              rw [hl1] at dq
              have kw1 : (lo : Int) - 1 = (l1 : Nat) := by omega
              clear hl1
              have kw2 : (l1 : Int) < ns := by omega
              have hBe := HMX.out.1
              clear hq h0 hci
              rcases Int.lt_trichotomy T Q with hlt3 | hlt3 | hlt3
              · have hv : B = Q := by rw [← hBe, Int.max_eq_right (by omega)]
                clear hBe
                go_wp2_with fail
                go_meet
                exact ⟨by rw [hv], rfl⟩
              · have hv : B = Q := by rw [← hBe, Int.max_eq_right (by omega)]
                clear hBe
                subst hlt3
                go_wp2_with fail
                all_goals (go_meet; exact ⟨by rw [hv], rfl⟩)
              · have hv : B = T := by rw [← hBe, Int.max_eq_left (by omega)]
                clear hBe
                go_wp2_with fail
                go_meet
                exact ⟨by rw [hv], rfl⟩
          case rest =>
            obtain ⟨rfl, hwx⟩ := hcut
            subst wc
            go_upto_region 17 with fail
            have c2 : wr.cell? ⟨w.heap.size, 2, none⟩ = some (.int .i64 ra) := HW.out.2.1.cell 2
            have hlw : w.heap.size < wr.heap.size := by omega
            have hBI : 0 ≤ I - B ∧ I - B ≤ 600 := by omega
            have hprod : 0 ≤ (I - B) * ra ∧ (I - B) * ra ≤ 60000 := by
              have h1 := HFIT.out
              exact ⟨Int.mul_nonneg hBI.1 (by omega), Int.le_trans (Int.mul_le_mul hBI.2 (show ra ≤ 100 by omega) (by omega) (by omega)) (by omega)⟩
            have kw1 : IntKind.i64.wrap (I - B) = I - B := IntWalk.i64_in _ (by omega)
            have kw2 : IntKind.i64.wrap ((I - B) * ra) = (I - B) * ra := IntWalk.i64_in _ (by omega)
            have kw3 : decide ((LB : Int) ≤ (I - B) * ra) = true := decide_eq_true (by have := HMX.out.2.2.2.2; rw [HLB.out] at this; exact this)
            clear hprod
            refine wp_pan (Pc := fun _ _ _ => False) (fun _ _ _ h => h.elim) ?_
            refine wp_region_tail_lit (S := fun V => V.cell? ⟨w.heap.size, 2, none⟩ = some (.int .i64 ra) ∧ V.cell? ⟨bi, oi + hi, none⟩ = some (.int .i64 I)) 15 (by kernel_rfl) (by kernel_rfl) ⟨c2, di⟩ (fun hHeld => ?_)
            simp only [List.take, List.drop]
            refine wpAnyH_ready (rs := [0]) (by kernel_rfl) (by simp) ?_
            refine AllReadyH.cons (o := _) rfl (fun K hK => ?_) AllReadyH.nil
            try simp only [List.getElem_toArray, List.getElem_cons_succ, List.getElem_cons_zero]
            go_simp
            refine (AW.out _ (HW.out.1.drew)).mono ?_
            rintro e wz ⟨rfl, hbz, hbz2⟩
            go_wp2_with fail
            refine hK.out _ _ ⟨(hbz.cell (p := ⟨w.heap.size, 2, none⟩) hlw).trans c2, (hbz.cell (p := ⟨bi, oi + hi, none⟩) hbi).trans di⟩ (fun hHeld => ?_)
            clear hK K
            try simp only [List.getElem_toArray, List.getElem_cons_succ, List.getElem_cons_zero, Act.put, List.setIfInBounds_toArray, List.set_cons_zero, List.set_cons_succ]
            refine wpAnyH_take (i := 1) (oi := _) (v := ?_) rfl (by kernel_rfl) (by kernel_rfl) (by kernel_rfl) (fun _ _ _ h => h) (Or.inl ⟨by rfl, ?_⟩) (by assumption) ?_
            rotate_left 1
            · (intro w9 hS9; (try dsimp only at hS9); go_simp <;> with_reducible rfl)
            try simp only [List.getElem_toArray, List.getElem_cons_succ, List.getElem_cons_zero, Act.put, List.setIfInBounds_toArray, List.set_cons_zero, List.set_cons_succ]
            refine wpAnyH_take (i := 2) (oi := _) (v := ?_) rfl (by kernel_rfl) (by kernel_rfl) (by kernel_rfl) (fun _ _ _ h => h) (Or.inl ⟨by rfl, ?_⟩) (by assumption) ?_
            rotate_left 1
            · (intro w9 hS9; (try dsimp only at hS9); go_simp <;> with_reducible rfl)
            try simp only [List.getElem_toArray, List.getElem_cons_succ, List.getElem_cons_zero, Act.put, List.setIfInBounds_toArray, List.set_cons_zero, List.set_cons_succ]
            refine wpAnyH_take (i := 3) (oi := _) (v := ?_) rfl (by kernel_rfl) (by kernel_rfl) (by kernel_rfl) (fun _ _ _ h => h) (Or.inl ⟨by rfl, ?_⟩) (by assumption) ?_
            rotate_left 1
            · (intro w9 hS9; (try dsimp only at hS9); go_simp <;> with_reducible rfl)
            try simp only [List.getElem_toArray, List.getElem_cons_succ, List.getElem_cons_zero, Act.put, List.setIfInBounds_toArray, List.set_cons_zero, List.set_cons_succ]
            refine wpAnyH_take (i := 4) (oi := _) (v := ?_) rfl (by kernel_rfl) (by kernel_rfl) (by kernel_rfl) (fun _ _ _ h => h) (Or.inl ⟨by rfl, ?_⟩) (by assumption) ?_
            rotate_left 1
            · (intro w9 hS9; (try dsimp only at hS9); go_simp <;> with_reducible rfl)
            try simp only [List.getElem_toArray, List.getElem_cons_succ, List.getElem_cons_zero, Act.put, List.setIfInBounds_toArray, List.set_cons_zero, List.set_cons_succ]
            refine wpAnyH_take (i := 5) (oi := _) (v := ?_) rfl (by kernel_rfl) (by kernel_rfl) (by kernel_rfl) (fun _ _ _ h => h) (Or.inl ⟨by rfl, ?_⟩) (by assumption) ?_
            rotate_left 1
            · (intro w9 hS9; (try dsimp only at hS9); go_simp <;> with_reducible rfl)
            try simp only [List.getElem_toArray, List.getElem_cons_succ, List.getElem_cons_zero, Act.put, List.setIfInBounds_toArray, List.set_cons_zero, List.set_cons_succ]
            refine wpAnyH_take (i := 6) (oi := _) (v := ?_) rfl (by kernel_rfl) (by kernel_rfl) (by kernel_rfl) (fun _ _ _ h => h) (Or.inl ⟨by rfl, ?_⟩) (by assumption) ?_
            rotate_left 1
            · (intro w9 hS9; (try dsimp only at hS9); go_simp <;> with_reducible rfl)
            try simp only [List.getElem_toArray, List.getElem_cons_succ, List.getElem_cons_zero, Act.put, List.setIfInBounds_toArray, List.set_cons_zero, List.set_cons_succ]
            refine wpAnyH_take (i := 7) (oi := _) (v := ?_) rfl (by kernel_rfl) (by kernel_rfl) (by kernel_rfl) (fun _ _ _ h => h) (Or.inl ⟨by rfl, ?_⟩) (by assumption) ?_
            rotate_left 1
            · (intro w9 hS9; (try dsimp only at hS9); go_simp <;> with_reducible rfl)
            try simp only [List.getElem_toArray, List.getElem_cons_succ, List.getElem_cons_zero, Act.put, List.setIfInBounds_toArray, List.set_cons_zero, List.set_cons_succ]
            refine wpAnyH_take (i := 8) (oi := _) (v := ?_) rfl (by kernel_rfl) (by kernel_rfl) (by kernel_rfl) (fun _ _ _ h => h) (Or.inl ⟨by rfl, ?_⟩) (by assumption) ?_
            rotate_left 1
            · (intro w9 hS9; (try dsimp only at hS9); go_simp <;> with_reducible rfl)
            try simp only [List.getElem_toArray, List.getElem_cons_succ, List.getElem_cons_zero, Act.put, List.setIfInBounds_toArray, List.set_cons_zero, List.set_cons_succ]
            refine wpAnyH_take (i := 9) (oi := _) (v := ?_) rfl (by kernel_rfl) (by kernel_rfl) (by kernel_rfl) (fun _ _ _ h => h) (Or.inl ⟨by rfl, ?_⟩) (by assumption) ?_
            rotate_left 1
            · (intro w9 hS9; (try dsimp only at hS9); go_simp <;> with_reducible rfl)
            try simp only [List.getElem_toArray, List.getElem_cons_succ, List.getElem_cons_zero, Act.put, List.setIfInBounds_toArray, List.set_cons_zero, List.set_cons_succ]
            refine wpAnyH_take (i := 10) (oi := _) (v := ?_) rfl (by kernel_rfl) (by kernel_rfl) (by kernel_rfl) (fun _ _ _ h => h) (Or.inl ⟨by rfl, ?_⟩) (by assumption) ?_
            rotate_left 1
            · (intro w9 hS9; (try dsimp only at hS9); go_simp <;> with_reducible rfl)
            try simp only [List.getElem_toArray, List.getElem_cons_succ, List.getElem_cons_zero, Act.put, List.setIfInBounds_toArray, List.set_cons_zero, List.set_cons_succ]
            refine wpAnyH_take (i := 11) (oi := _) (v := ?_) rfl (by kernel_rfl) (by kernel_rfl) (by kernel_rfl) (fun _ _ _ h => h) (Or.inl ⟨by rfl, ?_⟩) (by assumption) ?_
            rotate_left 1
            · (intro w9 hS9; (try dsimp only at hS9); go_simp <;> with_reducible rfl)
            try simp only [List.getElem_toArray, List.getElem_cons_succ, List.getElem_cons_zero, Act.put, List.setIfInBounds_toArray, List.set_cons_zero, List.set_cons_succ]
            refine wpAnyH_take (i := 12) (oi := _) (v := ?_) rfl (by kernel_rfl) (by kernel_rfl) (by kernel_rfl) (fun _ _ _ h => h) (Or.inl ⟨by rfl, ?_⟩) (by assumption) ?_
            rotate_left 1
            · (intro w9 hS9; (try dsimp only at hS9); go_simp <;> with_reducible rfl)
            try simp only [List.getElem_toArray, List.getElem_cons_succ, List.getElem_cons_zero, Act.put, List.setIfInBounds_toArray, List.set_cons_zero, List.set_cons_succ]
            refine wpAnyH_take (i := 13) (oi := _) (v := ?_) rfl (by kernel_rfl) (by kernel_rfl) (by kernel_rfl) (fun _ _ _ h => h) (Or.inl ⟨by rfl, ?_⟩) (by assumption) ?_
            rotate_left 1
            · (intro w9 hS9; (try dsimp only at hS9); go_simp <;> with_reducible rfl)
            try simp only [List.getElem_toArray, List.getElem_cons_succ, List.getElem_cons_zero, Act.put, List.setIfInBounds_toArray, List.set_cons_zero, List.set_cons_succ]
            refine wpAnyH_take (i := 14) (oi := _) (v := ?_) rfl (by kernel_rfl) (by kernel_rfl) (by kernel_rfl) (fun _ _ _ h => h) (Or.inl ⟨by rfl, ?_⟩) (by assumption) ?_
            rotate_left 1
            · (intro w9 hS9; (try dsimp only at hS9); go_simp <;> with_reducible rfl)
            try simp only [List.getElem_toArray, List.getElem_cons_succ, List.getElem_cons_zero, Act.put, List.setIfInBounds_toArray, List.set_cons_zero, List.set_cons_succ]
            refine wpAnyH_done (by kernel_rfl) ?_ _
            refine tailQ_step rfl ?_
            go_wp2_with fail
            refine tailQ_nil (panQ_normal ?_)
            go_wp2_with fail
            go_ret
            exact ⟨by simp, hbz2⟩
end Go.Proofs.Ytjaoppopfeonhaa
