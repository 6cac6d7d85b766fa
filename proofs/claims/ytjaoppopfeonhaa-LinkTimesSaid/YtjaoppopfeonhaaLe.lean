/- The walk of the law LinkTimes. No condition. -/
import Derived.Test.YtjaoppopfeonhaaXg
import Derived.Test.YtjaoppopfeonhaaMathH
namespace Go.Proofs.Ytjaoppopfeonhaa
open Go.RowKit
theorem own_rd {w : World} {base : Nat} {e : TypeId} {size n c : Nat} {A : Option Addr} {xs : List Value} (h : w.ownsRow base e size (.slice A n c) n xs) : Reads w w.heap.size size A n xs := by
  obtain ⟨A', c', hv, _, _, hr⟩ := own_slice h
  injection hv with e1
  subst e1
  exact hr
set_option linter.unusedSimpArgs false in
set_option maxRecDepth 100000 in
set_option maxHeartbeats 16000000 in
theorem walkLinkTimes (w : World) (v0 v1 : Value) (h0 : Arg49 w v0) (h1 : Arg59 w v1) : Calls Try.prog 6 #[v0, v1] w fun e w' => e = .returned (.bool true) ∧ Below w.heap.size w w' := by
  obtain ⟨mi, ma, ra, As, ns, c1, st, Ac, cc, cs, rfl, hS, hst, hnc1, hc1m, hC, hcc, hccm⟩ := h0
  obtain ⟨now, rfl, hnow⟩ := h1
  have hlen : st.length = ns := hS.count (fun _ => rfl) (by omega)
  have HX := Lib.hid (And.intro hS (And.intro hst (And.intro hC (And.intro hcc (And.intro hccm hlen)))))
  clear hS hst hC hcc hccm hlen hnc1 hc1m
  have hb0 : Below w.heap.size w (w.alloc (.cells #[.int .i64 mi, .int .i64 ma, .int .i64 ra, .slice As ns c1, .slice Ac cs.length cc] 49)) := ((Below.refl _ _).alloc (Nat.le_refl _) _)
  have g0 : Blk (w.alloc (.cells #[.int .i64 mi, .int .i64 ma, .int .i64 ra, .slice As ns c1, .slice Ac cs.length cc] 49)) w.heap.size 49 #[.int .i64 mi, .int .i64 ma, .int .i64 ra, .slice As ns c1, .slice Ac cs.length cc] := (Blk.new w 49 #[.int .i64 mi, .int .i64 ma, .int .i64 ra, .slice As ns c1, .slice Ac cs.length cc])
  have hs0 : (w.alloc (.cells #[.int .i64 mi, .int .i64 ma, .int .i64 ra, .slice As ns c1, .slice Ac cs.length cc] 49)).heap.size = w.heap.size + 1 := by simp
  obtain ⟨i0, hi0, hz0, hz1, hz2⟩ := info_parts info3b
  have HII := Lib.hid (And.intro hi0 (And.intro hz0 (And.intro hz1 hz2)))
  clear hi0 hz0 hz1 hz2
  go_enter Try.func6, Try.ntmps6
  go_upto_region 1 with fail
  generalize (w.alloc (.cells #[.int .i64 mi, .int .i64 ma, .int .i64 ra, .slice As ns c1, .slice Ac cs.length cc] 49)) = V at *
  have c0 : V.cell? ⟨w.heap.size, 0, none⟩ = some (.int .i64 mi) := g0.cell 0
  have c1x : V.cell? ⟨w.heap.size, 1, none⟩ = some (.int .i64 ma) := g0.cell 1
  have c2 : V.cell? ⟨w.heap.size, 2, none⟩ = some (.int .i64 ra) := g0.cell 2
  have c3 : V.cell? ⟨w.heap.size, 3, none⟩ = some (.slice As ns c1) := g0.cell 3
  have c4 : V.cell? ⟨w.heap.size, 4, none⟩ = some (.slice Ac cs.length cc) := g0.cell 4
  obtain ⟨f, hf⟩ : ∃ f, fitB mi ma ra ns cs.length = f := ⟨_, rfl⟩
  go_wp2_with fail
  refine (fit_any mi ma ra As Ac ns c1 cs.length cc V).mono ?_
  rintro e w1 ⟨rfl, hb1⟩
  rw [hf]
  have hs1 : w.heap.size + 1 ≤ w1.heap.size := by have := hb1.size; have := hb0.size; omega
  have HB := Lib.hid (And.intro (hb0.trans (hb1.mono hb0.size)) (g0.below hb1 (by omega)))
  clear c0 c1x c2 c3 c4 g0 hb0 hb1 hs0
  have c0 : w1.cell? ⟨w.heap.size, 0, none⟩ = some (.int .i64 mi) := HB.out.2.cell 0
  have c1x : w1.cell? ⟨w.heap.size, 1, none⟩ = some (.int .i64 ma) := HB.out.2.cell 1
  have c2 : w1.cell? ⟨w.heap.size, 2, none⟩ = some (.int .i64 ra) := HB.out.2.cell 2
  have c3 : w1.cell? ⟨w.heap.size, 3, none⟩ = some (.slice As ns c1) := HB.out.2.cell 3
  have c4 : w1.cell? ⟨w.heap.size, 4, none⟩ = some (.slice Ac cs.length cc) := HB.out.2.cell 4
  have AW : Hid (∀ W, Below w.heap.size w W → Calls Try.prog 12 #[] W fun e w' => e = .returned (.bool true) ∧ Below W.heap.size W w' ∧ Below w.heap.size w w') := fun W hW => (awake_any W).mono (fun e w' h => ⟨h.1, h.2, hW.trans (h.2.mono hW.size)⟩)
  cases f with
  | false =>
    go_wp2_with fail
    refine (AW.out _ HB.out.1).mono ?_
    rintro e w9 ⟨rfl, _, hb9⟩
    go_wp2_with fail
    go_ret
    exact ⟨by simp, hb9⟩
  | true =>
    have hfit : 0 ≤ mi ∧ mi ≤ ma ∧ ma ≤ 100 ∧ 0 ≤ ra ∧ ra ≤ 100 ∧ ns ≤ 20 ∧ cs.length ≤ 100 := by unfold fitB at hf; exact of_decide_eq_true hf
    clear hf
    have HFIT : Hid (0 ≤ mi ∧ mi ≤ ma ∧ ma ≤ 100 ∧ 0 ≤ ra ∧ ra ≤ 100) := ⟨hfit.1, hfit.2.1, hfit.2.2.1, hfit.2.2.2.1, hfit.2.2.2.2.1⟩
    have hns : ns ≤ 20 := hfit.2.2.2.2.2.1
    have hnc : cs.length ≤ 100 := hfit.2.2.2.2.2.2
    clear hfit
    go_wp2_with fail
    refine (run_lv mi ma ra As ns c1 st Ac cc cs w1 HFIT.out hns hnc (HX.out.1.up HB.out.1) HX.out.2.1 (HX.out.2.2.1.up HB.out.1) HX.out.2.2.2.1 HX.out.2.2.2.2.1).mono ?_
    rintro e w2 ⟨hb2, v, A3, c3x, A4, c4x, A5, c5x, rfl, hF2, ht2, hi2, hp2⟩
    have HOK : Hid (OkR mi ma ra cs.length ns (runK mi ma ra cs st ns)) := runK_ok HFIT.out (by have := HX.out.2.2.2.2.2; omega) ns (by have := HX.out.2.2.2.2.2; omega)
    have HFL : Hid (RunF mi ma st ns (runK mi ma ra cs st ns)) := runK_F HFIT.out (by have := HX.out.2.2.2.2.2; omega) ns (by have := HX.out.2.2.2.2.2; omega)
    obtain ⟨r, hr⟩ : ∃ r, runK mi ma ra cs st ns = r := ⟨_, rfl⟩
    have HRR := Lib.hid hr
    rw [hr] at hF2 ht2 hi2 hp2 HOK HFL ⊢
    clear hr
    obtain ⟨Bv, cv, rfl⟩ := hF2.form
    have hs2 := hb2.size
    have hlt : r.tm.length = ns := HOK.out.ltm
    have hli : r.id.length = ns := HOK.out.lid
    have hlc : r.cp.length = ns := HOK.out.lcp
    rw [hlt] at ht2 ⊢
    rw [hli] at hi2 ⊢
    rw [hlc] at hp2 ⊢
    have HLL := Lib.hid (And.intro hlt (And.intro hli hlc))
    clear hlt hli hlc
    have H2 := Lib.hid (And.intro (HB.out.1.trans (hb2.mono HB.out.1.size)) (And.intro (HB.out.2.below hb2 (by omega)) (And.intro hF2 (And.intro ht2 (And.intro hi2 hp2)))))
    clear hb2 hF2 ht2 hi2 hp2 c0 c1x c2 c3 c4
    unfold lkV
    have hb3 : Below w2.heap.size w2 (w2.alloc (.cells #[.int .i64 r.l.mi, .int .i64 r.l.ma, .int .i64 r.l.ra, .bool r.l.dn, .int .i64 r.l.idle, .int .i64 r.l.nx, .slice Bv r.l.fl.length cv] 26)) := (Below.refl _ _).alloc (Nat.le_refl _) _
    have hz3 : w2.heap.size + 1 ≤ (w2.alloc (.cells #[.int .i64 r.l.mi, .int .i64 r.l.ma, .int .i64 r.l.ra, .bool r.l.dn, .int .i64 r.l.idle, .int .i64 r.l.nx, .slice Bv r.l.fl.length cv] 26)).heap.size := by simp
    have g3 := Blk.new w2 26 #[.int .i64 r.l.mi, .int .i64 r.l.ma, .int .i64 r.l.ra, .bool r.l.dn, .int .i64 r.l.idle, .int .i64 r.l.nx, .slice Bv r.l.fl.length cv]
    have H3 := Lib.hid (And.intro (H2.out.1.trans (hb3.mono H2.out.1.size)) (And.intro (H2.out.2.1.below hb3 (by omega)) (And.intro (H2.out.2.2.1.up hb3) (And.intro (H2.out.2.2.2.1.up hb3) (And.intro (H2.out.2.2.2.2.1.up hb3) (And.intro ((own_rd H2.out.2.2.2.2.2).up hb3) g3))))))
    clear hb3 g3
    go_upto_region 4 with fail
    generalize (w2.alloc (.cells #[.int .i64 r.l.mi, .int .i64 r.l.ma, .int .i64 r.l.ra, .bool r.l.dn, .int .i64 r.l.idle, .int .i64 r.l.nx, .slice Bv r.l.fl.length cv] 26)) = V3 at *
    have x0 : V3.cell? ⟨w2.heap.size, 0, none⟩ = some (.int .i64 r.l.mi) := H3.out.2.2.2.2.2.2.cell 0
    have x1 : V3.cell? ⟨w2.heap.size, 1, none⟩ = some (.int .i64 r.l.ma) := H3.out.2.2.2.2.2.2.cell 1
    have x2 : V3.cell? ⟨w2.heap.size, 2, none⟩ = some (.int .i64 r.l.ra) := H3.out.2.2.2.2.2.2.cell 2
    have x3 : V3.cell? ⟨w2.heap.size, 3, none⟩ = some (.bool r.l.dn) := H3.out.2.2.2.2.2.2.cell 3
    have x4 : V3.cell? ⟨w2.heap.size, 4, none⟩ = some (.int .i64 r.l.idle) := H3.out.2.2.2.2.2.2.cell 4
    have x5 : V3.cell? ⟨w2.heap.size, 5, none⟩ = some (.int .i64 r.l.nx) := H3.out.2.2.2.2.2.2.cell 5
    have x6 : V3.cell? ⟨w2.heap.size, 6, none⟩ = some (.slice Bv r.l.fl.length cv) := H3.out.2.2.2.2.2.2.cell 6
    have hcw : IntKind.i64.wrap ((now : Nat) : Int) = ((now : Nat) : Int) := IntWalk.i64_in _ (by omega)
    obtain ⟨D, hD⟩ : ∃ D, delivM r.l (now : Nat) = D := ⟨_, rfl⟩
    have hdl := deliv_lv r.l (SmL.of HOK.out hns) (now : Nat) (.slice Bv r.l.fl.length cv) V3 H3.out.2.2.1
    rw [hD] at hdl
    have HD := Lib.hid hD
    clear hD
    obtain ⟨dm, PP⟩ := D
    unfold lkV at hdl
    go_wp2_with fail
    refine hdl.mono ?_
    clear hdl
    rintro e w4 ⟨hb4, v4, u, rfl, hf4, hp4⟩
    dsimp only at hf4 hp4
    obtain ⟨Bz, cz, rfl⟩ := hf4.form
    clear hf4 x0 x1 x2 x3 x4 x5 x6
    unfold lkV
    dsimp only
    have hs4 := hb4.size
    have hb5 : Below w4.heap.size w4 (w4.alloc (.cells #[.int .i64 dm.mi, .int .i64 dm.ma, .int .i64 dm.ra, .bool dm.dn, .int .i64 dm.idle, .int .i64 dm.nx, .slice Bz dm.fl.length cz] 26)) := (Below.refl _ _).alloc (Nat.le_refl _) _
    have hb35 : Below V3.heap.size V3 (w4.alloc (.cells #[.int .i64 dm.mi, .int .i64 dm.ma, .int .i64 dm.ra, .bool dm.dn, .int .i64 dm.idle, .int .i64 dm.nx, .slice Bz dm.fl.length cz] 26)) := hb4.trans (hb5.mono hs4)
    have H5 := Lib.hid (And.intro (H3.out.1.trans (hb35.mono H3.out.1.size)) (And.intro (H3.out.2.1.below hb35 (by omega)) (And.intro (H3.out.2.2.2.1.up hb35) (And.intro (H3.out.2.2.2.2.1.up hb35) (And.intro (H3.out.2.2.2.2.2.1.up hb35) (hp4.up hb5))))))
    have hz5 : V3.heap.size ≤ (w4.alloc (.cells #[.int .i64 dm.mi, .int .i64 dm.ma, .int .i64 dm.ra, .bool dm.dn, .int .i64 dm.idle, .int .i64 dm.nx, .slice Bz dm.fl.length cz] 26)).heap.size := hb35.size
    clear hb4 hp4 hb5 hb35
    go_upto_region 7 with fail
    generalize (w4.alloc (.cells #[.int .i64 dm.mi, .int .i64 dm.ma, .int .i64 dm.ra, .bool dm.dn, .int .i64 dm.idle, .int .i64 dm.nx, .slice Bz dm.fl.length cz] 26)) = V5 at *
    have HLEN : Hid (PP.length ≤ 40) := by
      have h1 := HOK.out.fl
      have h2 := (deliv_ok HOK.out.ok (now : Nat)).symm.trans HD.out
      injection h2 with _ h3
      rw [← h3, List.length_map, List.length_take]
      have := Nat.min_le_right (atE (laterB (now : Nat)) r.l.fl) r.l.fl.length
      show _ ≤ _
      omega
    have HPP : Hid (PP = (r.l.fl.take (atE (laterB (now : Nat)) r.l.fl)).map Em.p) := by
      have h2 := (deliv_ok HOK.out.ok (now : Nat)).symm.trans HD.out
      injection h2 with _ h3
      exact h3.symm
    have HPM : Hid (∀ (i : Nat) (p : List Nat), PP[i]? = some p → ∃ (k : Nat) (x : Sp), k < ns ∧ st[k]? = some x ∧ p = payM x.s k) := by
      intro i p hp
      rw [HPP.out, List.getElem?_map] at hp
      cases he : (r.l.fl.take (atE (laterB (now : Nat)) r.l.fl))[i]? with
      | none => rw [he] at hp; cases hp
      | some e =>
        rw [he] at hp
        injection hp with hp
        obtain ⟨k, x, I, h1, h2, h3, _⟩ := HFL.out.mem e (List.mem_of_mem_take (List.mem_of_getElem? he))
        exact ⟨k, x, h1, h2, by rw [← hp]; exact h3⟩
    have HBB : Hid (∀ (j : Nat) (I : Int), r.id[j]? = some I → 0 ≤ I ∧ I ≤ 100000) := by
      intro q I hI
      have h8 := HX.out.2.2.2.2.2
      have h9 := runK_b (ra := ra) (cs := cs) HFIT.out (st := st) (by omega) ns (by omega) q I (by rw [HRR.out]; exact hI)
      clear HX HB AW HFIT HLEN
      omega
    have HLAW : Hid (∀ j, j < ns → ∃ T I : Int, r.tm[j]? = some T ∧ r.id[j]? = some I ∧ r.cp[j]? = some ((cntH j (r.l.fl.map Em.p) : Nat) : Int) ∧ T ≤ I ∧ 0 ≤ I ∧ I ≤ 100000 ∧ (0 < cntH j PP → I + mi ≤ (now : Nat)) ∧ (I + ma ≤ (now : Nat) → cntH j PP = cntH j (r.l.fl.map Em.p))) := times_law HOK.out HFL.out HBB.out HPP.out
    clear HD
    obtain ⟨Au, cu, rfl⟩ := H5.out.2.2.2.2.2.form
    have hPl := HLEN.out
    go_wp2_with fail
    go_loopw [12, 13] (fun u12 u13 W => ∃ j : Nat, j ≤ ns ∧ u13 = .int .i64 (j : Nat) ∧ W.ownsRow V5.heap.size 3 1 u12 j (i64s (List.replicate j 0)) ∧ Below V5.heap.size V5 W) (fun _ u13 _ => ns + 1 - (intOf u13).toNat)
    case atStart => exact ⟨0, by omega, rfl, World.ownsRow_nil _ _ _ _, Below.refl _ _⟩
    case round =>
      obtain ⟨j, hj, rfl, hrow, hb⟩ := hrel
      obtain ⟨A12, c12, rfl, _, _, _⟩ := own_slice hrow
      have hsz := hb.size
      have HR := Lib.hid (And.intro hrow hb)
      clear hrow hb
      by_cases hlt : j < ns
      · have hlt' : (j : Int) < ns := by omega
        have hr2 := own_alloc HR.out.1 (.cells #[.int .i64 0] 3)
        have her := elem_reads wr #[.int .i64 0] 3
        have hs2 : (wr.alloc (.cells #[.int .i64 0] 3)).heap.size = wr.heap.size + 1 := by simp
        go_wp2_with (at_builtin; go_must (refine wpList_append_any (wr.alloc (.cells #[.int .i64 0] 3)) rfl (.tmp 43) (.tmp 44) _ rfl V5.heap.size 3 i0 _ 1 8 Try.underlying40 HII.out.1 HII.out.2.1 HII.out.2.2.1 HII.out.2.2.2 rfl (by omega) (.slice A12 j c12) j (i64s (List.replicate j 0)) rfl hr2 (wr.heap.size + 1) (some ⟨wr.heap.size, 0, none⟩) 1 1 [.int .i64 0] rfl her (by simp [Value.oneCell']) (by simp only [maxLen]; omega) (by omega) (by omega) ?_; intro v9 w9 ho9 hg9 hv9))
        go_roundw
        case rel =>
          refine ⟨j + 1, by omega, by go_num, ?_, (HR.out.2.alloc hsz _).grown hg9 (by omega) (fun g hg => own_block_ge HR.out.1 g hg)⟩
          rw [List.replicate_succ', i64s_snoc]
          exact ho9
        case measure => simp [intOf]; omega
      · obtain rfl : j = ns := by omega
        have hlt' : ¬ (j : Int) < j := by omega
        have hC0 : CntI w V5 (.slice A12 j c12) V5.heap.size j (seenL j PP 0) wr := ⟨by rw [← seenL_zero]; exact HR.out.1, fun k hk _ => HR.out.2.block k hk, hsz, H5.out.1.trans (HR.out.2.mono H5.out.1.size)⟩
        have HC0 := Lib.hid hC0
        clear hC0
        generalize wr = wE at *
        go_wp2_with fail
        go_loopw [14] (fun u14 W => ∃ i : Nat, i ≤ PP.length ∧ u14 = .int .i64 (i : Nat) ∧ CntI w V5 (.slice A12 j c12) V5.heap.size j (seenL j PP i) W) (fun u14 _ => PP.length + 1 - (intOf u14).toNat)
        case atStart => exact ⟨0, by omega, rfl, HC0.out⟩
        case round =>
          obtain ⟨i, hi, rfl, hI⟩ := hrel
          have hsW := hI.size
          have HI := Lib.hid hI
          clear hI
          by_cases hlp : i < PP.length
          · have hlp' : (i : Int) < PP.length := by omega
            obtain ⟨k, x, hk, hx, hpp⟩ := HPM.out i PP[i] (List.getElem?_eq_getElem hlp)
            have hHB : ∀ q, headB q PP[i] = (k == q) := fun q => by rw [hpp, headB_pay]
            have HSU : Hid ((seenL j PP i).set k (((cntH k (PP.take i) : Nat) : Int) + 1) = seenL j PP (i + 1)) := seenL_succ (List.getElem?_eq_getElem hlp) hHB
            have hat := seenL_at PP i hk
            obtain ⟨b, off, cu', xA, xc, huu, hbw, hc0, hrp⟩ := (HI.out.pl H5.out.2.2.2.2.2 (fun b hb => .inr (own_block_ge HI.out.row b hb))).at_ hlp
            injection huu with e1 e2 e3
            subst e1 e3
            have hl2 : cntH k (PP.take i) ≤ 40 := Nat.le_trans (cntH_le k _) (by rw [List.length_take]; omega)
            clear hHB
            obtain ⟨z, hz⟩ : ∃ z, ((cntH k (PP.take i) : Nat) : Int) = z := ⟨_, rfl⟩
            have hzb : 0 ≤ z ∧ z ≤ 50 := by omega
            rw [hz] at HSU hat
            clear hz hl2
            rw [hpp] at hc0 hrp
            have hpl := pay_len x.s k
            obtain ⟨xb, xo, rfl, hxb, hxc⟩ := hrp.plain (by omega) (by omega)
            have hd0 := hxc 0 (.int .u8 (k : Nat)) (by unfold u8s payM; rfl)
            rw [Nat.add_zero] at hd0
            obtain ⟨pl, hpn⟩ : ∃ pl, (payM x.s k).length = pl := ⟨_, rfl⟩
            rw [hpn] at hc0 hpl
            have hplz : ((pl : Nat) : Int) ≠ 0 := by omega
            have kz : ((pl : Int) == 0) = false := by rw [beq_eq_false_iff_ne]; exact hplz
            have kp0 : (0 : Int) < pl := by omega
            have kpN : 0 < pl := by omega
            have kn : ((k : Nat) : Int) < j := by omega
            have kge2 : decide (j ≤ k) = false := decide_eq_false (by omega)
            have kge : decide (((j : Nat) : Int) ≤ ((k : Nat) : Int)) = false := decide_eq_false (by omega)
            have kge3 : ¬ ((j : Nat) : Int) ≤ ((k : Nat) : Int) := by omega
            have kw1 : IntKind.i64.wrap ((k : Nat) : Int) = ((k : Nat) : Int) := IntWalk.i64_in _ (by omega)
            have kw2 : IntKind.i64.wrap (z + 1) = z + 1 := IntWalk.i64_in _ (by omega)
            obtain ⟨g, cap, cur, hvg, hlg, hBg, _⟩ := own_blk HI.out.row (by omega)
            injection hvg with e1 _ e3
            subst e1 e3
            have f0 : wr.frozen? ⟨g, k, none⟩ = false := hBg.frozen k
            obtain ⟨bb, oo, hAA, _, hcc2⟩ := (Reads.of_own HI.out.row).plain (by omega) (by omega)
            injection hAA with hAA
            injection hAA with e1 e2
            subst e1 e2
            have z0 := hcc2 k (.int .i64 z) (by unfold i64s; rw [List.getElem?_map, hat]; rfl)
            rw [Nat.zero_add] at z0
            clear hcc2 hBg hxc hrp hpp hplz hpn hpl hat
            go_wp2_with fail
            go_roundw
            case rel =>
              refine ⟨i + 1, by omega, by go_num, ?_⟩
              rw [← HSU.out]
              exact HI.out.set (by omega) k (z + 1)
            case measure => simp [intOf]; omega
          · obtain rfl : i = PP.length := by omega
            have hlp' : ¬ ((PP.length : Nat) : Int) < PP.length := by omega
            generalize wr = wF at *
            go_wp2_with fail
            go_loopw [15] (fun u15 W => ∃ i : Nat, i ≤ j ∧ u15 = .int .i64 (i : Nat) ∧ CntI w V5 (.slice A12 j c12) V5.heap.size j (seenL j PP PP.length) W) (fun u15 _ => j + 1 - (intOf u15).toNat)
            case atStart => exact ⟨0, by omega, rfl, HI.out⟩
            case round =>
              obtain ⟨i, hi, rfl, hI⟩ := hrel
              have hsW2 := hI.size
              have HI2 := Lib.hid hI
              clear hI
              by_cases hij : i < j
              · have hij' : (i : Int) < j := by omega
                obtain ⟨T, I, q1, q2, q3, q4, q5, q6, q7, q8⟩ := HLAW.out i hij
                have hat := seenL_at PP PP.length hij
                rw [List.take_length] at hat
                obtain ⟨sn, hsn⟩ : ∃ sn, cntH i PP = sn := ⟨_, rfl⟩
                obtain ⟨cn, hcn⟩ : ∃ cn, cntH i (r.l.fl.map Em.p) = cn := ⟨_, rfl⟩
                have hsb : sn ≤ 40 := by rw [← hsn]; exact Nat.le_trans (cntH_le _ _) HLEN.out
                rw [hsn] at hat q7 q8
                rw [hcn] at q3 q8
                clear hsn hcn
                have nf : ∀ {bb : Nat}, bb < V5.heap.size → (Value.slice A12 j c12).ownBlock ≠ some bb := fun {bb} hlt9 e => by have := own_block_ge HI2.out.row bb e; omega
                have r3 := HI2.out.reads H5.out.2.2.1 (fun ad h0 hA => by obtain ⟨ad', hA', hb9, _⟩ := H5.out.2.2.1.2 h0; rw [hA] at hA'; cases hA'; exact nf hb9)
                have r4 := HI2.out.reads H5.out.2.2.2.1 (fun ad h0 hA => by obtain ⟨ad', hA', hb9, _⟩ := H5.out.2.2.2.1.2 h0; rw [hA] at hA'; cases hA'; exact nf hb9)
                have r5 := HI2.out.reads H5.out.2.2.2.2.1 (fun ad h0 hA => by obtain ⟨ad', hA', hb9, _⟩ := H5.out.2.2.2.2.1.2 h0; rw [hA] at hA'; cases hA'; exact nf hb9)
                obtain ⟨A9, c9, hv9, _, _, r6⟩ := own_slice HI2.out.row
                injection hv9 with e1 _ e3
                subst e1 e3
                obtain ⟨b3, o3, rfl, _, k3⟩ := r3.plain (by omega) (by omega)
                obtain ⟨b4, o4, rfl, _, k4⟩ := r4.plain (by omega) (by omega)
                obtain ⟨b5, o5, rfl, _, k5⟩ := r5.plain (by omega) (by omega)
                obtain ⟨b6, o6, rfl, _, k6⟩ := r6.plain (by omega) (by omega)
                have z3 := k3 i (.int .i64 T) (by unfold i64s; rw [List.getElem?_map, q1]; rfl)
                have z4 := k4 i (.int .i64 I) (by unfold i64s; rw [List.getElem?_map, q2]; rfl)
                have z5 := k5 i (.int .i64 (cn : Nat)) (by unfold i64s; rw [List.getElem?_map, q3]; rfl)
                have z6 := k6 i (.int .i64 (sn : Nat)) (by unfold i64s; rw [List.getElem?_map, hat]; rfl)
                have gw : Blk wr w.heap.size 49 #[.int .i64 mi, .int .i64 ma, .int .i64 ra, .slice As j c1, .slice Ac cs.length cc] := (HI2.out.keep _ (by omega) (nf (by omega))).trans H5.out.2.1
                have d0 : wr.cell? ⟨w.heap.size, 0, none⟩ = some (.int .i64 mi) := gw.cell 0
                have d1 : wr.cell? ⟨w.heap.size, 1, none⟩ = some (.int .i64 ma) := gw.cell 1
                clear k3 k4 k5 k6 r3 r4 r5 r6 q1 q2 q3 gw hat nf
                have hf := HFIT.out
                have kw3 : IntKind.i64.wrap (I + mi) = I + mi := IntWalk.i64_in _ (by omega)
                have kw4 : IntKind.i64.wrap (I + ma) = I + ma := IntWalk.i64_in _ (by omega)
                have kT : decide (I < T) = false := decide_eq_false (by omega)
                clear hf
                go_upto_region 21 with fail
                by_cases hsn : 0 < sn
                · have s1 : decide ((0 : Int) < ((sn : Nat) : Int)) = true := decide_eq_true (by omega)
                  have s1' : decide (0 < sn) = true := decide_eq_true hsn
                  have s2 : decide (((now : Nat) : Int) < I + mi) = false := decide_eq_false (by have := q7 hsn; omega)
                  by_cases him : I + ma ≤ (now : Nat)
                  · have s3 : decide (I + ma ≤ ((now : Nat) : Int)) = true := decide_eq_true him
                    have h9 := q8 him
                    subst h9
                    clear q7 q8 hsn him
                    go_quiet (fail)
                    generalize hV9 : wr.drewN nq = V9 at *
                    have hb9 : Below wr.heap.size wr V9 := by rw [← hV9]; exact below_drewN (Below.refl _ wr) nq
                    have h9 := HI2.out.below hb9
                    clear hb9
                    clear hV9
                    go_wp2_with fail
                    go_roundw
                    case rel => exact ⟨i + 1, by omega, by go_num, h9⟩
                    case measure => simp [intOf]; omega
                  · have s3 : decide (I + ma ≤ ((now : Nat) : Int)) = false := decide_eq_false him
                    clear q7 q8 hsn him
                    go_quiet (fail)
                    generalize hV9 : wr.drewN nq = V9 at *
                    have hb9 : Below wr.heap.size wr V9 := by rw [← hV9]; exact below_drewN (Below.refl _ wr) nq
                    have h9 := HI2.out.below hb9
                    clear hb9
                    clear hV9
                    go_wp2_with fail
                    go_roundw
                    case rel => exact ⟨i + 1, by omega, by go_num, h9⟩
                    case measure => simp [intOf]; omega
                · have s1 : decide ((0 : Int) < ((sn : Nat) : Int)) = false := decide_eq_false (by omega)
                  have s1' : decide (0 < sn) = false := decide_eq_false hsn
                  by_cases him : I + ma ≤ (now : Nat)
                  · have s3 : decide (I + ma ≤ ((now : Nat) : Int)) = true := decide_eq_true him
                    have h9 := q8 him
                    subst h9
                    clear q7 q8 hsn him
                    go_quiet (fail)
                    generalize hV9 : wr.drewN nq = V9 at *
                    have hb9 : Below wr.heap.size wr V9 := by rw [← hV9]; exact below_drewN (Below.refl _ wr) nq
                    have h9 := HI2.out.below hb9
                    clear hb9
                    clear hV9
                    go_wp2_with fail
                    go_roundw
                    case rel => exact ⟨i + 1, by omega, by go_num, h9⟩
                    case measure => simp [intOf]; omega
                  · have s3 : decide (I + ma ≤ ((now : Nat) : Int)) = false := decide_eq_false him
                    clear q7 q8 hsn him
                    go_quiet (fail)
                    generalize hV9 : wr.drewN nq = V9 at *
                    have hb9 : Below wr.heap.size wr V9 := by rw [← hV9]; exact below_drewN (Below.refl _ wr) nq
                    have h9 := HI2.out.below hb9
                    clear hb9
                    clear hV9
                    go_wp2_with fail
                    go_roundw
                    case rel => exact ⟨i + 1, by omega, by go_num, h9⟩
                    case measure => simp [intOf]; omega
              · obtain rfl : i = j := by omega
                have hij' : ¬ (i : Int) < i := by omega
                go_wp2_with fail
                refine (AW.out _ HI2.out.bel).mono ?_
                rintro e w9 ⟨rfl, _, hb9⟩
                go_wp2_with fail
                go_ret
                exact ⟨by simp, hb9⟩
end Go.Proofs.Ytjaoppopfeonhaa
