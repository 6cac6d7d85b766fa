/- The walk of the law LinkConserves. No condition. -/
import Derived.Test.YtjaoppopfeonhaaXg
namespace Go.Proofs.Ytjaoppopfeonhaa
open Go.RowKit
set_option linter.unusedSimpArgs false in
set_option maxRecDepth 100000 in
set_option maxHeartbeats 16000000 in
theorem walkLinkConserves (w : World) (v0 : Value) (h0 : Arg49 w v0) : Calls Try.prog 5 #[v0] w fun e w' => e = .returned (.bool true) ∧ Below w.heap.size w w' := by
  obtain ⟨mi, ma, ra, As, ns, c1, st, Ac, cc, cs, rfl, hS, hst, hnc1, hc1m, hC, hcc, hccm⟩ := h0
  have hlen : st.length = ns := hS.count (fun _ => rfl) (by omega)
  have HX := Lib.hid (And.intro hS (And.intro hst (And.intro hC (And.intro hcc (And.intro hccm hlen)))))
  clear hS hst hC hcc hccm hlen hnc1 hc1m
  have hb0 : Below w.heap.size w (w.alloc (.cells #[.int .i64 mi, .int .i64 ma, .int .i64 ra, .slice As ns c1, .slice Ac cs.length cc] 49)) := ((Below.refl _ _).alloc (Nat.le_refl _) _)
  have g0 : Blk (w.alloc (.cells #[.int .i64 mi, .int .i64 ma, .int .i64 ra, .slice As ns c1, .slice Ac cs.length cc] 49)) w.heap.size 49 #[.int .i64 mi, .int .i64 ma, .int .i64 ra, .slice As ns c1, .slice Ac cs.length cc] := (Blk.new w 49 #[.int .i64 mi, .int .i64 ma, .int .i64 ra, .slice As ns c1, .slice Ac cs.length cc])
  have hs0 : (w.alloc (.cells #[.int .i64 mi, .int .i64 ma, .int .i64 ra, .slice As ns c1, .slice Ac cs.length cc] 49)).heap.size = w.heap.size + 1 := by simp
  go_enter Try.func5, Try.ntmps5
  go_upto_region 1 with fail
  generalize (w.alloc (.cells #[.int .i64 mi, .int .i64 ma, .int .i64 ra, .slice As ns c1, .slice Ac cs.length cc] 49)) = V at *
  have c0 : V.cell? ⟨w.heap.size, 0, none⟩ = some (.int .i64 mi) := g0.cell 0
  have c1x : V.cell? ⟨w.heap.size, 1, none⟩ = some (.int .i64 ma) := g0.cell 1
  have c2 : V.cell? ⟨w.heap.size, 2, none⟩ = some (.int .i64 ra) := g0.cell 2
  have c3 : V.cell? ⟨w.heap.size, 3, none⟩ = some (.slice As ns c1) := g0.cell 3
  have c4 : V.cell? ⟨w.heap.size, 4, none⟩ = some (.slice Ac cs.length cc) := g0.cell 4
  obtain ⟨f, hf⟩ : ∃ f, fitB mi ma ra ns cs.length = f := ⟨_, rfl⟩
  go_wp2_with fail
  refine (fit_any mi ma ra As Ac ns c1 cs.length cc V).mono ?_
  rintro e w1 ⟨rfl, hb1⟩
  rw [hf]
  have hs1 : w.heap.size + 1 ≤ w1.heap.size := by have := hb1.size; have := hb0.size; omega
  have HB := Lib.hid (And.intro (hb0.trans (hb1.mono hb0.size)) (g0.below hb1 (by omega)))
  clear c0 c1x c2 c3 c4 g0 hb0 hb1 hs0
  have c0 : w1.cell? ⟨w.heap.size, 0, none⟩ = some (.int .i64 mi) := HB.out.2.cell 0
  have c1x : w1.cell? ⟨w.heap.size, 1, none⟩ = some (.int .i64 ma) := HB.out.2.cell 1
  have c2 : w1.cell? ⟨w.heap.size, 2, none⟩ = some (.int .i64 ra) := HB.out.2.cell 2
  have c3 : w1.cell? ⟨w.heap.size, 3, none⟩ = some (.slice As ns c1) := HB.out.2.cell 3
  have c4 : w1.cell? ⟨w.heap.size, 4, none⟩ = some (.slice Ac cs.length cc) := HB.out.2.cell 4
  have AW : Hid (∀ W, Below w.heap.size w W → Calls Try.prog 12 #[] W fun e w' => e = .returned (.bool true) ∧ Below W.heap.size W w' ∧ Below w.heap.size w w') := fun W hW => (awake_any W).mono (fun e w' h => ⟨h.1, h.2, hW.trans (h.2.mono hW.size)⟩)
  cases f with
  | false =>
    go_wp2_with fail
    refine (AW.out _ HB.out.1).mono ?_
    rintro e w9 ⟨rfl, _, hb9⟩
    go_wp2_with fail
    go_ret
    exact ⟨by simp, hb9⟩
  | true =>
    have hfit : 0 ≤ mi ∧ mi ≤ ma ∧ ma ≤ 100 ∧ 0 ≤ ra ∧ ra ≤ 100 ∧ ns ≤ 20 ∧ cs.length ≤ 100 := by unfold fitB at hf; exact of_decide_eq_true hf
    clear hf
    have HFIT : Hid (0 ≤ mi ∧ mi ≤ ma ∧ ma ≤ 100 ∧ 0 ≤ ra ∧ ra ≤ 100) := ⟨hfit.1, hfit.2.1, hfit.2.2.1, hfit.2.2.2.1, hfit.2.2.2.2.1⟩
    have hns : ns ≤ 20 := hfit.2.2.2.2.2.1
    have hnc : cs.length ≤ 100 := hfit.2.2.2.2.2.2
    clear hfit
    go_wp2_with fail
    refine (run_lv mi ma ra As ns c1 st Ac cc cs w1 HFIT.out hns hnc (HX.out.1.up HB.out.1) HX.out.2.1 (HX.out.2.2.1.up HB.out.1) HX.out.2.2.2.1 HX.out.2.2.2.2.1).mono ?_
    rintro e w2 ⟨hb2, v, A3, c3x, A4, c4x, A5, c5x, rfl, hF2, ht2, hi2, hp2⟩
    have HOK : Hid (OkR mi ma ra cs.length ns (runK mi ma ra cs st ns)) := runK_ok HFIT.out (by have := HX.out.2.2.2.2.2; omega) ns (by have := HX.out.2.2.2.2.2; omega)
    have HFL : Hid (RunF mi ma st ns (runK mi ma ra cs st ns)) := runK_F HFIT.out (by have := HX.out.2.2.2.2.2; omega) ns (by have := HX.out.2.2.2.2.2; omega)
    obtain ⟨r, hr⟩ : ∃ r, runK mi ma ra cs st ns = r := ⟨_, rfl⟩
    have HRR := Lib.hid hr
    rw [hr] at hF2 ht2 hi2 hp2 HOK HFL ⊢
    clear hr
    obtain ⟨Bv, cv, rfl⟩ := hF2.form
    have hs2 := hb2.size
    have hlt : r.tm.length = ns := HOK.out.ltm
    have hli : r.id.length = ns := HOK.out.lid
    have hlc : r.cp.length = ns := HOK.out.lcp
    rw [hlt] at ht2 ⊢
    rw [hli] at hi2 ⊢
    rw [hlc] at hp2 ⊢
    have HLL := Lib.hid (And.intro hlt (And.intro hli hlc))
    clear hlt hli hlc
    have H2 := Lib.hid (And.intro (HB.out.1.trans (hb2.mono HB.out.1.size)) (And.intro (HB.out.2.below hb2 (by omega)) (And.intro hF2 (And.intro ht2 (And.intro hi2 hp2)))))
    clear hb2 hF2 ht2 hi2 hp2 c0 c1x c2 c3 c4
    unfold lkV
    have hb3 : Below w2.heap.size w2 (w2.alloc (.cells #[.int .i64 r.l.mi, .int .i64 r.l.ma, .int .i64 r.l.ra, .bool r.l.dn, .int .i64 r.l.idle, .int .i64 r.l.nx, .slice Bv r.l.fl.length cv] 26)) := (Below.refl _ _).alloc (Nat.le_refl _) _
    have hz3 : w2.heap.size + 1 ≤ (w2.alloc (.cells #[.int .i64 r.l.mi, .int .i64 r.l.ma, .int .i64 r.l.ra, .bool r.l.dn, .int .i64 r.l.idle, .int .i64 r.l.nx, .slice Bv r.l.fl.length cv] 26)).heap.size := by simp
    have g3 := Blk.new w2 26 #[.int .i64 r.l.mi, .int .i64 r.l.ma, .int .i64 r.l.ra, .bool r.l.dn, .int .i64 r.l.idle, .int .i64 r.l.nx, .slice Bv r.l.fl.length cv]
    have H3 := Lib.hid (And.intro (H2.out.1.trans (hb3.mono H2.out.1.size)) (And.intro (H2.out.2.1.below hb3 (by omega)) (And.intro (H2.out.2.2.1.up hb3) (And.intro (own_below H2.out.2.2.2.2.2 hb3) g3))))
    have hlb : ∀ b, (Value.slice A5 ns c5x).ownBlock = some b → w1.heap.size ≤ b ∧ b < w2.heap.size := fun b hb => ⟨own_block_ge H2.out.2.2.2.2.2 b hb, own_lt H2.out.2.2.2.2.2 b hb⟩
    have HLB := Lib.hid hlb
    clear hb3 g3 hlb
    go_upto_region 4 with fail
    generalize (w2.alloc (.cells #[.int .i64 r.l.mi, .int .i64 r.l.ma, .int .i64 r.l.ra, .bool r.l.dn, .int .i64 r.l.idle, .int .i64 r.l.nx, .slice Bv r.l.fl.length cv] 26)) = V3 at *
    have x0 : V3.cell? ⟨w2.heap.size, 0, none⟩ = some (.int .i64 r.l.mi) := H3.out.2.2.2.2.cell 0
    have x1 : V3.cell? ⟨w2.heap.size, 1, none⟩ = some (.int .i64 r.l.ma) := H3.out.2.2.2.2.cell 1
    have x2 : V3.cell? ⟨w2.heap.size, 2, none⟩ = some (.int .i64 r.l.ra) := H3.out.2.2.2.2.cell 2
    have x3 : V3.cell? ⟨w2.heap.size, 3, none⟩ = some (.bool r.l.dn) := H3.out.2.2.2.2.cell 3
    have x4 : V3.cell? ⟨w2.heap.size, 4, none⟩ = some (.int .i64 r.l.idle) := H3.out.2.2.2.2.cell 4
    have x5 : V3.cell? ⟨w2.heap.size, 5, none⟩ = some (.int .i64 r.l.nx) := H3.out.2.2.2.2.cell 5
    have x6 : V3.cell? ⟨w2.heap.size, 6, none⟩ = some (.slice Bv r.l.fl.length cv) := H3.out.2.2.2.2.cell 6
    have hdl := deliv_lv r.l (SmL.of HOK.out hns) 1073741824 (.slice Bv r.l.fl.length cv) V3 H3.out.2.2.1
    rw [deliv_all HOK.out.ok] at hdl
    unfold lkV at hdl
    go_wp2_with fail
    refine hdl.mono ?_
    clear hdl
    rintro e w4 ⟨hb4, v4, u, rfl, hf4, hp4⟩
    dsimp only at hf4 hp4
    obtain ⟨Bz, cz, rfl⟩ := hf4.form
    clear hf4 x0 x1 x2 x3 x4 x5 x6
    unfold lkV
    dsimp only [List.length_nil]
    have hs4 := hb4.size
    have H4 := Lib.hid (And.intro (H3.out.1.trans (hb4.mono H3.out.1.size)) (And.intro (H3.out.2.1.below hb4 (by omega)) (And.intro (own_below H3.out.2.2.2.1 hb4) (And.intro (H3.out.2.2.2.2.below hb4 (by omega)) hp4))))
    clear hb4 hp4
    go_upto_region 7 with (refine wpList_store_row rfl _ _ _ rfl (w2.heap.size) _ rfl rfl 26 _ H4.out.2.2.2.1 (by kernel_rfl) rfl (by simp [Value.oneCell']) ?_)
    obtain ⟨PP, hPP⟩ : ∃ PP, r.l.fl.map Em.p = PP := ⟨_, rfl⟩
    have hn5 : Blk (w4.setRow w2.heap.size #[.int .i64 r.l.mi, .int .i64 r.l.ma, .int .i64 r.l.ra, .bool r.l.dn, .int .i64 r.l.idle, .int .i64 r.l.nx, .slice Bz 0 cz]) w2.heap.size 26 #[.int .i64 r.l.mi, .int .i64 r.l.ma, .int .i64 r.l.ra, .bool r.l.dn, .int .i64 r.l.idle, .int .i64 r.l.nx, .slice Bz 0 cz] := H4.out.2.2.2.1.setRow _
    have hk5 : ∀ k, k ≠ w2.heap.size → (w4.setRow w2.heap.size #[.int .i64 r.l.mi, .int .i64 r.l.ma, .int .i64 r.l.ra, .bool r.l.dn, .int .i64 r.l.idle, .int .i64 r.l.nx, .slice Bz 0 cz]).heap[k]? = w4.heap[k]? := fun k hk => setRow_other _ _ _ _ hk
    have hz5 : (w4.setRow w2.heap.size #[.int .i64 r.l.mi, .int .i64 r.l.ma, .int .i64 r.l.ra, .bool r.l.dn, .int .i64 r.l.idle, .int .i64 r.l.nx, .slice Bz 0 cz]).heap.size = w4.heap.size := by simp
    have hb5 : Below w.heap.size w (w4.setRow w2.heap.size #[.int .i64 r.l.mi, .int .i64 r.l.ma, .int .i64 r.l.ra, .bool r.l.dn, .int .i64 r.l.idle, .int .i64 r.l.nx, .slice Bz 0 cz]) := below_setRow H4.out.1 (by omega) _
    have hp5 : PlV (w4.setRow w2.heap.size #[.int .i64 r.l.mi, .int .i64 r.l.ma, .int .i64 r.l.ra, .bool r.l.dn, .int .i64 r.l.idle, .int .i64 r.l.nx, .slice Bz 0 cz]) V3.heap.size PP u := by rw [← hPP]; exact H4.out.2.2.2.2.keep (fun g h1 h2 => hk5 g (by omega)) (by omega)
    have hr5 : (w4.setRow w2.heap.size #[.int .i64 r.l.mi, .int .i64 r.l.ma, .int .i64 r.l.ra, .bool r.l.dn, .int .i64 r.l.idle, .int .i64 r.l.nx, .slice Bz 0 cz]).ownsRow w1.heap.size 3 1 (.slice A5 ns c5x) ns (i64s r.cp) := own_keep H4.out.2.2.1 (fun g hg => hk5 g (by have := HLB.out g hg; omega))
    have hg5 : Blk (w4.setRow w2.heap.size #[.int .i64 r.l.mi, .int .i64 r.l.ma, .int .i64 r.l.ra, .bool r.l.dn, .int .i64 r.l.idle, .int .i64 r.l.nx, .slice Bz 0 cz]) w.heap.size 49 #[.int .i64 mi, .int .i64 ma, .int .i64 ra, .slice As ns c1, .slice Ac cs.length cc] := (hk5 _ (by omega)).trans H4.out.2.1
    have xz : (w4.setRow w2.heap.size #[.int .i64 r.l.mi, .int .i64 r.l.ma, .int .i64 r.l.ra, .bool r.l.dn, .int .i64 r.l.idle, .int .i64 r.l.nx, .slice Bz 0 cz]).cell? ⟨w2.heap.size, 6, none⟩ = some (.slice Bz 0 cz) := hn5.cell 6
    generalize (w4.setRow w2.heap.size #[.int .i64 r.l.mi, .int .i64 r.l.ma, .int .i64 r.l.ra, .bool r.l.dn, .int .i64 r.l.idle, .int .i64 r.l.nx, .slice Bz 0 cz]) = V5 at *
    have hs5 : V3.heap.size ≤ V5.heap.size := by omega
    have H5 := Lib.hid (And.intro hb5 (And.intro hp5 (And.intro hr5 hg5)))
    clear hk5 hn5 hb5 hp5 hr5 hg5 hz5
    go_upto_region 9 with fail
    obtain ⟨Au, cu, rfl⟩ := H5.out.2.1.form
    clear xz
    have hPl : PP.length ≤ 40 := by
      rw [← hPP, List.length_map]
      have := HOK.out.fl
      omega
    have HPM : Hid (∀ (i : Nat) (p : List Nat), PP[i]? = some p → ∃ (k : Nat) (x : Sp), k < ns ∧ st[k]? = some x ∧ p = payM x.s k) := by
      intro i p hp
      rw [← hPP, List.getElem?_map] at hp
      cases he : r.l.fl[i]? with
      | none => rw [he] at hp; cases hp
      | some e =>
        rw [he] at hp
        injection hp with hp
        obtain ⟨k, x, I, h1, h2, h3, _⟩ := HFL.out.mem e (List.mem_of_getElem? he)
        exact ⟨k, x, h1, h2, by rw [← hp]; exact h3⟩
    have HCP : Hid (r.cp = remL ns PP 0) := remL_zero HLL.out.2.2 (fun j hj => by rw [← hPP]; exact HFL.out.cnt j hj)
    clear hPP
    have hC0 : CntI w V5 (.slice A5 ns c5x) w1.heap.size ns (remL ns PP 0) V5 := ⟨by rw [← HCP.out]; exact H5.out.2.2.1, fun _ _ _ => rfl, Nat.le_refl _, H5.out.1⟩
    have HC0 := Lib.hid hC0
    clear hC0
    go_wp2_with fail
    go_loopw [9] (fun u9 W => ∃ i : Nat, i ≤ PP.length ∧ u9 = .int .i64 (i : Nat) ∧ CntI w V5 (.slice A5 ns c5x) w1.heap.size ns (remL ns PP i) W) (fun u9 _ => PP.length + 1 - (intOf u9).toNat)
    case atStart => exact ⟨0, by omega, rfl, HC0.out⟩
    case round =>
      obtain ⟨i, hi, rfl, hI⟩ := hrel
      have hsW := hI.size
      have HI := Lib.hid hI
      clear hI
      by_cases hlt : i < PP.length
      · have hlt' : (i : Int) < PP.length := by omega
        obtain ⟨k, x, hk, hx, hpp⟩ := HPM.out i PP[i] (List.getElem?_eq_getElem hlt)
        have hHB : ∀ j, headB j PP[i] = (k == j) := fun j => by rw [hpp, headB_pay]
        have HSU : Hid ((remL ns PP i).set k (((cntH k PP : Nat) : Int) - ((cntH k (PP.take i) : Nat) : Int) - 1) = remL ns PP (i + 1)) := remL_succ (List.getElem?_eq_getElem hlt) hHB
        have hat := remL_at PP i hk
        obtain ⟨b, off, cu', xA, xc, huu, hbw, hc0, hrp⟩ := (HI.out.pl H5.out.2.1 (fun b hb => .inl (by have := HLB.out b hb; omega))).at_ hlt
        injection huu with e1 e2 e3
        subst e1 e3
        have hl1 := cntH_le k PP
        have hl2 : cntH k (PP.take i) ≤ 40 := Nat.le_trans (cntH_le k _) (by rw [List.length_take]; omega)
        clear hHB
        obtain ⟨z, hz⟩ : ∃ z, ((cntH k PP : Nat) : Int) - ((cntH k (PP.take i) : Nat) : Int) = z := ⟨_, rfl⟩
        have hzb : -50 ≤ z ∧ z ≤ 50 := by omega
        rw [hz] at HSU hat
        clear hz hl1 hl2
        rw [hpp] at hc0 hrp
        have hpl := pay_len x.s k
        have hplz : (((payM x.s k).length : Nat) : Int) ≠ 0 := by omega
        obtain ⟨xb, xo, rfl, hxb, hxc⟩ := hrp.plain (by omega) (by omega)
        have hd0 := hxc 0 (.int .u8 (k : Nat)) (by unfold u8s payM; rfl)
        rw [Nat.add_zero] at hd0
        have hk256 : k < 256 := by omega
        have hkl : k < st.length := by have := HX.out.2.2.2.2.2; omega
        obtain ⟨bs, os, hAs, hbs, hcs⟩ := (HX.out.1.up HI.out.bel).elems (E := encSp) (fun _ => rfl) (by omega) (by omega)
        have hxg : st[k] = x := by
          have := List.getElem?_eq_getElem hkl
          rw [hx] at this
          injection this with this
          exact this.symm
        have s0 := hcs k hkl 0 _ rfl
        have s1 := hcs k hkl 1 _ rfl
        have hxx := HX.out.2.1 _ (List.getElem_mem hkl)
        rw [hxg] at s0 s1 hxx
        obtain ⟨xs, xt⟩ := x
        dsimp only at s0 s1 hxx hpp hrp hpl hplz hc0 hxc
        rw [Nat.add_zero] at s0
        rw [← Nat.add_assoc] at s1
        subst hAs
        have gw : Blk wr w.heap.size 49 #[.int .i64 mi, .int .i64 ma, .int .i64 ra, .slice (some ⟨bs, os, none⟩) ns c1, .slice Ac cs.length cc] := (HI.out.keep _ (by omega) (fun e => by have := HLB.out _ e; omega)).trans H5.out.2.2.2
        have c3 : wr.cell? ⟨w.heap.size, 3, none⟩ = some (.slice (some ⟨bs, os, none⟩) ns c1) := gw.cell 3
        clear gw
        obtain ⟨g, cap, cur, hvg, hlg, hBg, _⟩ := own_blk HI.out.row (by omega)
        injection hvg with e1 _ e3
        subst e1 e3
        obtain ⟨p, hp⟩ : ∃ p, payM xs k = p := ⟨_, rfl⟩
        have KP : Hid (∀ W, Calls Try.prog 24 #[.agg #[.int .u8 (xs : Nat), .int .u8 (xt : Nat)], .int .i64 (k : Nat)] W fun e w' => (∃ v, e = .returned v ∧ w'.ownsRow W.heap.size 5 1 v p.length (u8s p)) ∧ Below W.heap.size W w') := fun W => by rw [← hp]; exact payload_any xs xt k W hxx.1 hk256
        rw [hp] at hc0 hrp hpl hplz
        have hplb : p.length ≤ 9 := by have := Nat.mod_lt xs (show 0 < 9 by omega); omega
        clear hp hpp hxc hcs hpl
        obtain ⟨pl, hpp⟩ : ∃ pl, p.length = pl := ⟨_, rfl⟩
        have HPL := Lib.hid hpp
        rw [hpp] at hc0 hplz hplb hrp
        have kz : ((pl : Int) == 0) = false := by rw [beq_eq_false_iff_ne]; exact hplz
        have kd : decide ((pl : Int) = 0) = false := decide_eq_false hplz
        have kn : ((k : Nat) : Int) < ns := by omega
        have kge : decide (((ns : Nat) : Int) ≤ ((k : Nat) : Int)) = false := decide_eq_false (by omega)
        have kge2 : decide (ns ≤ k) = false := decide_eq_false (by omega)
        have kp0 : (0 : Int) < pl := by omega
        have kpN : 0 < pl := by omega
        have knN : k < ns := hk
        have kw1 : IntKind.i64.wrap ((k : Nat) : Int) = ((k : Nat) : Int) := IntWalk.i64_in _ (by omega)
        have kw2 : IntKind.i64.wrap (z - 1) = z - 1 := IntWalk.i64_in _ (by omega)
        clear hpp
        go_upto_region 12 with fail
        have hlw : w.heap.size < wr.heap.size := by omega
        refine wp_pan (Pc := fun _ _ _ => False) (fun _ _ _ h => h.elim) ?_
        refine wp_region_tail_lit (S := fun V => V.cell? ⟨b, off + i, none⟩ = some (.slice (some ⟨xb, xo, none⟩) pl xc) ∧ V.cell? ⟨xb, xo, none⟩ = some (.int .u8 (k : Nat)) ∧ V.cell? ⟨bs, os + k * 2, none⟩ = some (.int .u8 (xs : Nat)) ∧ V.cell? ⟨bs, os + k * 2 + 1, none⟩ = some (.int .u8 (xt : Nat)) ∧ V.cell? ⟨w.heap.size, 3, none⟩ = some (.slice (some ⟨bs, os, none⟩) ns c1) ∧ Reads V V.heap.size 1 (some ⟨xb, xo, none⟩) pl (u8s p)) 45 (by kernel_rfl) (by kernel_rfl) ⟨(((Below.refl wr.heap.size wr).drew).cell (p := ⟨b, off + i, none⟩) hbw).trans hc0, (((Below.refl wr.heap.size wr).drew).cell (p := ⟨xb, xo, none⟩) hxb).trans hd0, (((Below.refl wr.heap.size wr).drew).cell (p := ⟨bs, os + k * 2, none⟩) hbs).trans s0, (((Below.refl wr.heap.size wr).drew).cell (p := ⟨bs, os + k * 2 + 1, none⟩) hbs).trans s1, (((Below.refl wr.heap.size wr).drew).cell (p := ⟨w.heap.size, 3, none⟩) hlw).trans c3, hrp.up ((Below.refl wr.heap.size wr).drew)⟩ (fun hHeld => ?_)
        simp only [List.take, List.drop]
        refine wpAnyH_take (i := 0) (oi := _) (v := ?_) rfl (by kernel_rfl) (by kernel_rfl) (by kernel_rfl) (fun _ _ _ h => h) (Or.inl ⟨by rfl, ?_⟩) (by assumption) ?_
        rotate_left 1
        · (intro w9 hS9; (try dsimp only at hS9); go_simp <;> with_reducible rfl)
        try simp only [List.getElem_toArray, List.getElem_cons_succ, List.getElem_cons_zero, Act.put, List.setIfInBounds_toArray, List.set_cons_zero, List.set_cons_succ]
        refine wpAnyH_take (i := 1) (oi := _) (v := ?_) rfl (by kernel_rfl) (by kernel_rfl) (by kernel_rfl) (fun _ _ _ h => h) (Or.inl ⟨by rfl, ?_⟩) (by assumption) ?_
        rotate_left 1
        · (intro w9 hS9; (try dsimp only at hS9); go_simp <;> with_reducible rfl)
        try simp only [List.getElem_toArray, List.getElem_cons_succ, List.getElem_cons_zero, Act.put, List.setIfInBounds_toArray, List.set_cons_zero, List.set_cons_succ]
        refine wpAnyH_take (i := 2) (oi := _) (v := ?_) rfl (by kernel_rfl) (by kernel_rfl) (by kernel_rfl) (fun _ _ _ h => h) (Or.inl ⟨by rfl, ?_⟩) (by assumption) ?_
        rotate_left 1
        · (intro w9 hS9; (try dsimp only at hS9); go_simp <;> with_reducible rfl)
        try simp only [List.getElem_toArray, List.getElem_cons_succ, List.getElem_cons_zero, Act.put, List.setIfInBounds_toArray, List.set_cons_zero, List.set_cons_succ]
        refine wpAnyH_take (i := 3) (oi := _) (v := ?_) rfl (by kernel_rfl) (by kernel_rfl) (by kernel_rfl) (fun _ _ _ h => h) (Or.inl ⟨by rfl, ?_⟩) (by assumption) ?_
        rotate_left 1
        · (intro w9 hS9; (try dsimp only at hS9); go_simp <;> with_reducible rfl)
        try simp only [List.getElem_toArray, List.getElem_cons_succ, List.getElem_cons_zero, Act.put, List.setIfInBounds_toArray, List.set_cons_zero, List.set_cons_succ]
        refine wpAnyH_take (i := 4) (oi := _) (v := ?_) rfl (by kernel_rfl) (by kernel_rfl) (by kernel_rfl) (fun _ _ _ h => h) (Or.inl ⟨by rfl, ?_⟩) (by assumption) ?_
        rotate_left 1
        · (intro w9 hS9; (try dsimp only at hS9); go_simp <;> with_reducible rfl)
        try simp only [List.getElem_toArray, List.getElem_cons_succ, List.getElem_cons_zero, Act.put, List.setIfInBounds_toArray, List.set_cons_zero, List.set_cons_succ]
        refine wpAnyH_take (i := 5) (oi := _) (v := ?_) rfl (by kernel_rfl) (by kernel_rfl) (by kernel_rfl) (fun _ _ _ h => h) (Or.inl ⟨by rfl, ?_⟩) (by assumption) ?_
        rotate_left 1
        · (intro w9 hS9; (try dsimp only at hS9); go_simp <;> with_reducible rfl)
        try simp only [List.getElem_toArray, List.getElem_cons_succ, List.getElem_cons_zero, Act.put, List.setIfInBounds_toArray, List.set_cons_zero, List.set_cons_succ]
        refine wpAnyH_take (i := 6) (oi := _) (v := ?_) rfl (by kernel_rfl) (by kernel_rfl) (by kernel_rfl) (fun _ _ _ h => h) (Or.inl ⟨by rfl, ?_⟩) (by assumption) ?_
        rotate_left 1
        · (intro w9 hS9; (try dsimp only at hS9); go_simp <;> with_reducible rfl)
        try simp only [List.getElem_toArray, List.getElem_cons_succ, List.getElem_cons_zero, Act.put, List.setIfInBounds_toArray, List.set_cons_zero, List.set_cons_succ]
        refine wpAnyH_take (i := 7) (oi := _) (v := ?_) rfl (by kernel_rfl) (by kernel_rfl) (by kernel_rfl) (fun _ _ _ h => h) (Or.inl ⟨by rfl, ?_⟩) (by assumption) ?_
        rotate_left 1
        · (intro w9 hS9; (try dsimp only at hS9); go_simp <;> with_reducible rfl)
        try simp only [List.getElem_toArray, List.getElem_cons_succ, List.getElem_cons_zero, Act.put, List.setIfInBounds_toArray, List.set_cons_zero, List.set_cons_succ]
        refine wpAnyH_take (i := 8) (oi := _) (v := ?_) rfl (by kernel_rfl) (by kernel_rfl) (by kernel_rfl) (fun _ _ _ h => h) (Or.inl ⟨by rfl, ?_⟩) (by assumption) ?_
        rotate_left 1
        · (intro w9 hS9; (try dsimp only at hS9); go_simp <;> with_reducible rfl)
        try simp only [List.getElem_toArray, List.getElem_cons_succ, List.getElem_cons_zero, Act.put, List.setIfInBounds_toArray, List.set_cons_zero, List.set_cons_succ]
        refine wpAnyH_take (i := 9) (oi := _) (v := ?_) rfl (by kernel_rfl) (by kernel_rfl) (by kernel_rfl) (fun _ _ _ h => h) (Or.inl ⟨by rfl, ?_⟩) (by assumption) ?_
        rotate_left 1
        · (intro w9 hS9; (try dsimp only at hS9); go_simp <;> with_reducible rfl)
        try simp only [List.getElem_toArray, List.getElem_cons_succ, List.getElem_cons_zero, Act.put, List.setIfInBounds_toArray, List.set_cons_zero, List.set_cons_succ]
        refine wpAnyH_take (i := 10) (oi := _) (v := ?_) rfl (by kernel_rfl) (by kernel_rfl) (by kernel_rfl) (fun _ _ _ h => h) (Or.inl ⟨by rfl, ?_⟩) (by assumption) ?_
        rotate_left 1
        · (intro w9 hS9; (try dsimp only at hS9); go_simp <;> with_reducible rfl)
        try simp only [List.getElem_toArray, List.getElem_cons_succ, List.getElem_cons_zero, Act.put, List.setIfInBounds_toArray, List.set_cons_zero, List.set_cons_succ]
        refine wpAnyH_take (i := 11) (oi := _) (v := ?_) rfl (by kernel_rfl) (by kernel_rfl) (by kernel_rfl) (fun _ _ _ h => h) (Or.inl ⟨by rfl, ?_⟩) (by assumption) ?_
        rotate_left 1
        · (intro w9 hS9; (try dsimp only at hS9); go_simp <;> with_reducible rfl)
        try simp only [List.getElem_toArray, List.getElem_cons_succ, List.getElem_cons_zero, Act.put, List.setIfInBounds_toArray, List.set_cons_zero, List.set_cons_succ]
        refine wpAnyH_take (i := 12) (oi := _) (v := ?_) rfl (by kernel_rfl) (by kernel_rfl) (by kernel_rfl) (fun _ _ _ h => h) (Or.inl ⟨by rfl, ?_⟩) (by assumption) ?_
        rotate_left 1
        · (intro w9 hS9; (try dsimp only at hS9); go_simp <;> with_reducible rfl)
        try simp only [List.getElem_toArray, List.getElem_cons_succ, List.getElem_cons_zero, Act.put, List.setIfInBounds_toArray, List.set_cons_zero, List.set_cons_succ]
        refine wpAnyH_take (i := 13) (oi := _) (v := ?_) rfl (by kernel_rfl) (by kernel_rfl) (by kernel_rfl) (fun _ _ _ h => h) (Or.inl ⟨by rfl, ?_⟩) (by assumption) ?_
        rotate_left 1
        · (intro w9 hS9; (try dsimp only at hS9); go_simp <;> with_reducible rfl)
        try simp only [List.getElem_toArray, List.getElem_cons_succ, List.getElem_cons_zero, Act.put, List.setIfInBounds_toArray, List.set_cons_zero, List.set_cons_succ]
        refine wpAnyH_take (i := 14) (oi := _) (v := ?_) rfl (by kernel_rfl) (by kernel_rfl) (by kernel_rfl) (fun _ _ _ h => h) (Or.inl ⟨by rfl, ?_⟩) (by assumption) ?_
        rotate_left 1
        · (intro w9 hS9; (try dsimp only at hS9); go_simp <;> with_reducible rfl)
        try simp only [List.getElem_toArray, List.getElem_cons_succ, List.getElem_cons_zero, Act.put, List.setIfInBounds_toArray, List.set_cons_zero, List.set_cons_succ]
        refine wpAnyH_take (i := 15) (oi := _) (v := ?_) rfl (by kernel_rfl) (by kernel_rfl) (by kernel_rfl) (fun _ _ _ h => h) (Or.inl ⟨by rfl, ?_⟩) (by assumption) ?_
        rotate_left 1
        · (intro w9 hS9; (try dsimp only at hS9); go_simp <;> with_reducible rfl)
        try simp only [List.getElem_toArray, List.getElem_cons_succ, List.getElem_cons_zero, Act.put, List.setIfInBounds_toArray, List.set_cons_zero, List.set_cons_succ]
        refine wpAnyH_take (i := 16) (oi := _) (v := ?_) rfl (by kernel_rfl) (by kernel_rfl) (by kernel_rfl) (fun _ _ _ h => h) (Or.inl ⟨by rfl, ?_⟩) (by assumption) ?_
        rotate_left 1
        · (intro w9 hS9; (try dsimp only at hS9); go_simp <;> with_reducible rfl)
        try simp only [List.getElem_toArray, List.getElem_cons_succ, List.getElem_cons_zero, Act.put, List.setIfInBounds_toArray, List.set_cons_zero, List.set_cons_succ]
        refine wpAnyH_take (i := 17) (oi := _) (v := ?_) rfl (by kernel_rfl) (by kernel_rfl) (by kernel_rfl) (fun _ _ _ h => h) (Or.inl ⟨by rfl, ?_⟩) (by assumption) ?_
        rotate_left 1
        · (intro w9 hS9; (try dsimp only at hS9); go_simp <;> with_reducible rfl)
        try simp only [List.getElem_toArray, List.getElem_cons_succ, List.getElem_cons_zero, Act.put, List.setIfInBounds_toArray, List.set_cons_zero, List.set_cons_succ]
        refine wpAnyH_take (i := 18) (oi := _) (v := ?_) rfl (by kernel_rfl) (by kernel_rfl) (by kernel_rfl) (fun _ _ _ h => h) (Or.inl ⟨by rfl, ?_⟩) (by assumption) ?_
        rotate_left 1
        · (intro w9 hS9; (try dsimp only at hS9); go_simp <;> with_reducible rfl)
        try simp only [List.getElem_toArray, List.getElem_cons_succ, List.getElem_cons_zero, Act.put, List.setIfInBounds_toArray, List.set_cons_zero, List.set_cons_succ]
        refine wpAnyH_take (i := 19) (oi := _) (v := ?_) rfl (by kernel_rfl) (by kernel_rfl) (by kernel_rfl) (fun _ _ _ h => h) (Or.inl ⟨by rfl, ?_⟩) (by assumption) ?_
        rotate_left 1
        · (intro w9 hS9; (try dsimp only at hS9); go_simp <;> with_reducible rfl)
        try simp only [List.getElem_toArray, List.getElem_cons_succ, List.getElem_cons_zero, Act.put, List.setIfInBounds_toArray, List.set_cons_zero, List.set_cons_succ]
        refine wpAnyH_take (i := 20) (oi := _) (v := ?_) rfl (by kernel_rfl) (by kernel_rfl) (by kernel_rfl) (fun _ _ _ h => h) (Or.inl ⟨by rfl, ?_⟩) (by assumption) ?_
        rotate_left 1
        · (intro w9 hS9; (try dsimp only at hS9); go_simp <;> with_reducible rfl)
        try simp only [List.getElem_toArray, List.getElem_cons_succ, List.getElem_cons_zero, Act.put, List.setIfInBounds_toArray, List.set_cons_zero, List.set_cons_succ]
        refine wpAnyH_take (i := 21) (oi := _) (v := ?_) rfl (by kernel_rfl) (by kernel_rfl) (by kernel_rfl) (fun _ _ _ h => h) (Or.inl ⟨by rfl, ?_⟩) (by assumption) ?_
        rotate_left 1
        · (intro w9 hS9; (try dsimp only at hS9); go_simp <;> with_reducible rfl)
        try simp only [List.getElem_toArray, List.getElem_cons_succ, List.getElem_cons_zero, Act.put, List.setIfInBounds_toArray, List.set_cons_zero, List.set_cons_succ]
        refine wpAnyH_take (i := 22) (oi := _) (v := ?_) rfl (by kernel_rfl) (by kernel_rfl) (by kernel_rfl) (fun _ _ _ h => h) (Or.inl ⟨by rfl, ?_⟩) (by assumption) ?_
        rotate_left 1
        · (intro w9 hS9; (try dsimp only at hS9); go_simp <;> with_reducible rfl)
        try simp only [List.getElem_toArray, List.getElem_cons_succ, List.getElem_cons_zero, Act.put, List.setIfInBounds_toArray, List.set_cons_zero, List.set_cons_succ]
        refine wpAnyH_take (i := 23) (oi := _) (v := ?_) rfl (by kernel_rfl) (by kernel_rfl) (by kernel_rfl) (fun _ _ _ h => h) (Or.inl ⟨by rfl, ?_⟩) (by assumption) ?_
        rotate_left 1
        · (intro w9 hS9; (try dsimp only at hS9); have r1 := run_str w9 _ xc _ p (by have h9 := hS9.2.2.2.2.2; exact h9); go_simp <;> with_reducible rfl)
        try simp only [List.getElem_toArray, List.getElem_cons_succ, List.getElem_cons_zero, Act.put, List.setIfInBounds_toArray, List.set_cons_zero, List.set_cons_succ]
        refine wpAnyH_take (i := 24) (oi := _) (v := ?_) rfl (by kernel_rfl) (by kernel_rfl) (by kernel_rfl) (fun _ _ _ h => h) (Or.inl ⟨by rfl, ?_⟩) (by assumption) ?_
        rotate_left 1
        · (intro w9 hS9; (try dsimp only at hS9); go_simp <;> with_reducible rfl)
        try simp only [List.getElem_toArray, List.getElem_cons_succ, List.getElem_cons_zero, Act.put, List.setIfInBounds_toArray, List.set_cons_zero, List.set_cons_succ]
        refine wpAnyH_take (i := 25) (oi := _) (v := ?_) rfl (by kernel_rfl) (by kernel_rfl) (by kernel_rfl) (fun _ _ _ h => h) (Or.inl ⟨by rfl, ?_⟩) (by assumption) ?_
        rotate_left 1
        · (intro w9 hS9; (try dsimp only at hS9); go_simp <;> with_reducible rfl)
        try simp only [List.getElem_toArray, List.getElem_cons_succ, List.getElem_cons_zero, Act.put, List.setIfInBounds_toArray, List.set_cons_zero, List.set_cons_succ]
        refine wpAnyH_take (i := 26) (oi := _) (v := ?_) rfl (by kernel_rfl) (by kernel_rfl) (by kernel_rfl) (fun _ _ _ h => h) (Or.inl ⟨by rfl, ?_⟩) (by assumption) ?_
        rotate_left 1
        · (intro w9 hS9; (try dsimp only at hS9); go_simp <;> with_reducible rfl)
        try simp only [List.getElem_toArray, List.getElem_cons_succ, List.getElem_cons_zero, Act.put, List.setIfInBounds_toArray, List.set_cons_zero, List.set_cons_succ]
        refine wpAnyH_take (i := 27) (oi := _) (v := ?_) rfl (by kernel_rfl) (by kernel_rfl) (by kernel_rfl) (fun _ _ _ h => h) (Or.inl ⟨by rfl, ?_⟩) (by assumption) ?_
        rotate_left 1
        · (intro w9 hS9; (try dsimp only at hS9); go_simp <;> with_reducible rfl)
        try simp only [List.getElem_toArray, List.getElem_cons_succ, List.getElem_cons_zero, Act.put, List.setIfInBounds_toArray, List.set_cons_zero, List.set_cons_succ]
        refine wpAnyH_take (i := 28) (oi := _) (v := ?_) rfl (by kernel_rfl) (by kernel_rfl) (by kernel_rfl) (fun _ _ _ h => h) (Or.inl ⟨by rfl, ?_⟩) (by assumption) ?_
        rotate_left 1
        · (intro w9 hS9; (try dsimp only at hS9); go_simp <;> with_reducible rfl)
        try simp only [List.getElem_toArray, List.getElem_cons_succ, List.getElem_cons_zero, Act.put, List.setIfInBounds_toArray, List.set_cons_zero, List.set_cons_succ]
        refine wpAnyH_take (i := 29) (oi := _) (v := ?_) rfl (by kernel_rfl) (by kernel_rfl) (by kernel_rfl) (fun _ _ _ h => h) (Or.inl ⟨by rfl, ?_⟩) (by assumption) ?_
        rotate_left 1
        · (intro w9 hS9; (try dsimp only at hS9); go_simp <;> with_reducible rfl)
        try simp only [List.getElem_toArray, List.getElem_cons_succ, List.getElem_cons_zero, Act.put, List.setIfInBounds_toArray, List.set_cons_zero, List.set_cons_succ]
        refine wpAnyH_take (i := 30) (oi := _) (v := ?_) rfl (by kernel_rfl) (by kernel_rfl) (by kernel_rfl) (fun _ _ _ h => h) (Or.inl ⟨by rfl, ?_⟩) (by assumption) ?_
        rotate_left 1
        · (intro w9 hS9; (try dsimp only at hS9); go_simp <;> with_reducible rfl)
        try simp only [List.getElem_toArray, List.getElem_cons_succ, List.getElem_cons_zero, Act.put, List.setIfInBounds_toArray, List.set_cons_zero, List.set_cons_succ]
        refine wpAnyH_take (i := 31) (oi := _) (v := ?_) rfl (by kernel_rfl) (by kernel_rfl) (by kernel_rfl) (fun _ _ _ h => h) (Or.inl ⟨by rfl, ?_⟩) (by assumption) ?_
        rotate_left 1
        · (intro w9 hS9; (try dsimp only at hS9); go_simp <;> with_reducible rfl)
        try simp only [List.getElem_toArray, List.getElem_cons_succ, List.getElem_cons_zero, Act.put, List.setIfInBounds_toArray, List.set_cons_zero, List.set_cons_succ]
        refine wpAnyH_take (i := 32) (oi := _) (v := ?_) rfl (by kernel_rfl) (by kernel_rfl) (by kernel_rfl) (fun _ _ _ h => h) (Or.inl ⟨by rfl, ?_⟩) (by assumption) ?_
        rotate_left 1
        · (intro w9 hS9; (try dsimp only at hS9); go_simp <;> with_reducible rfl)
        try simp only [List.getElem_toArray, List.getElem_cons_succ, List.getElem_cons_zero, Act.put, List.setIfInBounds_toArray, List.set_cons_zero, List.set_cons_succ]
        refine wpAnyH_take (i := 33) (oi := _) (v := ?_) rfl (by kernel_rfl) (by kernel_rfl) (by kernel_rfl) (fun _ _ _ h => h) (Or.inl ⟨by rfl, ?_⟩) (by assumption) ?_
        rotate_left 1
        · (intro w9 hS9; (try dsimp only at hS9); go_simp <;> with_reducible rfl)
        try simp only [List.getElem_toArray, List.getElem_cons_succ, List.getElem_cons_zero, Act.put, List.setIfInBounds_toArray, List.set_cons_zero, List.set_cons_succ]
        refine wpAnyH_take (i := 34) (oi := _) (v := ?_) rfl (by kernel_rfl) (by kernel_rfl) (by kernel_rfl) (fun _ _ _ h => h) (Or.inl ⟨by rfl, ?_⟩) (by assumption) ?_
        rotate_left 1
        · (intro w9 hS9; (try dsimp only at hS9); go_simp <;> with_reducible rfl)
        try simp only [List.getElem_toArray, List.getElem_cons_succ, List.getElem_cons_zero, Act.put, List.setIfInBounds_toArray, List.set_cons_zero, List.set_cons_succ]
        refine wpAnyH_take (i := 35) (oi := _) (v := ?_) rfl (by kernel_rfl) (by kernel_rfl) (by kernel_rfl) (fun _ _ _ h => h) (Or.inl ⟨by rfl, ?_⟩) (by assumption) ?_
        rotate_left 1
        · (intro w9 hS9; (try dsimp only at hS9); go_simp <;> with_reducible rfl)
        try simp only [List.getElem_toArray, List.getElem_cons_succ, List.getElem_cons_zero, Act.put, List.setIfInBounds_toArray, List.set_cons_zero, List.set_cons_succ]
        refine wpAnyH_take (i := 36) (oi := _) (v := ?_) rfl (by kernel_rfl) (by kernel_rfl) (by kernel_rfl) (fun _ _ _ h => h) (Or.inl ⟨by rfl, ?_⟩) (by assumption) ?_
        rotate_left 1
        · (intro w9 hS9; (try dsimp only at hS9); go_simp <;> with_reducible rfl)
        try simp only [List.getElem_toArray, List.getElem_cons_succ, List.getElem_cons_zero, Act.put, List.setIfInBounds_toArray, List.set_cons_zero, List.set_cons_succ]
        refine wpAnyH_take (i := 37) (oi := _) (v := ?_) rfl (by kernel_rfl) (by kernel_rfl) (by kernel_rfl) (fun _ _ _ h => h) (Or.inl ⟨by rfl, ?_⟩) (by assumption) ?_
        rotate_left 1
        · (intro w9 hS9; (try dsimp only at hS9); go_simp <;> with_reducible rfl)
        try simp only [List.getElem_toArray, List.getElem_cons_succ, List.getElem_cons_zero, Act.put, List.setIfInBounds_toArray, List.set_cons_zero, List.set_cons_succ]
        refine wpAnyH_take (i := 38) (oi := _) (v := ?_) rfl (by kernel_rfl) (by kernel_rfl) (by kernel_rfl) (fun _ _ _ h => h) (Or.inl ⟨by rfl, ?_⟩) (by assumption) ?_
        rotate_left 1
        · (intro w9 hS9; (try dsimp only at hS9); go_simp <;> with_reducible rfl)
        try simp only [List.getElem_toArray, List.getElem_cons_succ, List.getElem_cons_zero, Act.put, List.setIfInBounds_toArray, List.set_cons_zero, List.set_cons_succ]
        refine wpAnyH_take (i := 39) (oi := _) (v := ?_) rfl (by kernel_rfl) (by kernel_rfl) (by kernel_rfl) (fun _ _ _ h => h) (Or.inl ⟨by rfl, ?_⟩) (by assumption) ?_
        rotate_left 1
        · (intro w9 hS9; (try dsimp only at hS9); go_simp <;> with_reducible rfl)
        try simp only [List.getElem_toArray, List.getElem_cons_succ, List.getElem_cons_zero, Act.put, List.setIfInBounds_toArray, List.set_cons_zero, List.set_cons_succ]
        refine wpAnyH_take (i := 40) (oi := _) (v := ?_) rfl (by kernel_rfl) (by kernel_rfl) (by kernel_rfl) (fun _ _ _ h => h) (Or.inl ⟨by rfl, ?_⟩) (by assumption) ?_
        rotate_left 1
        · (intro w9 hS9; (try dsimp only at hS9); go_simp <;> with_reducible rfl)
        try simp only [List.getElem_toArray, List.getElem_cons_succ, List.getElem_cons_zero, Act.put, List.setIfInBounds_toArray, List.set_cons_zero, List.set_cons_succ]
        refine wpAnyH_ready (rs := [41]) (by kernel_rfl) (by simp) ?_
        refine AllReadyH.cons (o := _) rfl (fun K hK => ?_) AllReadyH.nil
        try simp only [List.getElem_toArray, List.getElem_cons_succ, List.getElem_cons_zero]
        try rw [if_pos (show Region.wanted _ _ = true from rfl)]
        go_simp
        refine (KP.out wr.drew).mono ?_
        rintro e wz ⟨⟨vz, rfl, hvz⟩, hbz⟩
        obtain ⟨Az, cz9, rfl, _, _, hrz⟩ := own_slice hvz
        have hwz : Below wr.heap.size wr wz := ((Below.refl _ wr).drew).trans hbz
        clear hbz hvz
        go_wp2_with fail
        refine hK.out _ _ ⟨(hwz.cell (p := ⟨b, off + i, none⟩) hbw).trans hc0, (hwz.cell (p := ⟨xb, xo, none⟩) hxb).trans hd0, (hwz.cell (p := ⟨bs, os + k * 2, none⟩) hbs).trans s0, (hwz.cell (p := ⟨bs, os + k * 2 + 1, none⟩) hbs).trans s1, (hwz.cell (p := ⟨w.heap.size, 3, none⟩) hlw).trans c3, hrp.up hwz⟩ (fun hHeld => ?_)
        clear hK K
        try simp only [List.getElem_toArray, List.getElem_cons_succ, List.getElem_cons_zero, Act.put, List.setIfInBounds_toArray, List.set_cons_zero, List.set_cons_succ]
        refine wpAnyH_ready (rs := [42]) (by kernel_rfl) (by simp) ?_
        refine AllReadyH.cons (o := _) rfl (fun K hK => ?_) AllReadyH.nil
        try simp only [List.getElem_toArray, List.getElem_cons_succ, List.getElem_cons_zero]
        try rw [if_pos (show Region.wanted _ _ = true from rfl)]
        have r2 := run_str wz _ cz9 Az p hrz
        go_simp
        refine hK.out _ _ ⟨(hwz.cell (p := ⟨b, off + i, none⟩) hbw).trans hc0, (hwz.cell (p := ⟨xb, xo, none⟩) hxb).trans hd0, (hwz.cell (p := ⟨bs, os + k * 2, none⟩) hbs).trans s0, (hwz.cell (p := ⟨bs, os + k * 2 + 1, none⟩) hbs).trans s1, (hwz.cell (p := ⟨w.heap.size, 3, none⟩) hlw).trans c3, hrp.up hwz⟩ (fun hHeld => ?_)
        clear hK K
        try simp only [List.getElem_toArray, List.getElem_cons_succ, List.getElem_cons_zero, Act.put, List.setIfInBounds_toArray, List.set_cons_zero, List.set_cons_succ]
        refine wpAnyH_take (i := 43) (oi := _) (v := ?_) rfl (by kernel_rfl) (by kernel_rfl) (by kernel_rfl) (fun _ _ _ h => h) (Or.inl ⟨by rfl, ?_⟩) (by assumption) ?_
        rotate_left 1
        · (intro w9 hS9; (try dsimp only at hS9); go_simp <;> with_reducible rfl)
        try simp only [List.getElem_toArray, List.getElem_cons_succ, List.getElem_cons_zero, Act.put, List.setIfInBounds_toArray, List.set_cons_zero, List.set_cons_succ]
        refine wpAnyH_take (i := 44) (oi := _) (v := ?_) rfl (by kernel_rfl) (by kernel_rfl) (by kernel_rfl) (fun _ _ _ h => h) (Or.inl ⟨by rfl, ?_⟩) (by assumption) ?_
        rotate_left 1
        · (intro w9 hS9; (try dsimp only at hS9); go_simp <;> with_reducible rfl)
        try simp only [List.getElem_toArray, List.getElem_cons_succ, List.getElem_cons_zero, Act.put, List.setIfInBounds_toArray, List.set_cons_zero, List.set_cons_succ]
        refine wpAnyH_done (by kernel_rfl) ?_ _
        refine tailQ_nil (panQ_normal ?_)
        have HI2 := Lib.hid (HI.out.below hwz)
        obtain ⟨cur2, hB2⟩ : ∃ cur2, Blk wz g 3 cur2 := ⟨_, hBg.below hwz hBg.lt⟩
        have f0 : wz.frozen? ⟨g, k, none⟩ = false := hB2.frozen k
        obtain ⟨bb, oo, hAA, _, hcc2⟩ := (Reads.of_own HI2.out.row).plain (by omega) (by omega)
        injection hAA with hAA
        injection hAA with e1 e2
        subst e1 e2
        have z0 := hcc2 k (.int .i64 z) (by unfold i64s; rw [List.getElem?_map, hat]; rfl)
        rw [Nat.zero_add] at z0
        have p0 := (hwz.cell (p := ⟨b, off + i, none⟩) hbw).trans hc0
        have p1 := (hwz.cell (p := ⟨xb, xo, none⟩) hxb).trans hd0
        clear hcc2 hBg hB2 hd0 hc0 s0 s1 c3 hrp hrz r2
        go_wp2_with fail
        go_roundw
        case rel =>
          refine ⟨i + 1, by omega, by go_num, ?_⟩
          rw [← HSU.out]
          exact HI2.out.set (by omega) k (z - 1)
        case measure => simp [intOf]; omega
      · obtain rfl : i = PP.length := by omega
        have hlt' : ¬ ((PP.length : Nat) : Int) < PP.length := by omega
        generalize wr = wE at *
        go_wp2_with fail
        go_loopw [10] (fun u10 W => ∃ j : Nat, j ≤ ns ∧ u10 = .int .i64 (j : Nat) ∧ Below wE.heap.size wE W) (fun u10 _ => ns + 1 - (intOf u10).toNat)
        case atStart => exact ⟨0, by omega, rfl, Below.refl _ _⟩
        case round =>
          obtain ⟨j, hj, rfl, hbq⟩ := hrel
          have HQ := Lib.hid (HI.out.below hbq)
          by_cases hjn : j < ns
          · have hjn' : (j : Int) < ns := by omega
            have hat := remL_end PP hjn
            obtain ⟨A9, c9, hv9, _, _, hr9⟩ := own_slice HQ.out.row
            injection hv9 with e1 _ e3
            subst e1 e3
            obtain ⟨bb, oo, hAA, _, hcc2⟩ := hr9.plain (by omega) (by omega)
            subst hAA
            have z0 := hcc2 j (.int .i64 0) (by unfold i64s; rw [List.getElem?_map, hat]; rfl)
            clear hcc2 hr9
            go_wp2_with fail
            go_roundw
            case rel => exact ⟨j + 1, by omega, by go_num, (by assumption)⟩
            case measure => simp [intOf]; omega
          · obtain rfl : j = ns := by omega
            have hjn' : ¬ (j : Int) < j := by omega
            go_wp2_with fail
            refine (AW.out _ HQ.out.bel).mono ?_
            rintro e w9 ⟨rfl, _, hb9⟩
            go_wp2_with fail
            go_ret
            exact ⟨by simp, hb9⟩
end Go.Proofs.Ytjaoppopfeonhaa
