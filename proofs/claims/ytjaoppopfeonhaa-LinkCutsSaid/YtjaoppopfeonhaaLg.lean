/- The walk of the law LinkCuts. No condition. -/
import Derived.Test.YtjaoppopfeonhaaXg
import Derived.Test.YtjaoppopfeonhaaMathI
namespace Go.Proofs.Ytjaoppopfeonhaa
open Go.RowKit
theorem FlV.empty {W W' : World} {low : Nat} {v : Value} (h : FlV W low [] v) : FlV W' 0 [] v := by
  obtain ⟨A, c, es, rfl, _, h3, h4, h5, _⟩ := h.val
  have he : es = [] := by cases es with
    | nil => rfl
    | cons x l => cases h3
  subst he
  exact ⟨A, c, [], rfl, ⟨⟨rfl, fun h => absurd h (by simp)⟩, nofun⟩, rfl, h4, h5, fun ad h => absurd h (by simp), nofun⟩
set_option linter.unusedSimpArgs false in
set_option maxRecDepth 100000 in
set_option maxHeartbeats 16000000 in
theorem walkLinkCuts (w : World) (v0 v1 : Value) (h0 : Arg49 w v0) (h1 : Arg59 w v1) : Calls Try.prog 10 #[v0, v1] w fun e w' => e = .returned (.bool true) ∧ Below w.heap.size w w' := by
  obtain ⟨mi, ma, ra, As, ns, c1, st, Ac, cc, cs, rfl, hS, hst, hnc1, hc1m, hC, hcc, hccm⟩ := h0
  obtain ⟨now, rfl, hnow⟩ := h1
  have hlen : st.length = ns := hS.count (fun _ => rfl) (by omega)
  have HX := Lib.hid (And.intro hS (And.intro hst (And.intro hC (And.intro hcc (And.intro hccm hlen)))))
  clear hS hst hC hcc hccm hlen hnc1 hc1m
  have hb0 : Below w.heap.size w (w.alloc (.cells #[.int .i64 mi, .int .i64 ma, .int .i64 ra, .slice As ns c1, .slice Ac cs.length cc] 49)) := ((Below.refl _ _).alloc (Nat.le_refl _) _)
  have g0 : Blk (w.alloc (.cells #[.int .i64 mi, .int .i64 ma, .int .i64 ra, .slice As ns c1, .slice Ac cs.length cc] 49)) w.heap.size 49 #[.int .i64 mi, .int .i64 ma, .int .i64 ra, .slice As ns c1, .slice Ac cs.length cc] := (Blk.new w 49 #[.int .i64 mi, .int .i64 ma, .int .i64 ra, .slice As ns c1, .slice Ac cs.length cc])
  have hs0 : (w.alloc (.cells #[.int .i64 mi, .int .i64 ma, .int .i64 ra, .slice As ns c1, .slice Ac cs.length cc] 49)).heap.size = w.heap.size + 1 := by simp
  go_enter Try.func10, Try.ntmps10
  go_upto_region 1 with fail
  generalize (w.alloc (.cells #[.int .i64 mi, .int .i64 ma, .int .i64 ra, .slice As ns c1, .slice Ac cs.length cc] 49)) = V at *
  have c0 : V.cell? ⟨w.heap.size, 0, none⟩ = some (.int .i64 mi) := g0.cell 0
  have c1x : V.cell? ⟨w.heap.size, 1, none⟩ = some (.int .i64 ma) := g0.cell 1
  have c2 : V.cell? ⟨w.heap.size, 2, none⟩ = some (.int .i64 ra) := g0.cell 2
  have c3 : V.cell? ⟨w.heap.size, 3, none⟩ = some (.slice As ns c1) := g0.cell 3
  have c4 : V.cell? ⟨w.heap.size, 4, none⟩ = some (.slice Ac cs.length cc) := g0.cell 4
  obtain ⟨f, hf⟩ : ∃ f, fitB mi ma ra ns cs.length = f := ⟨_, rfl⟩
  go_wp2_with fail
  refine (fit_any mi ma ra As Ac ns c1 cs.length cc V).mono ?_
  rintro e w1 ⟨rfl, hb1⟩
  rw [hf]
  have hs1 : w.heap.size + 1 ≤ w1.heap.size := by have := hb1.size; have := hb0.size; omega
  have HB := Lib.hid (And.intro (hb0.trans (hb1.mono hb0.size)) (g0.below hb1 (by omega)))
  clear c0 c1x c2 c3 c4 g0 hb0 hb1 hs0
  have c0 : w1.cell? ⟨w.heap.size, 0, none⟩ = some (.int .i64 mi) := HB.out.2.cell 0
  have c1x : w1.cell? ⟨w.heap.size, 1, none⟩ = some (.int .i64 ma) := HB.out.2.cell 1
  have c2 : w1.cell? ⟨w.heap.size, 2, none⟩ = some (.int .i64 ra) := HB.out.2.cell 2
  have c3 : w1.cell? ⟨w.heap.size, 3, none⟩ = some (.slice As ns c1) := HB.out.2.cell 3
  have c4 : w1.cell? ⟨w.heap.size, 4, none⟩ = some (.slice Ac cs.length cc) := HB.out.2.cell 4
  have AW : Hid (∀ W, Below w.heap.size w W → Calls Try.prog 12 #[] W fun e w' => e = .returned (.bool true) ∧ Below W.heap.size W w' ∧ Below w.heap.size w w') := fun W hW => (awake_any W).mono (fun e w' h => ⟨h.1, h.2, hW.trans (h.2.mono hW.size)⟩)
  cases f with
  | false =>
    go_wp2_with fail
    refine (AW.out _ HB.out.1).mono ?_
    rintro e w9 ⟨rfl, _, hb9⟩
    go_wp2_with fail
    go_ret
    exact ⟨by simp, hb9⟩
  | true =>
    have hfit : 0 ≤ mi ∧ mi ≤ ma ∧ ma ≤ 100 ∧ 0 ≤ ra ∧ ra ≤ 100 ∧ ns ≤ 20 ∧ cs.length ≤ 100 := by unfold fitB at hf; exact of_decide_eq_true hf
    clear hf
    have HFIT : Hid (0 ≤ mi ∧ mi ≤ ma ∧ ma ≤ 100 ∧ 0 ≤ ra ∧ ra ≤ 100) := ⟨hfit.1, hfit.2.1, hfit.2.2.1, hfit.2.2.2.1, hfit.2.2.2.2.1⟩
    have hns : ns ≤ 20 := hfit.2.2.2.2.2.1
    have hnc : cs.length ≤ 100 := hfit.2.2.2.2.2.2
    clear hfit
    go_wp2_with fail
    refine (run_lv mi ma ra As ns c1 st Ac cc cs w1 HFIT.out hns hnc (HX.out.1.up HB.out.1) HX.out.2.1 (HX.out.2.2.1.up HB.out.1) HX.out.2.2.2.1 HX.out.2.2.2.2.1).mono ?_
    rintro e w2 ⟨hb2, v, A3, c3x, A4, c4x, A5, c5x, rfl, hF2, ht2, hi2, hp2⟩
    have HOK : Hid (OkR mi ma ra cs.length ns (runK mi ma ra cs st ns)) := runK_ok HFIT.out (by have := HX.out.2.2.2.2.2; omega) ns (by have := HX.out.2.2.2.2.2; omega)
    have HFL : Hid (RunF mi ma st ns (runK mi ma ra cs st ns)) := runK_F HFIT.out (by have := HX.out.2.2.2.2.2; omega) ns (by have := HX.out.2.2.2.2.2; omega)
    obtain ⟨r, hr⟩ : ∃ r, runK mi ma ra cs st ns = r := ⟨_, rfl⟩
    have HRR := Lib.hid hr
    rw [hr] at hF2 ht2 hi2 hp2 HOK HFL ⊢
    clear hr
    obtain ⟨Bv, cv, rfl⟩ := hF2.form
    have hs2 := hb2.size
    have hlt : r.tm.length = ns := HOK.out.ltm
    have hli : r.id.length = ns := HOK.out.lid
    have hlc : r.cp.length = ns := HOK.out.lcp
    rw [hlt] at ht2 ⊢
    rw [hli] at hi2 ⊢
    rw [hlc] at hp2 ⊢
    have HLL := Lib.hid (And.intro hlt (And.intro hli hlc))
    clear hlt hli hlc
    have H2 := Lib.hid (And.intro (HB.out.1.trans (hb2.mono HB.out.1.size)) (And.intro (HB.out.2.below hb2 (by omega)) (And.intro hF2 (And.intro ht2 (And.intro hi2 hp2)))))
    clear hb2 hF2 ht2 hi2 hp2 c0 c1x c2 c3 c4
    unfold lkV
    have hcw : IntKind.i64.wrap ((now : Nat) : Int) = ((now : Nat) : Int) := IntWalk.i64_in _ (by omega)
    have hb3 : Below w2.heap.size w2 (w2.alloc (.cells #[.int .i64 r.l.mi, .int .i64 r.l.ma, .int .i64 r.l.ra, .bool r.l.dn, .int .i64 r.l.idle, .int .i64 r.l.nx, .slice Bv r.l.fl.length cv] 26)) := (Below.refl _ _).alloc (Nat.le_refl _) _
    have hz3 : w2.heap.size + 1 ≤ (w2.alloc (.cells #[.int .i64 r.l.mi, .int .i64 r.l.ma, .int .i64 r.l.ra, .bool r.l.dn, .int .i64 r.l.idle, .int .i64 r.l.nx, .slice Bv r.l.fl.length cv] 26)).heap.size := by simp
    have g3 := Blk.new w2 26 #[.int .i64 r.l.mi, .int .i64 r.l.ma, .int .i64 r.l.ra, .bool r.l.dn, .int .i64 r.l.idle, .int .i64 r.l.nx, .slice Bv r.l.fl.length cv]
    have H3 := Lib.hid (And.intro (H2.out.1.trans (hb3.mono H2.out.1.size)) (And.intro (H2.out.2.2.1.up hb3) g3))
    clear hb3 g3
    go_upto_region 4 with fail
    generalize (w2.alloc (.cells #[.int .i64 r.l.mi, .int .i64 r.l.ma, .int .i64 r.l.ra, .bool r.l.dn, .int .i64 r.l.idle, .int .i64 r.l.nx, .slice Bv r.l.fl.length cv] 26)) = V3 at *
    have x0 : V3.cell? ⟨w2.heap.size, 0, none⟩ = some (.int .i64 r.l.mi) := H3.out.2.2.cell 0
    have x1 : V3.cell? ⟨w2.heap.size, 1, none⟩ = some (.int .i64 r.l.ma) := H3.out.2.2.cell 1
    have x2 : V3.cell? ⟨w2.heap.size, 2, none⟩ = some (.int .i64 r.l.ra) := H3.out.2.2.cell 2
    have x3 : V3.cell? ⟨w2.heap.size, 3, none⟩ = some (.bool r.l.dn) := H3.out.2.2.cell 3
    have x4 : V3.cell? ⟨w2.heap.size, 4, none⟩ = some (.int .i64 r.l.idle) := H3.out.2.2.cell 4
    have x5 : V3.cell? ⟨w2.heap.size, 5, none⟩ = some (.int .i64 r.l.nx) := H3.out.2.2.cell 5
    have x6 : V3.cell? ⟨w2.heap.size, 6, none⟩ = some (.slice Bv r.l.fl.length cv) := H3.out.2.2.cell 6
    obtain ⟨ck, ckd, ckf, ckmi, ckma, ckra, cknx⟩ := cut_law HOK.out.ok
    have hcl := cut_lv r.l (SmL.of HOK.out hns) (.slice Bv r.l.fl.length cv) V3 H3.out.2.1
    obtain ⟨lc, hlc⟩ : ∃ lc, cutM r.l = lc := ⟨_, rfl⟩
    rw [hlc] at ck ckd ckf ckmi ckma ckra cknx hcl
    have HLC := Lib.hid (And.intro ck (And.intro ckd (And.intro ckf (And.intro (show lc.ma ≤ 100 by rw [ckma, HOK.out.ma]; have := HFIT.out; omega) (show lc.nx ≤ 100 by rw [cknx, HOK.out.nx]; have := HOK.out.fl; omega)))))
    clear ck ckd ckf ckmi ckma ckra cknx hlc
    unfold lkV at hcl
    go_wp2_with fail
    refine hcl.mono ?_
    clear hcl x0 x1 x2 x3 x4 x5 x6
    rintro e w4 ⟨hb4, v4, rfl, hf4⟩
    rw [HLC.out.2.2.1] at hf4
    obtain ⟨Bz, cz, rfl⟩ := hf4.form
    unfold lkV
    dsimp only [List.length_nil]
    have hs4 := hb4.size
    have H4 := Lib.hid (And.intro (H3.out.1.trans (hb4.mono H3.out.1.size)) (And.intro (H3.out.2.2.below hb4 (by omega)) hf4))
    clear hb4 hf4
    go_upto_region 7 with (refine wpList_store_row rfl _ _ _ rfl (w2.heap.size) _ rfl rfl 26 _ H4.out.2.1 (by kernel_rfl) rfl (by simp [Value.oneCell']) ?_)
    have hb5 : Below w.heap.size w (w4.setRow w2.heap.size #[.int .i64 lc.mi, .int .i64 lc.ma, .int .i64 lc.ra, .bool lc.dn, .int .i64 lc.idle, .int .i64 lc.nx, .slice Bz 0 cz]) := below_setRow H4.out.1 (by omega) _
    have g5 : Blk (w4.setRow w2.heap.size #[.int .i64 lc.mi, .int .i64 lc.ma, .int .i64 lc.ra, .bool lc.dn, .int .i64 lc.idle, .int .i64 lc.nx, .slice Bz 0 cz]) w2.heap.size 26 #[.int .i64 lc.mi, .int .i64 lc.ma, .int .i64 lc.ra, .bool lc.dn, .int .i64 lc.idle, .int .i64 lc.nx, .slice Bz 0 cz] := H4.out.2.1.setRow _
    have hf5 : FlV (w4.setRow w2.heap.size #[.int .i64 lc.mi, .int .i64 lc.ma, .int .i64 lc.ra, .bool lc.dn, .int .i64 lc.idle, .int .i64 lc.nx, .slice Bz 0 cz]) 0 [] (.slice Bz 0 cz) := H4.out.2.2.empty
    have hs5 : w2.heap.size < (w4.setRow w2.heap.size #[.int .i64 lc.mi, .int .i64 lc.ma, .int .i64 lc.ra, .bool lc.dn, .int .i64 lc.idle, .int .i64 lc.nx, .slice Bz 0 cz]).heap.size := g5.lt
    generalize (w4.setRow w2.heap.size #[.int .i64 lc.mi, .int .i64 lc.ma, .int .i64 lc.ra, .bool lc.dn, .int .i64 lc.idle, .int .i64 lc.nx, .slice Bz 0 cz]) = V5 at *
    have H5 := Lib.hid (And.intro hb5 (And.intro g5 hf5))
    clear hb5 g5 hf5
    have x0 : V5.cell? ⟨w2.heap.size, 0, none⟩ = some (.int .i64 lc.mi) := H5.out.2.1.cell 0
    have x1 : V5.cell? ⟨w2.heap.size, 1, none⟩ = some (.int .i64 lc.ma) := H5.out.2.1.cell 1
    have x2 : V5.cell? ⟨w2.heap.size, 2, none⟩ = some (.int .i64 lc.ra) := H5.out.2.1.cell 2
    have x3 : V5.cell? ⟨w2.heap.size, 3, none⟩ = some (.bool lc.dn) := H5.out.2.1.cell 3
    have x4 : V5.cell? ⟨w2.heap.size, 4, none⟩ = some (.int .i64 lc.idle) := H5.out.2.1.cell 4
    have x5 : V5.cell? ⟨w2.heap.size, 5, none⟩ = some (.int .i64 lc.nx) := H5.out.2.1.cell 5
    have x6 : V5.cell? ⟨w2.heap.size, 6, none⟩ = some (.slice Bz 0 cz) := H5.out.2.1.cell 6
    have hb6 : Below V5.heap.size V5 ((V5.alloc (.cells #[.int .u8 9] 5)).alloc (.cells #[.int .i64 2, .int .i64 1] 3)) := ((Below.refl _ V5).alloc (Nat.le_refl _) _).alloc (by simp) _
    have e1 : Reads ((V5.alloc (.cells #[.int .u8 9] 5)).alloc (.cells #[.int .i64 2, .int .i64 1] 3)) ((V5.alloc (.cells #[.int .u8 9] 5)).alloc (.cells #[.int .i64 2, .int .i64 1] 3)).heap.size 1 (some ⟨V5.heap.size, 0, none⟩) ([9] : List Nat).length (u8s [9]) := ((Blk.new V5 5 #[.int .u8 9]).alloc _).reads rfl
    have e2 : Reads ((V5.alloc (.cells #[.int .u8 9] 5)).alloc (.cells #[.int .i64 2, .int .i64 1] 3)) ((V5.alloc (.cells #[.int .u8 9] 5)).alloc (.cells #[.int .i64 2, .int .i64 1] 3)).heap.size 1 (some ⟨V5.heap.size + 1, 0, none⟩) ([2, 1] : List Int).length (i64s [2, 1]) := by
      have := Blk.new (V5.alloc (.cells #[.int .u8 9] 5)) 3 #[.int .i64 2, .int .i64 1]
      rw [World.size_alloc] at this
      exact this.reads rfl
    have hsn := send_lv lc ⟨by rw [HLC.out.2.2.1]; simp, by rw [HLC.out.2.2.1]; nofun⟩ (now : Nat) (some ⟨V5.heap.size, 0, none⟩) 1 [9] (some ⟨V5.heap.size + 1, 0, none⟩) 2 [2, 1] (.slice Bz 0 cz) ((V5.alloc (.cells #[.int .u8 9] 5)).alloc (.cells #[.int .i64 2, .int .i64 1] 3)) (by rw [HLC.out.2.2.1]; exact H5.out.2.2.empty) e1 (by simp) e2 (by simp)
    rw [cutsend HLC.out.1 HLC.out.2.1 ⟨by omega, by omega⟩ (by simp)] at hsn
    unfold lkV at hsn
    go_wp2_with fail
    refine hsn.mono ?_
    clear hsn e1 e2 x0 x1 x2 x3 x4 x5 x6
    rintro e w6 ⟨hb7, v6, A6, c6, rfl, hf6, hr6⟩
    dsimp only at hf6 hr6
    rw [HLC.out.2.2.1] at hf6
    obtain ⟨By, cy, rfl⟩ := hf6.form
    unfold lkV
    dsimp only [List.length_nil, List.length_cons]
    have hb57 := hb6.trans (hb7.mono hb6.size)
    have hs6 := hb57.size
    have H6 := Lib.hid (And.intro (H5.out.1.trans (hb57.mono H5.out.1.size)) (And.intro (H5.out.2.1.below hb57 hs5) (And.intro hf6 hr6)))
    clear hb6 hb7 hb57 hf6 hr6
    have hb8 : Below w6.heap.size w6 (w6.alloc (.cells #[.int .i64 lc.mi, .int .i64 lc.ma, .int .i64 lc.ra, .bool lc.dn, .int .i64 lc.idle, .int .i64 lc.nx, .slice By 0 cy] 26)) := (Below.refl _ _).alloc (Nat.le_refl _) _
    have hz8 : w6.heap.size < (w6.alloc (.cells #[.int .i64 lc.mi, .int .i64 lc.ma, .int .i64 lc.ra, .bool lc.dn, .int .i64 lc.idle, .int .i64 lc.nx, .slice By 0 cy] 26)).heap.size := by simp
    have g8 := Blk.new w6 26 #[.int .i64 lc.mi, .int .i64 lc.ma, .int .i64 lc.ra, .bool lc.dn, .int .i64 lc.idle, .int .i64 lc.nx, .slice By 0 cy]
    have H8 := Lib.hid (And.intro (H6.out.1.trans (hb8.mono H6.out.1.size)) (And.intro (H6.out.2.1.below hb8 (by omega)) (And.intro g8 (And.intro (H6.out.2.2.1.empty (W' := (w6.alloc (.cells #[.int .i64 lc.mi, .int .i64 lc.ma, .int .i64 lc.ra, .bool lc.dn, .int .i64 lc.idle, .int .i64 lc.nx, .slice By 0 cy] 26)))) (H6.out.2.2.2.up hb8)))))
    clear hb8 g8
    go_upto_region 8 with fail
    generalize (w6.alloc (.cells #[.int .i64 lc.mi, .int .i64 lc.ma, .int .i64 lc.ra, .bool lc.dn, .int .i64 lc.idle, .int .i64 lc.nx, .slice By 0 cy] 26)) = V8 at *
    have hb9 : Below V8.heap.size V8 (V8.alloc (.cells #[.int .i64 2, .int .i64 1] 3)) := (Below.refl _ V8).alloc (Nat.le_refl _) _
    have e2 : Reads (V8.alloc (.cells #[.int .i64 2, .int .i64 1] 3)) (V8.alloc (.cells #[.int .i64 2, .int .i64 1] 3)).heap.size 1 (some ⟨V8.heap.size, 0, none⟩) 2 (i64s [2, 1]) := (Blk.new V8 3 #[.int .i64 2, .int .i64 1]).reads rfl
    have hsi := SameInts_true A6 (some ⟨V8.heap.size, 0, none⟩) 2 c6 2 [2, 1] (V8.alloc (.cells #[.int .i64 2, .int .i64 1] 3)) (H8.out.2.2.2.2.up hb9) e2 (by omega)
    go_wp2_with fail
    refine hsi.mono ?_
    clear hsi e2
    rintro e w9 ⟨rfl, hb10⟩
    have hb89 := hb9.trans (hb10.mono hb9.size)
    have hs9 := hb89.size
    have H9 := Lib.hid (And.intro (H8.out.1.trans (hb89.mono H8.out.1.size)) (And.intro (H8.out.2.1.below hb89 (by omega)) (H8.out.2.2.1.below hb89 (by omega))))
    clear hb9 hb10 hb89
    have x0 : w9.cell? ⟨w2.heap.size, 0, none⟩ = some (.int .i64 lc.mi) := H9.out.2.1.cell 0
    have x1 : w9.cell? ⟨w2.heap.size, 1, none⟩ = some (.int .i64 lc.ma) := H9.out.2.1.cell 1
    have x2 : w9.cell? ⟨w2.heap.size, 2, none⟩ = some (.int .i64 lc.ra) := H9.out.2.1.cell 2
    have x3 : w9.cell? ⟨w2.heap.size, 3, none⟩ = some (.bool lc.dn) := H9.out.2.1.cell 3
    have x4 : w9.cell? ⟨w2.heap.size, 4, none⟩ = some (.int .i64 lc.idle) := H9.out.2.1.cell 4
    have x5 : w9.cell? ⟨w2.heap.size, 5, none⟩ = some (.int .i64 lc.nx) := H9.out.2.1.cell 5
    have x6 : w9.cell? ⟨w2.heap.size, 6, none⟩ = some (.slice Bz 0 cz) := H9.out.2.1.cell 6
    have y0 : w9.cell? ⟨w6.heap.size, 0, none⟩ = some (.int .i64 lc.mi) := H9.out.2.2.cell 0
    have y1 : w9.cell? ⟨w6.heap.size, 1, none⟩ = some (.int .i64 lc.ma) := H9.out.2.2.cell 1
    have y2 : w9.cell? ⟨w6.heap.size, 2, none⟩ = some (.int .i64 lc.ra) := H9.out.2.2.cell 2
    have y3 : w9.cell? ⟨w6.heap.size, 3, none⟩ = some (.bool lc.dn) := H9.out.2.2.cell 3
    have y4 : w9.cell? ⟨w6.heap.size, 4, none⟩ = some (.int .i64 lc.idle) := H9.out.2.2.cell 4
    have y5 : w9.cell? ⟨w6.heap.size, 5, none⟩ = some (.int .i64 lc.nx) := H9.out.2.2.cell 5
    have y6 : w9.cell? ⟨w6.heap.size, 6, none⟩ = some (.slice By 0 cy) := H9.out.2.2.cell 6
    have hsm := same_lk lc (by rw [HLC.out.2.2.1]; simp) (.slice Bz 0 cz) (.slice By 0 cy) w9 (by rw [HLC.out.2.2.1]; exact H5.out.2.2.empty) (by rw [HLC.out.2.2.1]; exact H6.out.2.2.1.empty)
    unfold lkV at hsm
    go_wp2_with fail
    refine hsm.mono ?_
    clear hsm x0 x1 x2 x3 x4 x5 x6 y0 y1 y2 y3 y4 y5 y6
    rintro e wa ⟨rfl, hba⟩
    have hsa := hba.size
    have HA := Lib.hid (And.intro (H9.out.1.trans (hba.mono H9.out.1.size)) (H9.out.2.2.below hba (by omega)))
    clear hba
    have y0 : wa.cell? ⟨w6.heap.size, 0, none⟩ = some (.int .i64 lc.mi) := HA.out.2.cell 0
    have y1 : wa.cell? ⟨w6.heap.size, 1, none⟩ = some (.int .i64 lc.ma) := HA.out.2.cell 1
    have y2 : wa.cell? ⟨w6.heap.size, 2, none⟩ = some (.int .i64 lc.ra) := HA.out.2.cell 2
    have y3 : wa.cell? ⟨w6.heap.size, 3, none⟩ = some (.bool lc.dn) := HA.out.2.cell 3
    have y4 : wa.cell? ⟨w6.heap.size, 4, none⟩ = some (.int .i64 lc.idle) := HA.out.2.cell 4
    have y5 : wa.cell? ⟨w6.heap.size, 5, none⟩ = some (.int .i64 lc.nx) := HA.out.2.cell 5
    have y6 : wa.cell? ⟨w6.heap.size, 6, none⟩ = some (.slice By 0 cy) := HA.out.2.cell 6
    have hnx := next_lv lc ⟨by rw [HLC.out.2.2.1]; simp, by rw [HLC.out.2.2.1]; nofun⟩ (.slice By 0 cy) wa (by rw [HLC.out.2.2.1]; exact H6.out.2.2.1.empty)
    rw [next_nil HLC.out.2.2.1] at hnx
    unfold lkV at hnx
    go_wp2_with fail
    refine hnx.mono ?_
    clear hnx y0 y1 y2 y3 y4 y5 y6
    rintro e wb ⟨rfl, hbb⟩
    dsimp only
    have hsb := hbb.size
    have HBx := Lib.hid (And.intro (HA.out.1.trans (hbb.mono HA.out.1.size)) (HA.out.2.below hbb (by omega)))
    clear hbb
    have y0 : wb.cell? ⟨w6.heap.size, 0, none⟩ = some (.int .i64 lc.mi) := HBx.out.2.cell 0
    have y1 : wb.cell? ⟨w6.heap.size, 1, none⟩ = some (.int .i64 lc.ma) := HBx.out.2.cell 1
    have y2 : wb.cell? ⟨w6.heap.size, 2, none⟩ = some (.int .i64 lc.ra) := HBx.out.2.cell 2
    have y3 : wb.cell? ⟨w6.heap.size, 3, none⟩ = some (.bool lc.dn) := HBx.out.2.cell 3
    have y4 : wb.cell? ⟨w6.heap.size, 4, none⟩ = some (.int .i64 lc.idle) := HBx.out.2.cell 4
    have y5 : wb.cell? ⟨w6.heap.size, 5, none⟩ = some (.int .i64 lc.nx) := HBx.out.2.cell 5
    have y6 : wb.cell? ⟨w6.heap.size, 6, none⟩ = some (.slice By 0 cy) := HBx.out.2.cell 6
    rw [HLC.out.2.1] at y3
    go_upto_region 13 with fail
    rw [← HLC.out.2.1] at y3
    have hrs := rest_lv lc ⟨by rw [HLC.out.2.2.1]; simp, by rw [HLC.out.2.2.1]; nofun⟩ (now : Nat) (.slice By 0 cy) wb (by rw [HLC.out.2.2.1]; exact H6.out.2.2.1.empty)
    obtain ⟨kr, krd, krf, krmi, krma, krra, krnx, kri⟩ := rest_law (now := (now : Nat)) HLC.out.1 HLC.out.2.1 ⟨by omega, by omega⟩
    obtain ⟨lr, hlr⟩ : ∃ lr, restM lc (now : Nat) = lr := ⟨_, rfl⟩
    rw [hlr] at kr krd krf krmi krma krra krnx kri hrs
    have HLR := Lib.hid (And.intro kr (And.intro krd (And.intro krf (And.intro kri (And.intro (show lr.ma ≤ 100 by rw [krma]; exact HLC.out.2.2.2.1) (show lr.nx ≤ 100 by rw [krnx]; exact HLC.out.2.2.2.2))))))
    clear kr krd krf krmi krma krra krnx kri hlr
    unfold lkV at hrs
    go_wp2_with fail
    refine hrs.mono ?_
    clear hrs y0 y1 y2 y3 y4 y5 y6
    rintro e wc ⟨hbc, vc, rfl, hfc⟩
    rw [HLR.out.2.2.1] at hfc
    obtain ⟨Bx, cx, rfl⟩ := hfc.form
    unfold lkV
    dsimp only [List.length_nil]
    have hsc := hbc.size
    have HCx := Lib.hid (And.intro (HBx.out.1.trans (hbc.mono HBx.out.1.size)) (And.intro (HBx.out.2.below hbc (by omega)) hfc))
    clear hbc hfc
    go_upto_region 14 with (refine wpList_store_row rfl _ _ _ rfl (w6.heap.size) _ rfl rfl 26 _ HCx.out.2.1 (by kernel_rfl) rfl (by simp [Value.oneCell']) ?_)
    have hbd : Below w.heap.size w (wc.setRow w6.heap.size #[.int .i64 lr.mi, .int .i64 lr.ma, .int .i64 lr.ra, .bool lr.dn, .int .i64 lr.idle, .int .i64 lr.nx, .slice Bx 0 cx]) := below_setRow HCx.out.1 (by omega) _
    have gd : Blk (wc.setRow w6.heap.size #[.int .i64 lr.mi, .int .i64 lr.ma, .int .i64 lr.ra, .bool lr.dn, .int .i64 lr.idle, .int .i64 lr.nx, .slice Bx 0 cx]) w6.heap.size 26 #[.int .i64 lr.mi, .int .i64 lr.ma, .int .i64 lr.ra, .bool lr.dn, .int .i64 lr.idle, .int .i64 lr.nx, .slice Bx 0 cx] := HCx.out.2.1.setRow _
    have hfd : FlV (wc.setRow w6.heap.size #[.int .i64 lr.mi, .int .i64 lr.ma, .int .i64 lr.ra, .bool lr.dn, .int .i64 lr.idle, .int .i64 lr.nx, .slice Bx 0 cx]) 0 [] (.slice Bx 0 cx) := HCx.out.2.2.empty
    have hsd : w6.heap.size < (wc.setRow w6.heap.size #[.int .i64 lr.mi, .int .i64 lr.ma, .int .i64 lr.ra, .bool lr.dn, .int .i64 lr.idle, .int .i64 lr.nx, .slice Bx 0 cx]).heap.size := gd.lt
    generalize (wc.setRow w6.heap.size #[.int .i64 lr.mi, .int .i64 lr.ma, .int .i64 lr.ra, .bool lr.dn, .int .i64 lr.idle, .int .i64 lr.nx, .slice Bx 0 cx]) = Vd at *
    have HD := Lib.hid (And.intro hbd (And.intro gd hfd))
    clear hbd gd hfd
    have x0 : Vd.cell? ⟨w6.heap.size, 0, none⟩ = some (.int .i64 lr.mi) := HD.out.2.1.cell 0
    have x1 : Vd.cell? ⟨w6.heap.size, 1, none⟩ = some (.int .i64 lr.ma) := HD.out.2.1.cell 1
    have x2 : Vd.cell? ⟨w6.heap.size, 2, none⟩ = some (.int .i64 lr.ra) := HD.out.2.1.cell 2
    have x3 : Vd.cell? ⟨w6.heap.size, 3, none⟩ = some (.bool lr.dn) := HD.out.2.1.cell 3
    have x4 : Vd.cell? ⟨w6.heap.size, 4, none⟩ = some (.int .i64 lr.idle) := HD.out.2.1.cell 4
    have x5 : Vd.cell? ⟨w6.heap.size, 5, none⟩ = some (.int .i64 lr.nx) := HD.out.2.1.cell 5
    have x6 : Vd.cell? ⟨w6.heap.size, 6, none⟩ = some (.slice Bx 0 cx) := HD.out.2.1.cell 6
    have hbe : Below Vd.heap.size Vd (Vd.alloc (.cells #[.int .u8 9] 5)) := (Below.refl _ Vd).alloc (Nat.le_refl _) _
    have e1 : Reads (Vd.alloc (.cells #[.int .u8 9] 5)) (Vd.alloc (.cells #[.int .u8 9] 5)).heap.size 1 (some ⟨Vd.heap.size, 0, none⟩) ([9] : List Nat).length (u8s [9]) := (Blk.new Vd 5 #[.int .u8 9]).reads rfl
    have hs2n := send_lv lr ⟨by rw [HLR.out.2.2.1]; simp, by rw [HLR.out.2.2.1]; nofun⟩ (now : Nat) (some ⟨Vd.heap.size, 0, none⟩) 1 [9] none 0 [] (.slice Bx 0 cx) (Vd.alloc (.cells #[.int .u8 9] 5)) (by rw [HLR.out.2.2.1]; exact HD.out.2.2.empty) e1 (by simp) ⟨rfl, fun h => absurd h (by simp)⟩ (by simp)
    obtain ⟨sn1, sn2, sn3⟩ := send_one HLR.out.1 HLR.out.2.1 HLR.out.2.2.1 HLR.out.2.2.2.1 ⟨by omega, by omega⟩ HLR.out.2.2.2.2.1 HLR.out.2.2.2.2.2
    obtain ⟨SN, hSN⟩ : ∃ SN, sendM lr (now : Nat) [9] [] = SN := ⟨_, rfl⟩
    rw [hSN] at sn1 sn2 sn3 hs2n
    have HSN := Lib.hid (And.intro sn1 (And.intro sn2 sn3))
    clear sn1 sn2 sn3 hSN
    unfold lkV at hs2n
    go_wp2_with fail
    refine hs2n.mono ?_
    clear hs2n e1 x0 x1 x2 x3 x4 x5 x6
    rintro e we ⟨hbf, ve, Ae, ce, rfl, hfe, _⟩
    rw [HSN.out.1]
    obtain ⟨Bw, cw, rfl⟩ := hfe.form
    unfold lkV
    have hbg := hbe.trans (hbf.mono hbe.size)
    have hse := hbg.size
    have HE := Lib.hid (And.intro (HD.out.1.trans (hbg.mono HD.out.1.size)) (And.intro (HD.out.2.1.below hbg hsd) hfe))
    clear hbe hbf hbg hfe
    have hbh : Below we.heap.size we (we.alloc (.cells #[.int .i64 SN.l.mi, .int .i64 SN.l.ma, .int .i64 SN.l.ra, .bool SN.l.dn, .int .i64 SN.l.idle, .int .i64 SN.l.nx, .slice Bw SN.l.fl.length cw] 26)) := (Below.refl _ _).alloc (Nat.le_refl _) _
    have hzh : we.heap.size < (we.alloc (.cells #[.int .i64 SN.l.mi, .int .i64 SN.l.ma, .int .i64 SN.l.ra, .bool SN.l.dn, .int .i64 SN.l.idle, .int .i64 SN.l.nx, .slice Bw SN.l.fl.length cw] 26)).heap.size := by simp
    have gh := Blk.new we 26 #[.int .i64 SN.l.mi, .int .i64 SN.l.ma, .int .i64 SN.l.ra, .bool SN.l.dn, .int .i64 SN.l.idle, .int .i64 SN.l.nx, .slice Bw SN.l.fl.length cw]
    have HH := Lib.hid (And.intro (HE.out.1.trans (hbh.mono HE.out.1.size)) (And.intro (HE.out.2.1.below hbh (by omega)) (And.intro gh (HE.out.2.2.up hbh))))
    clear hbh gh
    go_upto_region 15 with fail
    generalize (we.alloc (.cells #[.int .i64 SN.l.mi, .int .i64 SN.l.ma, .int .i64 SN.l.ra, .bool SN.l.dn, .int .i64 SN.l.idle, .int .i64 SN.l.nx, .slice Bw SN.l.fl.length cw] 26)) = Vh at *
    have x0 : Vh.cell? ⟨we.heap.size, 0, none⟩ = some (.int .i64 SN.l.mi) := HH.out.2.2.1.cell 0
    have x1 : Vh.cell? ⟨we.heap.size, 1, none⟩ = some (.int .i64 SN.l.ma) := HH.out.2.2.1.cell 1
    have x2 : Vh.cell? ⟨we.heap.size, 2, none⟩ = some (.int .i64 SN.l.ra) := HH.out.2.2.1.cell 2
    have x3 : Vh.cell? ⟨we.heap.size, 3, none⟩ = some (.bool SN.l.dn) := HH.out.2.2.1.cell 3
    have x4 : Vh.cell? ⟨we.heap.size, 4, none⟩ = some (.int .i64 SN.l.idle) := HH.out.2.2.1.cell 4
    have x5 : Vh.cell? ⟨we.heap.size, 5, none⟩ = some (.int .i64 SN.l.nx) := HH.out.2.2.1.cell 5
    have x6 : Vh.cell? ⟨we.heap.size, 6, none⟩ = some (.slice Bw SN.l.fl.length cw) := HH.out.2.2.1.cell 6
    have hsl : SN.l.fl.length = 1 := by have := congrArg List.length HSN.out.2.2; rw [List.length_map] at this; exact this
    have hdl := deliv_lv SN.l ⟨by omega, fun e he => by have := (wrong_fact (HSN.out.2.1.each e he)); omega⟩ 1073741824 (.slice Bw SN.l.fl.length cw) Vh HH.out.2.2.2
    rw [deliv_all HSN.out.2.1, HSN.out.2.2] at hdl
    clear hsl
    unfold lkV at hdl
    go_wp2_with fail
    refine hdl.mono ?_
    clear hdl x0 x1 x2 x3 x4 x5 x6
    rintro e wi ⟨hbi, vi, ui, rfl, hfi, hpi⟩
    dsimp only at hfi hpi
    obtain ⟨Bi, ci, rfl⟩ := hfi.form
    obtain ⟨Ai, cpi, pli, rfl, hpl, hpm, _⟩ := hpi.val
    have hpi1 : pli.length = 1 := by have := congrArg List.length hpm; rw [List.length_map] at this; exact this
    rw [hpi1] at hpl
    rw [hpi1]
    unfold lkV
    dsimp only [List.length_nil]
    have hsi := hbi.size
    have hbj : Below wi.heap.size wi (wi.alloc (.cells #[.int .i64 SN.l.mi, .int .i64 SN.l.ma, .int .i64 SN.l.ra, .bool SN.l.dn, .int .i64 SN.l.idle, .int .i64 SN.l.nx, .slice Bi 0 ci] 26)) := (Below.refl _ _).alloc (Nat.le_refl _) _
    have hbk := hbi.trans (hbj.mono hsi)
    have HJ := Lib.hid (And.intro (HH.out.1.trans (hbk.mono HH.out.1.size)) (And.intro (HH.out.2.1.below hbk (by omega)) (And.intro (hpl.up hbj) hpm)))
    have hzj : Vh.heap.size < (wi.alloc (.cells #[.int .i64 SN.l.mi, .int .i64 SN.l.ma, .int .i64 SN.l.ra, .bool SN.l.dn, .int .i64 SN.l.idle, .int .i64 SN.l.nx, .slice Bi 0 ci] 26)).heap.size := by simp; omega
    clear hbi hbj hbk hpl hpm hpi1
    go_upto_region 16 with fail
    generalize (wi.alloc (.cells #[.int .i64 SN.l.mi, .int .i64 SN.l.ma, .int .i64 SN.l.ra, .bool SN.l.dn, .int .i64 SN.l.idle, .int .i64 SN.l.nx, .slice Bi 0 ci] 26)) = Vj at *
    go_wp2_with fail
    refine (AW.out Vj HJ.out.1).mono ?_
    rintro e wk ⟨rfl, hbk, hbk2⟩
    have hsk := hbk.size
    have y3 : wk.cell? ⟨w6.heap.size, 3, none⟩ = some (.bool false) := by rw [← HLR.out.2.1]; exact (HJ.out.2.1.below hbk (by omega)).cell 3
    have bB : Below wk.heap.size wk ((wk.alloc (.cells #[.int .u8 9] 5)).alloc (.cells #[.slice (some ⟨wk.heap.size, 0, none⟩) 1 1] 37)) := ((Below.refl _ wk).alloc (Nat.le_refl _) _).alloc (by simp) _
    have f1 : Reads ((wk.alloc (.cells #[.int .u8 9] 5)).alloc (.cells #[.slice (some ⟨wk.heap.size, 0, none⟩) 1 1] 37)) ((wk.alloc (.cells #[.int .u8 9] 5)).alloc (.cells #[.slice (some ⟨wk.heap.size, 0, none⟩) 1 1] 37)).heap.size 1 (some ⟨wk.heap.size, 0, none⟩) ([9] : List Nat).length (u8s [9]) := ((Blk.new wk 5 #[.int .u8 9]).alloc _).reads rfl
    have f2 : Reads ((wk.alloc (.cells #[.int .u8 9] 5)).alloc (.cells #[.slice (some ⟨wk.heap.size, 0, none⟩) 1 1] 37)) ((wk.alloc (.cells #[.int .u8 9] 5)).alloc (.cells #[.slice (some ⟨wk.heap.size, 0, none⟩) 1 1] 37)).heap.size 1 (some ⟨wk.heap.size + 1, 0, none⟩) 1 ([(⟨some ⟨wk.heap.size, 0, none⟩, 1, [9]⟩ : Pl)].map encPl) := by
      have := Blk.new (wk.alloc (.cells #[.int .u8 9] 5)) 37 #[.slice (some ⟨wk.heap.size, 0, none⟩) 1 1]
      rw [World.size_alloc] at this
      exact this.reads rfl
    have hsp := SamePayloads_true Ai (some ⟨wk.heap.size + 1, 0, none⟩) 1 cpi 1 pli [⟨some ⟨wk.heap.size, 0, none⟩, 1, [9]⟩] ((wk.alloc (.cells #[.int .u8 9] 5)).alloc (.cells #[.slice (some ⟨wk.heap.size, 0, none⟩) 1 1] 37)) ((HJ.out.2.2.1.up hbk).up bB) ⟨f2, fun x hx => by rw [List.mem_singleton] at hx; subst hx; exact f1⟩ (by omega) HJ.out.2.2.2
    clear f1 f2
    go_wp2_with fail
    refine hsp.mono ?_
    rintro e wl ⟨rfl, hbl⟩
    have hbm := hbk2.trans ((bB.trans (hbl.mono bB.size)).mono hbk2.size)
    clear hsp bB hbl
    go_wp2_with fail
    go_ret
    exact ⟨by simp, hbm⟩
end Go.Proofs.Ytjaoppopfeonhaa
