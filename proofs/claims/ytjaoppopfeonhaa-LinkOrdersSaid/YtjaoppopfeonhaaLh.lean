/- The walk of the law LinkOrders. No condition. -/
import Derived.Test.YtjaoppopfeonhaaXg
import Derived.Test.YtjaoppopfeonhaaMathJ
namespace Go.Proofs.Ytjaoppopfeonhaa
open Go.RowKit
/-- what the law's loop keeps -/
structure OrI (w V3 : World) (gl : Nat) (K : Lm) (W : World) : Prop where
  val : ∃ v, Blk W gl 26 (lkV K v) ∧ FlV W 0 K.fl v
  keep : ∀ k, k < V3.heap.size → k ≠ gl → W.heap[k]? = V3.heap[k]?
  size : V3.heap.size ≤ W.heap.size
  bel : Below w.heap.size w W
theorem OrI.below {w V3 W W' : World} {gl : Nat} {K : Lm} (h : OrI w V3 gl K W) (hb : Below W.heap.size W W') : OrI w V3 gl K W' := by
  obtain ⟨v, h1, h2⟩ := h.val
  exact ⟨⟨v, h1.below hb h1.lt, h2.up hb⟩, fun k hk hne => (hb.block k (Nat.lt_of_lt_of_le hk h.size)).trans (h.keep k hk hne), Nat.le_trans h.size hb.size, h.bel.trans (hb.mono h.bel.size)⟩
theorem OrI.put {w V3 W : World} {gl lo : Nat} {K K' : Lm} {v' : Value} (h : OrI w V3 gl K W) (hw : w.heap.size ≤ gl) (hf : FlV W lo K'.fl v') (hl : gl < lo) : OrI w V3 gl K' (W.setRow gl (lkV K' v')) := by
  obtain ⟨v, h1, h2⟩ := h.val
  exact ⟨⟨v', h1.setRow _, (hf.keep (fun g hg _ => setRow_other _ _ _ _ (by omega)) (by simp)).low (Nat.zero_le _)⟩, fun k hk hne => (setRow_other _ _ _ _ hne).trans (h.keep k hk hne), by have := h.size; simpa using this, below_setRow h.bel hw _⟩
theorem OrI.reads {w V3 W : World} {gl : Nat} {K : Lm} (h : OrI w V3 gl K W) {size n : Nat} {A : Option Addr} {xs : List Value} (hr : Reads V3 V3.heap.size size A n xs) (hA : ∀ ad, 0 < n → A = some ad → ad.block ≠ gl) : Reads W W.heap.size size A n xs := by
  refine ⟨hr.1, fun h0 => ?_⟩
  obtain ⟨ad, hA', hb, hc⟩ := hr.2 h0
  refine ⟨ad, hA', Nat.lt_of_lt_of_le hb h.size, fun j u hu => ?_⟩
  refine (World.cell?_of_block ?_).trans (hc j u hu)
  rw [block_of_add]
  exact h.keep _ hb (hA ad h0 hA')
theorem own_rdO {w : World} {base : Nat} {e : TypeId} {size n c : Nat} {A : Option Addr} {xs : List Value} (h : w.ownsRow base e size (.slice A n c) n xs) : Reads w w.heap.size size A n xs := by
  obtain ⟨A', c', hv, _, _, hr⟩ := own_slice h
  injection hv with e1
  subst e1
  exact hr
set_option linter.unusedSimpArgs false in
set_option maxRecDepth 100000 in
set_option maxHeartbeats 16000000 in
theorem walkLinkOrders (w : World) (v0 : Value) (h0 : Arg49 w v0) : Calls Try.prog 8 #[v0] w fun e w' => e = .returned (.bool true) ∧ Below w.heap.size w w' := by
  obtain ⟨mi, ma, ra, As, ns, c1, st, Ac, cc, cs, rfl, hS, hst, hnc1, hc1m, hC, hcc, hccm⟩ := h0
  have hlen : st.length = ns := hS.count (fun _ => rfl) (by omega)
  have HX := Lib.hid (And.intro hS (And.intro hst (And.intro hC (And.intro hcc (And.intro hccm hlen)))))
  clear hS hst hC hcc hccm hlen hnc1 hc1m
  have hb0 : Below w.heap.size w (w.alloc (.cells #[.int .i64 mi, .int .i64 ma, .int .i64 ra, .slice As ns c1, .slice Ac cs.length cc] 49)) := ((Below.refl _ _).alloc (Nat.le_refl _) _)
  have g0 : Blk (w.alloc (.cells #[.int .i64 mi, .int .i64 ma, .int .i64 ra, .slice As ns c1, .slice Ac cs.length cc] 49)) w.heap.size 49 #[.int .i64 mi, .int .i64 ma, .int .i64 ra, .slice As ns c1, .slice Ac cs.length cc] := (Blk.new w 49 #[.int .i64 mi, .int .i64 ma, .int .i64 ra, .slice As ns c1, .slice Ac cs.length cc])
  have hs0 : (w.alloc (.cells #[.int .i64 mi, .int .i64 ma, .int .i64 ra, .slice As ns c1, .slice Ac cs.length cc] 49)).heap.size = w.heap.size + 1 := by simp
  go_enter Try.func8, Try.ntmps8
  go_upto_region 1 with fail
  generalize (w.alloc (.cells #[.int .i64 mi, .int .i64 ma, .int .i64 ra, .slice As ns c1, .slice Ac cs.length cc] 49)) = V at *
  have c0 : V.cell? ⟨w.heap.size, 0, none⟩ = some (.int .i64 mi) := g0.cell 0
  have c1x : V.cell? ⟨w.heap.size, 1, none⟩ = some (.int .i64 ma) := g0.cell 1
  have c2 : V.cell? ⟨w.heap.size, 2, none⟩ = some (.int .i64 ra) := g0.cell 2
  have c3 : V.cell? ⟨w.heap.size, 3, none⟩ = some (.slice As ns c1) := g0.cell 3
  have c4 : V.cell? ⟨w.heap.size, 4, none⟩ = some (.slice Ac cs.length cc) := g0.cell 4
  have f1 : V.frozen? ⟨w.heap.size, 1, none⟩ = false := g0.frozen 1
  have f4 : V.frozen? ⟨w.heap.size, 4, none⟩ = false := g0.frozen 4
  go_upto_region 2 with fail
  have gV : Blk ((V.setCell ⟨w.heap.size, 1, none⟩ (.int .i64 mi)).setCell ⟨w.heap.size, 4, none⟩ (.slice none 0 0)) w.heap.size 49 #[.int .i64 mi, .int .i64 mi, .int .i64 ra, .slice As ns c1, .slice none 0 0] := (g0.set_ 1 (.int .i64 mi)).set_ 4 (.slice none 0 0)
  have bV : Below w.heap.size w ((V.setCell ⟨w.heap.size, 1, none⟩ (.int .i64 mi)).setCell ⟨w.heap.size, 4, none⟩ (.slice none 0 0)) := (hb0.setCell (Nat.le_refl _) _).setCell (Nat.le_refl _) _
  have hsV : ((V.setCell ⟨w.heap.size, 1, none⟩ (.int .i64 mi)).setCell ⟨w.heap.size, 4, none⟩ (.slice none 0 0)).heap.size = w.heap.size + 1 := by simp [hs0]
  generalize ((V.setCell ⟨w.heap.size, 1, none⟩ (.int .i64 mi)).setCell ⟨w.heap.size, 4, none⟩ (.slice none 0 0)) = VV at *
  clear c0 c1x c2 c3 c4 f1 f4 g0 hb0 hs0
  have hs0 := hsV
  have hb0 := bV
  have g0 := gV
  clear hsV bV gV
  have hrn : Reads w w.heap.size 1 none 0 (i64s []) := ⟨rfl, fun h => absurd h (by simp)⟩
  have c0 : VV.cell? ⟨w.heap.size, 0, none⟩ = some (.int .i64 mi) := g0.cell 0
  have c1x : VV.cell? ⟨w.heap.size, 1, none⟩ = some (.int .i64 mi) := g0.cell 1
  have c2 : VV.cell? ⟨w.heap.size, 2, none⟩ = some (.int .i64 ra) := g0.cell 2
  have c3 : VV.cell? ⟨w.heap.size, 3, none⟩ = some (.slice As ns c1) := g0.cell 3
  have c4 : VV.cell? ⟨w.heap.size, 4, none⟩ = some (.slice none 0 0) := g0.cell 4
  obtain ⟨f, hf⟩ : ∃ f, fitB mi mi ra ns 0 = f := ⟨_, rfl⟩
  go_wp2_with fail
  refine (fit_any mi mi ra As none ns c1 0 0 VV).mono ?_
  rintro e w1 ⟨rfl, hb1⟩
  rw [hf]
  have hs1 : w.heap.size + 1 ≤ w1.heap.size := by have := hb1.size; have := hb0.size; omega
  have HB := Lib.hid (And.intro (hb0.trans (hb1.mono hb0.size)) (g0.below hb1 (by omega)))
  clear c0 c1x c2 c3 c4 g0 hb0 hb1 hs0
  have c0 : w1.cell? ⟨w.heap.size, 0, none⟩ = some (.int .i64 mi) := HB.out.2.cell 0
  have c1x : w1.cell? ⟨w.heap.size, 1, none⟩ = some (.int .i64 mi) := HB.out.2.cell 1
  have c2 : w1.cell? ⟨w.heap.size, 2, none⟩ = some (.int .i64 ra) := HB.out.2.cell 2
  have c3 : w1.cell? ⟨w.heap.size, 3, none⟩ = some (.slice As ns c1) := HB.out.2.cell 3
  have c4 : w1.cell? ⟨w.heap.size, 4, none⟩ = some (.slice none 0 0) := HB.out.2.cell 4
  have AW : Hid (∀ W, Below w.heap.size w W → Calls Try.prog 12 #[] W fun e w' => e = .returned (.bool true) ∧ Below W.heap.size W w' ∧ Below w.heap.size w w') := fun W hW => (awake_any W).mono (fun e w' h => ⟨h.1, h.2, hW.trans (h.2.mono hW.size)⟩)
  cases f with
  | false =>
    go_wp2_with fail
    refine (AW.out _ HB.out.1).mono ?_
    rintro e w9 ⟨rfl, _, hb9⟩
    go_wp2_with fail
    go_ret
    exact ⟨by simp, hb9⟩
  | true =>
    have hfit : 0 ≤ mi ∧ mi ≤ mi ∧ mi ≤ 100 ∧ 0 ≤ ra ∧ ra ≤ 100 ∧ ns ≤ 20 ∧ 0 ≤ 100 := by unfold fitB at hf; exact of_decide_eq_true hf
    clear hf
    have HFIT : Hid (0 ≤ mi ∧ mi ≤ mi ∧ mi ≤ 100 ∧ 0 ≤ ra ∧ ra ≤ 100) := ⟨hfit.1, hfit.2.1, hfit.2.2.1, hfit.2.2.2.1, hfit.2.2.2.2.1⟩
    have hns : ns ≤ 20 := hfit.2.2.2.2.2.1
    have hnc : 0 ≤ 100 := hfit.2.2.2.2.2.2
    clear hfit
    go_wp2_with fail
    refine (run_lv mi mi ra As ns c1 st none 0 [] w1 HFIT.out hns (by simp) (HX.out.1.up HB.out.1) HX.out.2.1 (hrn.up HB.out.1) (by simp) (by unfold maxLen; omega)).mono ?_
    rintro e w2 ⟨hb2, v, A3, c3x, A4, c4x, A5, c5x, rfl, hF2, ht2, hi2, hp2⟩
    have HOK : Hid (OkR mi mi ra ([] : List Int).length ns (runK mi mi ra [] st ns)) := runK_ok HFIT.out (by have := HX.out.2.2.2.2.2; omega) ns (by have := HX.out.2.2.2.2.2; omega)
    have HFL : Hid (RunF mi mi st ns (runK mi mi ra [] st ns)) := runK_F HFIT.out (by have := HX.out.2.2.2.2.2; omega) ns (by have := HX.out.2.2.2.2.2; omega)
    obtain ⟨r, hr⟩ : ∃ r, runK mi mi ra [] st ns = r := ⟨_, rfl⟩
    have HRR := Lib.hid hr
    rw [hr] at hF2 ht2 hi2 hp2 HOK HFL ⊢
    clear hr
    obtain ⟨Bv, cv, rfl⟩ := hF2.form
    have hs2 := hb2.size
    have hlt : r.tm.length = ns := HOK.out.ltm
    have hli : r.id.length = ns := HOK.out.lid
    have hlc : r.cp.length = ns := HOK.out.lcp
    rw [hlt] at ht2 ⊢
    rw [hli] at hi2 ⊢
    rw [hlc] at hp2 ⊢
    have HLL := Lib.hid (And.intro hlt (And.intro hli hlc))
    clear hlt hli hlc
    have H2 := Lib.hid (And.intro (HB.out.1.trans (hb2.mono HB.out.1.size)) (And.intro (HB.out.2.below hb2 (by omega)) (And.intro hF2 (And.intro ht2 (And.intro hi2 hp2)))))
    clear hb2 hF2 ht2 hi2 hp2 c0 c1x c2 c3 c4
    unfold lkV
    have HOO : Hid (RunO mi st ns r) := by
      have h8 := HX.out.2.2.2.2.2
      have := runK_O (ra := ra) (mi := mi) (st := st) HFIT.out (by omega) ns (by omega)
      rw [HRR.out] at this
      exact this
    have hb3 : Below w2.heap.size w2 (w2.alloc (.cells #[.int .i64 r.l.mi, .int .i64 r.l.ma, .int .i64 r.l.ra, .bool r.l.dn, .int .i64 r.l.idle, .int .i64 r.l.nx, .slice Bv r.l.fl.length cv] 26)) := (Below.refl _ _).alloc (Nat.le_refl _) _
    have hz3 : w2.heap.size < (w2.alloc (.cells #[.int .i64 r.l.mi, .int .i64 r.l.ma, .int .i64 r.l.ra, .bool r.l.dn, .int .i64 r.l.idle, .int .i64 r.l.nx, .slice Bv r.l.fl.length cv] 26)).heap.size := by simp
    have g3 := Blk.new w2 26 #[.int .i64 r.l.mi, .int .i64 r.l.ma, .int .i64 r.l.ra, .bool r.l.dn, .int .i64 r.l.idle, .int .i64 r.l.nx, .slice Bv r.l.fl.length cv]
    have H3 := Lib.hid (And.intro (H2.out.1.trans (hb3.mono H2.out.1.size)) (And.intro (H2.out.2.1.below hb3 (by omega)) (And.intro (H2.out.2.2.1.up hb3) (And.intro (H2.out.2.2.2.2.1.up hb3) g3))))
    have hlb : ∀ ad, 0 < ns → A4 = some ad → ad.block ≠ w2.heap.size := fun ad h0 hA => by obtain ⟨ad', hA', hb9, _⟩ := H2.out.2.2.2.2.1.2 h0; rw [hA] at hA'; cases hA'; omega
    have HLB := Lib.hid hlb
    clear hb3 g3 hlb
    go_upto_region 4 with fail
    generalize (w2.alloc (.cells #[.int .i64 r.l.mi, .int .i64 r.l.ma, .int .i64 r.l.ra, .bool r.l.dn, .int .i64 r.l.idle, .int .i64 r.l.nx, .slice Bv r.l.fl.length cv] 26)) = V3 at *
    have hO0 : OrI w V3 w2.heap.size (lgM r.l 0) V3 := ⟨⟨_, H3.out.2.2.2.2, H3.out.2.2.1⟩, fun _ _ _ => rfl, Nat.le_refl _, H3.out.1⟩
    have HO0 := Lib.hid hO0
    clear hO0
    go_wp2_with fail
    go_loopw [8] (fun u8 W => ∃ i g : Nat, i ≤ ns ∧ g ≤ i ∧ (i = ns → g = ns) ∧ (∀ I, i < ns → r.id[i]? = some I → ∀ j, g ≤ j → j < i → r.id[j]? = some I) ∧ u8 = .int .i64 (i : Nat) ∧ OrI w V3 w2.heap.size (lgM r.l g) W) (fun u8 _ => ns + 1 - (intOf u8).toNat)
    case atStart => exact ⟨0, 0, by omega, by omega, by omega, fun I _ _ j h1 h2 => by omega, rfl, HO0.out⟩
    case round =>
      obtain ⟨i, g, hi, hgi, hgn, hsame, rfl, hI⟩ := hrel
      have hsW := hI.size
      have HI := Lib.hid hI
      have HSM := Lib.hid (And.intro hgn hsame)
      clear hI hgn hsame
      have hsml : SmL (lgM r.l g) := ⟨by show (r.l.fl.drop g).length ≤ 4000; rw [List.length_drop]; have := (SmL.of HOK.out hns).1; omega, fun e he => (SmL.of HOK.out hns).2 e (List.mem_of_mem_drop he)⟩
      have HSL := Lib.hid hsml
      clear hsml
      obtain ⟨vK, gK, fK⟩ := HI.out.val
      obtain ⟨Bz, cz, rfl⟩ := fK.form
      have gw : Blk wr w.heap.size 49 #[.int .i64 mi, .int .i64 mi, .int .i64 ra, .slice As ns c1, .slice none 0 0] := (HI.out.keep _ (by omega) (by omega)).trans H3.out.2.1
      have c3 : wr.cell? ⟨w.heap.size, 3, none⟩ = some (.slice As ns c1) := gw.cell 3
      unfold lkV at gK
      have x0 : wr.cell? ⟨w2.heap.size, 0, none⟩ = some (.int .i64 (lgM r.l g).mi) := gK.cell 0
      have x1 : wr.cell? ⟨w2.heap.size, 1, none⟩ = some (.int .i64 (lgM r.l g).ma) := gK.cell 1
      have x2 : wr.cell? ⟨w2.heap.size, 2, none⟩ = some (.int .i64 (lgM r.l g).ra) := gK.cell 2
      have x3 : wr.cell? ⟨w2.heap.size, 3, none⟩ = some (.bool (lgM r.l g).dn) := gK.cell 3
      have x4 : wr.cell? ⟨w2.heap.size, 4, none⟩ = some (.int .i64 (lgM r.l g).idle) := gK.cell 4
      have x5 : wr.cell? ⟨w2.heap.size, 5, none⟩ = some (.int .i64 (lgM r.l g).nx) := gK.cell 5
      have x6 : wr.cell? ⟨w2.heap.size, 6, none⟩ = some (.slice Bz (lgM r.l g).fl.length cz) := gK.cell 6
      have HK := Lib.hid (And.intro gK fK)
      clear gw gK fK
      by_cases hlt : i < ns
      · have hlt' : (i : Int) < ns := by omega
        obtain ⟨x, I, p1, p2, p3, p4⟩ := HOO.out.at_ i hlt
        have hsm := HSM.out.2 I hlt p2
        have hIb := runK_b9 HFIT.out HX.out.2.2.2.2.2 hns HRR.out p2
        have hnx := next_lv (lgM r.l g) HSL.out (.slice Bz (lgM r.l g).fl.length cz) wr HK.out.2
        rw [next_g HOO.out HOK.out.ok hgi hlt p2 hsm] at hnx
        have HP := Lib.hid (And.intro p1 (And.intro p2 hsm))
        clear p1 p2 p3 p4 hsm
        unfold lkV at hnx
        go_wp2_with fail
        refine hnx.mono ?_
        clear hnx x0 x1 x2 x3 x4 x5 x6 c3
        rintro e wa ⟨rfl, hba⟩
        dsimp only
        have HA := Lib.hid (HI.out.below hba)
        have hsa := hba.size
        clear hba
        have r4 := HA.out.reads H3.out.2.2.2.1 HLB.out
        obtain ⟨b4, o4, rfl, hb4, k4⟩ := r4.plain (by omega) (by omega)
        have z4 := k4 i (.int .i64 I) (by unfold i64s; rw [List.getElem?_map, HP.out.2.1]; rfl)
        have gw : Blk wa w.heap.size 49 #[.int .i64 mi, .int .i64 mi, .int .i64 ra, .slice As ns c1, .slice none 0 0] := (HA.out.keep _ (by omega) (by omega)).trans H3.out.2.1
        have d0 : wa.cell? ⟨w.heap.size, 0, none⟩ = some (.int .i64 mi) := gw.cell 0
        have kwI : IntKind.i64.wrap (I + mi) = I + mi := IntWalk.i64_in _ (by have := HFIT.out; omega)
        have kwI2 : IntKind.i64.wrap (I + mi - 1) = I + mi - 1 := IntWalk.i64_in _ (by have := HFIT.out; omega)
        clear gw r4
        go_upto_region 11 with fail
        go_cut [78] from 49 to 78 (fun s78 wx => s78 = .bool false ∧ OrI w V3 w2.heap.size (lgM r.l g) wx)
        case first =>
          by_cases h0 : i = 0
          · have q1 : decide ((0 : Int) < (i : Nat)) = false := decide_eq_false (by omega)
            have q1' : decide (0 < i) = false := decide_eq_false (by omega)
            clear h0
            go_quiet (fail)
            generalize hV9 : wa.drewN nq = V9 at *
            have hb9 : Below wa.heap.size wa V9 := by rw [← hV9]; exact below_drewN (Below.refl _ wa) nq
            have h9 := HA.out.below hb9
            clear hb9 hV9
            try go_wp2_with fail
            go_meet
            exact ⟨rfl, h9⟩
          · obtain ⟨i1, hi1⟩ : ∃ i1, i - 1 = i1 := ⟨_, rfl⟩
            have q1 : decide ((0 : Int) < (i : Nat)) = true := decide_eq_true (by omega)
            have q1' : decide (0 < i) = true := decide_eq_true (by omega)
            obtain ⟨J, hJ⟩ : ∃ J, r.id[i1]? = some J := ⟨_, List.getElem?_eq_getElem (by rw [HLL.out.2.1]; omega)⟩
            have hJI := HOO.out.mono i1 i J I (by omega) hJ HP.out.2.1
            have z5 := k4 i1 (.int .i64 J) (by unfold i64s; rw [List.getElem?_map, hJ]; rfl)
            have q2 : decide (I < J) = false := decide_eq_false (by omega)
            have q3 : (i : Int) - 1 = (i1 : Nat) := by omega
            have q4 : IntKind.i64.wrap ((i1 : Nat) : Int) = (i1 : Nat) := IntWalk.i64_in _ (by omega)
            have q5 : ((i1 : Nat) : Int) < ns := by omega
            have q6 : i1 < ns := by omega
            clear h0 hi1 hJ hJI k4
            go_quiet (fail)
            generalize hV9 : wa.drewN nq = V9 at *
            have hb9 : Below wa.heap.size wa V9 := by rw [← hV9]; exact below_drewN (Below.refl _ wa) nq
            have h9 := HA.out.below hb9
            clear hb9 hV9
            try go_wp2_with fail
            go_meet
            exact ⟨rfl, h9⟩
        case rest =>
          obtain ⟨rfl, hcut⟩ := hcut
          have HB9 := Lib.hid hcut
          clear hcut z4 d0 HA
          generalize wc = wB at *
          clear k4 hb4 hsa
          have hsB := HB9.out.size
          obtain ⟨vL, gL, fL⟩ := HB9.out.val
          obtain ⟨By, cy, rfl⟩ := fL.form
          have r4 := HB9.out.reads H3.out.2.2.2.1 HLB.out
          obtain ⟨b4', o4', hAA, hb4, k4⟩ := r4.plain (by omega) (by omega)
          injection hAA with hAA
          injection hAA with e1 e2
          subst e1 e2
          have z4 := k4 i (.int .i64 I) (by unfold i64s; rw [List.getElem?_map, HP.out.2.1]; rfl)
          unfold lkV at gL
          have x0 : wB.cell? ⟨w2.heap.size, 0, none⟩ = some (.int .i64 (lgM r.l g).mi) := gL.cell 0
          have x1 : wB.cell? ⟨w2.heap.size, 1, none⟩ = some (.int .i64 (lgM r.l g).ma) := gL.cell 1
          have x2 : wB.cell? ⟨w2.heap.size, 2, none⟩ = some (.int .i64 (lgM r.l g).ra) := gL.cell 2
          have x3 : wB.cell? ⟨w2.heap.size, 3, none⟩ = some (.bool (lgM r.l g).dn) := gL.cell 3
          have x4 : wB.cell? ⟨w2.heap.size, 4, none⟩ = some (.int .i64 (lgM r.l g).idle) := gL.cell 4
          have x5 : wB.cell? ⟨w2.heap.size, 5, none⟩ = some (.int .i64 (lgM r.l g).nx) := gL.cell 5
          have x6 : wB.cell? ⟨w2.heap.size, 6, none⟩ = some (.slice By (lgM r.l g).fl.length cy) := gL.cell 6
          have HL := Lib.hid (And.intro gL fL)
          clear gL fL r4
          go_upto_region 13 with fail
          obtain ⟨bb, hbb⟩ : ∃ bb : Bool, bb = true ↔ (i = 0 ∨ ∃ J, r.id[i - 1]? = some J ∧ J < I) := by
            by_cases h : (i = 0 ∨ ∃ J, r.id[i - 1]? = some J ∧ J < I)
            · exact ⟨true, by simp [h]⟩
            · exact ⟨false, by simp [h]⟩
          go_cut [92] from 79 to 92 (fun s92 wx => s92 = .bool bb ∧ Below wB.heap.size wB wx)
          case first =>
            clear x0 x1 x2 x3 x4 x5 x6
            by_cases h0 : i = 0
            · have hb1 : bb = true := hbb.2 (.inl h0)
              subst hb1
              have q1 : ((i : Int) == 0) = true := by rw [beq_iff_eq]; omega
              have q2 : decide ((i : Int) = 0) = true := decide_eq_true (by omega)
              have q3 : (i == 0) = true := by rw [beq_iff_eq]; exact h0
              have q4 : decide (i = 0) = true := decide_eq_true h0
              clear h0 hbb
              go_quiet (fail)
              generalize hV9 : wB.drewN nq = V9 at *
              have hb9 : Below wB.heap.size wB V9 := by rw [← hV9]; exact below_drewN (Below.refl _ wB) nq
              clear hV9
              try go_wp2_with fail
              go_meet
              exact ⟨rfl, hb9⟩
            · obtain ⟨i1, hi1⟩ : ∃ i1, i - 1 = i1 := ⟨_, rfl⟩
              obtain ⟨J, hJ⟩ : ∃ J, r.id[i1]? = some J := ⟨_, List.getElem?_eq_getElem (by rw [HLL.out.2.1]; omega)⟩
              have hbj : bb = decide (J < I) := by
                rw [Bool.eq_iff_iff, hbb, decide_eq_true_iff]
                refine ⟨fun h => ?_, fun h => .inr ⟨J, by rw [hi1]; exact hJ, h⟩⟩
                rcases h with h | ⟨J', h1, h2⟩
                · exact absurd h h0
                · rw [hi1, hJ] at h1
                  injection h1 with h1
                  omega
              have q1 : ((i : Int) == 0) = false := by rw [beq_eq_false_iff_ne]; omega
              have q2 : decide ((i : Int) = 0) = false := decide_eq_false (by omega)
              have q3 : (i == 0) = false := by rw [beq_eq_false_iff_ne]; exact h0
              have q4 : decide (i = 0) = false := decide_eq_false h0
              have z5 := k4 i1 (.int .i64 J) (by unfold i64s; rw [List.getElem?_map, hJ]; rfl)
              have q6 : (i : Int) - 1 = (i1 : Nat) := by omega
              have q7 : IntKind.i64.wrap ((i1 : Nat) : Int) = (i1 : Nat) := IntWalk.i64_in _ (by omega)
              have q8 : ((i1 : Nat) : Int) < ns := by omega
              have q9 : i1 < ns := by omega
              clear h0 hi1 hJ k4 hbb
              go_quiet (fail)
              generalize hV9 : wB.drewN nq = V9 at *
              have hb9 : Below wB.heap.size wB V9 := by rw [← hV9]; exact below_drewN (Below.refl _ wB) nq
              clear hV9
              try go_wp2_with fail
              go_meet
              exact ⟨by rw [hbj], hb9⟩
          obtain ⟨rfl, hbC⟩ := hcut
          generalize wc = wC at *
          have HC9 := Lib.hid (HB9.out.below hbC)
          have gC := HL.out.1.below hbC HL.out.1.lt
          have fC := HL.out.2.up hbC
          have hsC := hbC.size
          clear z4 k4 x0 x1 x2 x3 x4 x5 x6 hbb hbC hb4
          go_upto_if 92 with (fail)
          go_cut [11, 12] from 93 to 109 (fun s11 s12 wx => OrI w V3 w2.heap.size (lgM r.l g) wx)
          case first =>
            cases bb with
            | false =>
              go_wp2_with fail
              go_meet
              exact HC9.out
            | true =>
                have hdn := deliv_lv (lgM r.l g) HSL.out (I + mi - 1) (.slice By (lgM r.l g).fl.length cy) wC fC
                rw [deliv_none HOO.out HOK.out.ok hgi hlt HP.out.2.1 HP.out.2.2] at hdn
                unfold lkV at hdn
                have x0 : wC.cell? ⟨w2.heap.size, 0, none⟩ = some (.int .i64 (lgM r.l g).mi) := gC.cell 0
                have x1 : wC.cell? ⟨w2.heap.size, 1, none⟩ = some (.int .i64 (lgM r.l g).ma) := gC.cell 1
                have x2 : wC.cell? ⟨w2.heap.size, 2, none⟩ = some (.int .i64 (lgM r.l g).ra) := gC.cell 2
                have x3 : wC.cell? ⟨w2.heap.size, 3, none⟩ = some (.bool (lgM r.l g).dn) := gC.cell 3
                have x4 : wC.cell? ⟨w2.heap.size, 4, none⟩ = some (.int .i64 (lgM r.l g).idle) := gC.cell 4
                have x5 : wC.cell? ⟨w2.heap.size, 5, none⟩ = some (.int .i64 (lgM r.l g).nx) := gC.cell 5
                have x6 : wC.cell? ⟨w2.heap.size, 6, none⟩ = some (.slice By (lgM r.l g).fl.length cy) := gC.cell 6
                go_wp2_with fail
                refine hdn.mono ?_
                rintro e wd ⟨hbd, vd, ud, rfl, hfd, hpd⟩
                dsimp only at hfd hpd
                obtain ⟨Bd, cd, rfl⟩ := hfd.form
                obtain ⟨Ad, cpd, rfl⟩ := hpd.form
                unfold lkV
                dsimp only [List.length_nil]
                have hbe : Below wd.heap.size wd (wd.alloc (.cells #[.int .i64 (lgM r.l g).mi, .int .i64 (lgM r.l g).ma, .int .i64 (lgM r.l g).ra, .bool (lgM r.l g).dn, .int .i64 (lgM r.l g).idle, .int .i64 (lgM r.l g).nx, .slice Bd (lgM r.l g).fl.length cd] 26)) := (Below.refl _ _).alloc (Nat.le_refl _) _
                have gE := Blk.new wd 26 #[.int .i64 (lgM r.l g).mi, .int .i64 (lgM r.l g).ma, .int .i64 (lgM r.l g).ra, .bool (lgM r.l g).dn, .int .i64 (lgM r.l g).idle, .int .i64 (lgM r.l g).nx, .slice Bd (lgM r.l g).fl.length cd]
                have hsd := hbd.size
                have hbf := hbd.trans (hbe.mono hsd)
                have gF := gC.below hbf (by omega)
                have HG := Lib.hid (HC9.out.below hbf)
                have fF := fC.up hbf
                have fG := hfd.up hbe
                clear gC fC hbe hbf hbd hpd hfd x0 x1 x2 x3 x4 x5 x6 hdn
                go_upto_region 15 with fail
                generalize (wd.alloc (.cells #[.int .i64 (lgM r.l g).mi, .int .i64 (lgM r.l g).ma, .int .i64 (lgM r.l g).ra, .bool (lgM r.l g).dn, .int .i64 (lgM r.l g).idle, .int .i64 (lgM r.l g).nx, .slice Bd (lgM r.l g).fl.length cd] 26)) = Vd at *
                have y0 : Vd.cell? ⟨wd.heap.size, 0, none⟩ = some (.int .i64 (lgM r.l g).mi) := gE.cell 0
                have y1 : Vd.cell? ⟨wd.heap.size, 1, none⟩ = some (.int .i64 (lgM r.l g).ma) := gE.cell 1
                have y2 : Vd.cell? ⟨wd.heap.size, 2, none⟩ = some (.int .i64 (lgM r.l g).ra) := gE.cell 2
                have y3 : Vd.cell? ⟨wd.heap.size, 3, none⟩ = some (.bool (lgM r.l g).dn) := gE.cell 3
                have y4 : Vd.cell? ⟨wd.heap.size, 4, none⟩ = some (.int .i64 (lgM r.l g).idle) := gE.cell 4
                have y5 : Vd.cell? ⟨wd.heap.size, 5, none⟩ = some (.int .i64 (lgM r.l g).nx) := gE.cell 5
                have y6 : Vd.cell? ⟨wd.heap.size, 6, none⟩ = some (.slice Bd (lgM r.l g).fl.length cd) := gE.cell 6
                have x0 : Vd.cell? ⟨w2.heap.size, 0, none⟩ = some (.int .i64 (lgM r.l g).mi) := gF.cell 0
                have x1 : Vd.cell? ⟨w2.heap.size, 1, none⟩ = some (.int .i64 (lgM r.l g).ma) := gF.cell 1
                have x2 : Vd.cell? ⟨w2.heap.size, 2, none⟩ = some (.int .i64 (lgM r.l g).ra) := gF.cell 2
                have x3 : Vd.cell? ⟨w2.heap.size, 3, none⟩ = some (.bool (lgM r.l g).dn) := gF.cell 3
                have x4 : Vd.cell? ⟨w2.heap.size, 4, none⟩ = some (.int .i64 (lgM r.l g).idle) := gF.cell 4
                have x5 : Vd.cell? ⟨w2.heap.size, 5, none⟩ = some (.int .i64 (lgM r.l g).nx) := gF.cell 5
                have x6 : Vd.cell? ⟨w2.heap.size, 6, none⟩ = some (.slice By (lgM r.l g).fl.length cy) := gF.cell 6
                have hsm9 := same_lk (lgM r.l g) (by have := HSL.out.1; omega) (.slice Bd (lgM r.l g).fl.length cd) (.slice By (lgM r.l g).fl.length cy) Vd (fG.low (Nat.zero_le _)) fF
                unfold lkV at hsm9
                go_wp2_with fail
                refine hsm9.mono ?_
                clear hsm9 x0 x1 x2 x3 x4 x5 x6 y0 y1 y2 y3 y4 y5 y6
                rintro e we ⟨rfl, hbe⟩
                have h9 := HG.out.below hbe
                go_wp2_with fail
                go_meet
                exact h9
          have HC := Lib.hid hcut
          clear hcut HC9 gC fC HL HB9
          generalize wc = wD at *
          have hsD := HC.out.size
          obtain ⟨vM, gM, fM⟩ := HC.out.val
          obtain ⟨Bm, cm, rfl⟩ := fM.form
          have r4 := HC.out.reads H3.out.2.2.2.1 HLB.out
          obtain ⟨b4', o4', hAA, hb4, k4⟩ := r4.plain (by omega) (by omega)
          injection hAA with hAA
          injection hAA with e1 e2
          subst e1 e2
          have z4 := k4 i (.int .i64 I) (by unfold i64s; rw [List.getElem?_map, HP.out.2.1]; rfl)
          have gw : Blk wD w.heap.size 49 #[.int .i64 mi, .int .i64 mi, .int .i64 ra, .slice As ns c1, .slice none 0 0] := (HC.out.keep _ (by omega) (by omega)).trans H3.out.2.1
          have c3 : wD.cell? ⟨w.heap.size, 3, none⟩ = some (.slice As ns c1) := gw.cell 3
          clear gw r4
          unfold lkV at gM
          have HM := Lib.hid (And.intro gM fM)
          clear gM fM
          obtain ⟨bb, hbb⟩ : ∃ bb : Bool, bb = true ↔ r.id[i + 1]? = some I := by
            by_cases h : r.id[i + 1]? = some I
            · exact ⟨true, by simp [h]⟩
            · exact ⟨false, by simp [h]⟩
          obtain ⟨i2, hi2⟩ : ∃ i2, i + 1 = i2 := ⟨_, rfl⟩
          have q6 : (i : Int) + 1 = (i2 : Nat) := by omega
          have q7 : IntKind.i64.wrap ((i2 : Nat) : Int) = (i2 : Nat) := IntWalk.i64_in _ (by omega)
          rw [hi2] at hbb
          have HI2 := Lib.hid hi2
          go_upto_region 17 with fail
          go_cut [126] from 109 to 126 (fun s126 wx => s126 = .bool bb ∧ Below wD.heap.size wD wx)
          case first =>
            by_cases h2 : i2 < ns
            · obtain ⟨J, hJ⟩ : ∃ J, r.id[i2]? = some J := ⟨_, List.getElem?_eq_getElem (by rw [HLL.out.2.1]; omega)⟩
              have hbj : bb = (J == I) := by
                rw [Bool.eq_iff_iff, hbb, hJ, beq_iff_eq]
                exact ⟨fun h => by injection h, fun h => by rw [h]⟩
              have hbj2 : bb = decide (J = I) := by
                rw [Bool.eq_iff_iff, hbb, hJ, decide_eq_true_iff]
                exact ⟨fun h => by injection h, fun h => by rw [h]⟩
              have z5 := k4 i2 (.int .i64 J) (by unfold i64s; rw [List.getElem?_map, hJ]; rfl)
              have q1 : decide (((i2 : Nat) : Int) < ns) = true := decide_eq_true (by omega)
              have q2 : decide (i2 < ns) = true := decide_eq_true h2
              have q8 : ((i2 : Nat) : Int) < ns := by omega
              clear hJ k4 hbb hi2
              go_quiet (fail)
              generalize hV9 : wD.drewN nq = V9 at *
              have hb9 : Below wD.heap.size wD V9 := by rw [← hV9]; exact below_drewN (Below.refl _ wD) nq
              clear hV9
              try go_wp2_with fail
              go_meet
              exact ⟨by first | rw [hbj] | rw [hbj2], hb9⟩
            · have hbf : bb = false := by
                rw [← Bool.not_eq_true, hbb, List.getElem?_eq_none (by rw [HLL.out.2.1]; omega)]
                nofun
              have q1 : decide (((i2 : Nat) : Int) < ns) = false := decide_eq_false (by omega)
              have q2 : decide (i2 < ns) = false := decide_eq_false h2
              clear h2 k4 hbb hi2
              go_quiet (fail)
              generalize hV9 : wD.drewN nq = V9 at *
              have hb9 : Below wD.heap.size wD V9 := by rw [← hV9]; exact below_drewN (Below.refl _ wD) nq
              clear hV9
              try go_wp2_with fail
              go_meet
              exact ⟨by rw [hbf], hb9⟩
          obtain ⟨rfl, hbC⟩ := hcut
          generalize wc = wE at *
          have HE9 := Lib.hid (HC.out.below hbC)
          have gC := HM.out.1.below hbC HM.out.1.lt
          have fC := HM.out.2.up hbC
          have hsC := hbC.size
          clear z4 k4 hbC hb4 c3 HM hi2 q6 q7
          have HBB := Lib.hid hbb
          clear hbb
          cases bb with
          | true =>
            have hl2 : i + 1 < ns := by have h8 := (List.getElem?_eq_some_iff.1 (HBB.out.1 rfl)).1; rw [HLL.out.2.1, ← HI2.out] at h8; exact h8
            go_wp2_with fail
            go_roundw
            case rel =>
              refine ⟨i + 1, g, by omega, by omega, fun e => by omega, fun I' _ hI' j h1 h2 => ?_, by go_num, HE9.out⟩
              rw [HI2.out, HBB.out.1 rfl] at hI'
              injection hI' with hI'
              subst hI'
              exact same_id hgi HP.out.2.1 HP.out.2.2 j h1 (by omega)
            case measure => simp [intOf]; omega
          | false =>
            have hgt : ∀ J, r.id[i + 1]? = some J → I < J := by
              intro J hJ
              have h1 := HOO.out.mono i (i + 1) I J (by omega) HP.out.2.1 hJ
              have h2 : J ≠ I := by
                intro e
                rw [HI2.out, e] at hJ
                have := HBB.out.2 hJ
                cases this
              omega
            have hdn := deliv_lv (lgM r.l g) HSL.out (I + mi) (.slice Bm (lgM r.l g).fl.length cm) wE fC
            rw [deliv_some HOO.out HOK.out.ok hgi hlt HP.out.2.1 HP.out.2.2 hgt] at hdn
            obtain ⟨hPl, hPi⟩ := last_p HOO.out hgi hlt HP.out.1
            obtain ⟨PP, hPP⟩ : ∃ PP, ((r.l.fl.drop g).take (i + 1 - g)).map Em.p = PP := ⟨_, rfl⟩
            rw [hPP] at hdn hPl hPi
            unfold lkV at hdn
            have HPL := Lib.hid hPl
            clear hPP hgt hPl
            have x0 : wE.cell? ⟨w2.heap.size, 0, none⟩ = some (.int .i64 (lgM r.l g).mi) := gC.cell 0
            have x1 : wE.cell? ⟨w2.heap.size, 1, none⟩ = some (.int .i64 (lgM r.l g).ma) := gC.cell 1
            have x2 : wE.cell? ⟨w2.heap.size, 2, none⟩ = some (.int .i64 (lgM r.l g).ra) := gC.cell 2
            have x3 : wE.cell? ⟨w2.heap.size, 3, none⟩ = some (.bool (lgM r.l g).dn) := gC.cell 3
            have x4 : wE.cell? ⟨w2.heap.size, 4, none⟩ = some (.int .i64 (lgM r.l g).idle) := gC.cell 4
            have x5 : wE.cell? ⟨w2.heap.size, 5, none⟩ = some (.int .i64 (lgM r.l g).nx) := gC.cell 5
            have x6 : wE.cell? ⟨w2.heap.size, 6, none⟩ = some (.slice Bm (lgM r.l g).fl.length cm) := gC.cell 6
            go_wp2_with fail
            refine hdn.mono ?_
            rintro e wd ⟨hbd, vd, ud, rfl, hfd, hpd⟩
            dsimp only at hfd hpd
            obtain ⟨Bd, cd, rfl⟩ := hfd.form
            unfold lkV
            dsimp only
            have hbe : Below wd.heap.size wd (wd.alloc (.cells #[.int .i64 (lgM r.l (i + 1)).mi, .int .i64 (lgM r.l (i + 1)).ma, .int .i64 (lgM r.l (i + 1)).ra, .bool (lgM r.l (i + 1)).dn, .int .i64 (lgM r.l (i + 1)).idle, .int .i64 (lgM r.l (i + 1)).nx, .slice Bd (lgM r.l (i + 1)).fl.length cd] 26)) := (Below.refl _ _).alloc (Nat.le_refl _) _
            have gE := Blk.new wd 26 #[.int .i64 (lgM r.l (i + 1)).mi, .int .i64 (lgM r.l (i + 1)).ma, .int .i64 (lgM r.l (i + 1)).ra, .bool (lgM r.l (i + 1)).dn, .int .i64 (lgM r.l (i + 1)).idle, .int .i64 (lgM r.l (i + 1)).nx, .slice Bd (lgM r.l (i + 1)).fl.length cd]
            have hsd := hbd.size
            have hbf := hbd.trans (hbe.mono hsd)
            have HG := Lib.hid (HE9.out.below hbf)
            have fG := Lib.hid (hfd.up hbe)
            have hpG := hpd.up hbe
            have hsG := hbf.size
            clear gC fC hbe hbf hbd hpd hfd x0 x1 x2 x3 x4 x5 x6 hdn
            go_upto_region 19 with fail
            generalize (wd.alloc (.cells #[.int .i64 (lgM r.l (i + 1)).mi, .int .i64 (lgM r.l (i + 1)).ma, .int .i64 (lgM r.l (i + 1)).ra, .bool (lgM r.l (i + 1)).dn, .int .i64 (lgM r.l (i + 1)).idle, .int .i64 (lgM r.l (i + 1)).nx, .slice Bd (lgM r.l (i + 1)).fl.length cd] 26)) = Vd at *
            have HGE := Lib.hid gE
            clear gE
            have hPl := HPL.out
            have hil : i - g < PP.length := by omega
            obtain ⟨b, off, cu, xA, xc, rfl, hbw, hc0, hrp⟩ := hpG.at_ hil
            have hpe : PP[i - g] = payM x.s i := by
              have := List.getElem?_eq_getElem hil
              rw [hPi] at this
              injection this with this
              exact this.symm
            rw [hpe] at hc0 hrp
            obtain ⟨L, hL⟩ : ∃ L, PP.length = L := ⟨_, rfl⟩
            obtain ⟨q, hq⟩ : ∃ q, i - g = q := ⟨_, rfl⟩
            rw [hL] at hPl hil
            rw [hL]
            rw [hq] at hil hc0
            have hL1 : (L : Int) - 1 = (q : Nat) := by omega
            have hL2 : ((L : Int) == 0) = false := by rw [beq_eq_false_iff_ne]; omega
            have hL3 : ((q : Nat) : Int) < L := by omega
            have hL4 : IntKind.i64.wrap ((q : Nat) : Int) = (q : Nat) := IntWalk.i64_in _ (by omega)
            clear hpG hpe hPi hL hq hPl
            have hkl : i < st.length := by have := HX.out.2.2.2.2.2; omega
            obtain ⟨bs, os, hAs, hbs, hcs⟩ := (HX.out.1.up HG.out.bel).elems (E := encSp) (fun _ => rfl) (by omega) (by omega)
            have hxg : st[i] = x := by
              have := List.getElem?_eq_getElem hkl
              rw [HP.out.1] at this
              injection this with this
              exact this.symm
            have s0 := hcs i hkl 0 _ rfl
            have s1 := hcs i hkl 1 _ rfl
            have hxx := HX.out.2.1 _ (List.getElem_mem hkl)
            rw [hxg] at s0 s1 hxx
            obtain ⟨xs, xt⟩ := x
            dsimp only at s0 s1 hxx hrp hc0
            rw [Nat.add_zero] at s0
            rw [← Nat.add_assoc] at s1
            subst hAs
            have gw : Blk Vd w.heap.size 49 #[.int .i64 mi, .int .i64 mi, .int .i64 ra, .slice (some ⟨bs, os, none⟩) ns c1, .slice none 0 0] := (HG.out.keep _ (by omega) (by omega)).trans H3.out.2.1
            have c3 : Vd.cell? ⟨w.heap.size, 3, none⟩ = some (.slice (some ⟨bs, os, none⟩) ns c1) := gw.cell 3
            have hlw : w.heap.size < Vd.heap.size := gw.lt
            clear gw hcs hxg
            have hk256 : i < 256 := by omega
            obtain ⟨p, hp⟩ : ∃ p, payM xs i = p := ⟨_, rfl⟩
            have KP : Hid (∀ W, Calls Try.prog 24 #[.agg #[.int .u8 (xs : Nat), .int .u8 (xt : Nat)], .int .i64 (i : Nat)] W fun e w' => (∃ v, e = .returned v ∧ w'.ownsRow W.heap.size 5 1 v p.length (u8s p)) ∧ Below W.heap.size W w') := fun W => by rw [← hp]; exact payload_any xs xt i W hxx.1 hk256
            rw [hp] at hc0 hrp
            obtain ⟨pl, hpp⟩ : ∃ pl, p.length = pl := ⟨_, rfl⟩
            rw [hpp] at hc0 hrp
            clear hp hpp
            refine wp_pan (Pc := fun _ _ _ => False) (fun _ _ _ h => h.elim) ?_
            refine wp_region_tail_lit (S := fun V => V.cell? ⟨b, off + q, none⟩ = some (.slice xA pl xc) ∧ V.cell? ⟨bs, os + i * 2, none⟩ = some (.int .u8 (xs : Nat)) ∧ V.cell? ⟨bs, os + i * 2 + 1, none⟩ = some (.int .u8 (xt : Nat)) ∧ V.cell? ⟨w.heap.size, 3, none⟩ = some (.slice (some ⟨bs, os, none⟩) ns c1) ∧ Reads V V.heap.size 1 xA pl (u8s p)) 21 (by kernel_rfl) (by kernel_rfl) ⟨(((Below.refl Vd.heap.size Vd).drew).cell (p := ⟨b, off + q, none⟩) hbw).trans hc0, (((Below.refl Vd.heap.size Vd).drew).cell (p := ⟨bs, os + i * 2, none⟩) hbs).trans s0, (((Below.refl Vd.heap.size Vd).drew).cell (p := ⟨bs, os + i * 2 + 1, none⟩) hbs).trans s1, (((Below.refl Vd.heap.size Vd).drew).cell (p := ⟨w.heap.size, 3, none⟩) hlw).trans c3, hrp.up ((Below.refl Vd.heap.size Vd).drew)⟩ (fun hHeld => ?_)
            simp only [List.take, List.drop]
            refine wpAnyH_take (i := 0) (oi := _) (v := ?_) rfl (by kernel_rfl) (by kernel_rfl) (by kernel_rfl) (fun _ _ _ h => h) (Or.inl ⟨by rfl, ?_⟩) (by assumption) ?_
            rotate_left 1
            · (intro w9 hS9; (try dsimp only at hS9); go_simp <;> with_reducible rfl)
            try simp only [List.getElem_toArray, List.getElem_cons_succ, List.getElem_cons_zero, Act.put, List.setIfInBounds_toArray, List.set_cons_zero, List.set_cons_succ]
            refine wpAnyH_take (i := 1) (oi := _) (v := ?_) rfl (by kernel_rfl) (by kernel_rfl) (by kernel_rfl) (fun _ _ _ h => h) (Or.inl ⟨by rfl, ?_⟩) (by assumption) ?_
            rotate_left 1
            · (intro w9 hS9; (try dsimp only at hS9); go_simp <;> with_reducible rfl)
            try simp only [List.getElem_toArray, List.getElem_cons_succ, List.getElem_cons_zero, Act.put, List.setIfInBounds_toArray, List.set_cons_zero, List.set_cons_succ]
            refine wpAnyH_take (i := 2) (oi := _) (v := ?_) rfl (by kernel_rfl) (by kernel_rfl) (by kernel_rfl) (fun _ _ _ h => h) (Or.inl ⟨by rfl, ?_⟩) (by assumption) ?_
            rotate_left 1
            · (intro w9 hS9; (try dsimp only at hS9); go_simp <;> with_reducible rfl)
            try simp only [List.getElem_toArray, List.getElem_cons_succ, List.getElem_cons_zero, Act.put, List.setIfInBounds_toArray, List.set_cons_zero, List.set_cons_succ]
            refine wpAnyH_take (i := 3) (oi := _) (v := ?_) rfl (by kernel_rfl) (by kernel_rfl) (by kernel_rfl) (fun _ _ _ h => h) (Or.inl ⟨by rfl, ?_⟩) (by assumption) ?_
            rotate_left 1
            · (intro w9 hS9; (try dsimp only at hS9); go_simp <;> with_reducible rfl)
            try simp only [List.getElem_toArray, List.getElem_cons_succ, List.getElem_cons_zero, Act.put, List.setIfInBounds_toArray, List.set_cons_zero, List.set_cons_succ]
            refine wpAnyH_take (i := 4) (oi := _) (v := ?_) rfl (by kernel_rfl) (by kernel_rfl) (by kernel_rfl) (fun _ _ _ h => h) (Or.inl ⟨by rfl, ?_⟩) (by assumption) ?_
            rotate_left 1
            · (intro w9 hS9; (try dsimp only at hS9); go_simp <;> with_reducible rfl)
            try simp only [List.getElem_toArray, List.getElem_cons_succ, List.getElem_cons_zero, Act.put, List.setIfInBounds_toArray, List.set_cons_zero, List.set_cons_succ]
            refine wpAnyH_take (i := 5) (oi := _) (v := ?_) rfl (by kernel_rfl) (by kernel_rfl) (by kernel_rfl) (fun _ _ _ h => h) (Or.inl ⟨by rfl, ?_⟩) (by assumption) ?_
            rotate_left 1
            · (intro w9 hS9; (try dsimp only at hS9); go_simp <;> with_reducible rfl)
            try simp only [List.getElem_toArray, List.getElem_cons_succ, List.getElem_cons_zero, Act.put, List.setIfInBounds_toArray, List.set_cons_zero, List.set_cons_succ]
            refine wpAnyH_take (i := 6) (oi := _) (v := ?_) rfl (by kernel_rfl) (by kernel_rfl) (by kernel_rfl) (fun _ _ _ h => h) (Or.inl ⟨by rfl, ?_⟩) (by assumption) ?_
            rotate_left 1
            · (intro w9 hS9; (try dsimp only at hS9); go_simp <;> with_reducible rfl)
            try simp only [List.getElem_toArray, List.getElem_cons_succ, List.getElem_cons_zero, Act.put, List.setIfInBounds_toArray, List.set_cons_zero, List.set_cons_succ]
            refine wpAnyH_take (i := 7) (oi := _) (v := ?_) rfl (by kernel_rfl) (by kernel_rfl) (by kernel_rfl) (fun _ _ _ h => h) (Or.inl ⟨by rfl, ?_⟩) (by assumption) ?_
            rotate_left 1
            · (intro w9 hS9; (try dsimp only at hS9); go_simp <;> with_reducible rfl)
            try simp only [List.getElem_toArray, List.getElem_cons_succ, List.getElem_cons_zero, Act.put, List.setIfInBounds_toArray, List.set_cons_zero, List.set_cons_succ]
            refine wpAnyH_take (i := 8) (oi := _) (v := ?_) rfl (by kernel_rfl) (by kernel_rfl) (by kernel_rfl) (fun _ _ _ h => h) (Or.inl ⟨by rfl, ?_⟩) (by assumption) ?_
            rotate_left 1
            · (intro w9 hS9; (try dsimp only at hS9); go_simp <;> with_reducible rfl)
            try simp only [List.getElem_toArray, List.getElem_cons_succ, List.getElem_cons_zero, Act.put, List.setIfInBounds_toArray, List.set_cons_zero, List.set_cons_succ]
            refine wpAnyH_take (i := 9) (oi := _) (v := ?_) rfl (by kernel_rfl) (by kernel_rfl) (by kernel_rfl) (fun _ _ _ h => h) (Or.inl ⟨by rfl, ?_⟩) (by assumption) ?_
            rotate_left 1
            · (intro w9 hS9; (try dsimp only at hS9); go_simp <;> with_reducible rfl)
            try simp only [List.getElem_toArray, List.getElem_cons_succ, List.getElem_cons_zero, Act.put, List.setIfInBounds_toArray, List.set_cons_zero, List.set_cons_succ]
            refine wpAnyH_take (i := 10) (oi := _) (v := ?_) rfl (by kernel_rfl) (by kernel_rfl) (by kernel_rfl) (fun _ _ _ h => h) (Or.inl ⟨by rfl, ?_⟩) (by assumption) ?_
            rotate_left 1
            · (intro w9 hS9; (try dsimp only at hS9); have r1 := run_str w9 _ xc _ p (by have h9 := hS9.2.2.2.2; exact h9); go_simp <;> with_reducible rfl)
            try simp only [List.getElem_toArray, List.getElem_cons_succ, List.getElem_cons_zero, Act.put, List.setIfInBounds_toArray, List.set_cons_zero, List.set_cons_succ]
            refine wpAnyH_take (i := 11) (oi := _) (v := ?_) rfl (by kernel_rfl) (by kernel_rfl) (by kernel_rfl) (fun _ _ _ h => h) (Or.inl ⟨by rfl, ?_⟩) (by assumption) ?_
            rotate_left 1
            · (intro w9 hS9; (try dsimp only at hS9); go_simp <;> with_reducible rfl)
            try simp only [List.getElem_toArray, List.getElem_cons_succ, List.getElem_cons_zero, Act.put, List.setIfInBounds_toArray, List.set_cons_zero, List.set_cons_succ]
            refine wpAnyH_take (i := 12) (oi := _) (v := ?_) rfl (by kernel_rfl) (by kernel_rfl) (by kernel_rfl) (fun _ _ _ h => h) (Or.inl ⟨by rfl, ?_⟩) (by assumption) ?_
            rotate_left 1
            · (intro w9 hS9; (try dsimp only at hS9); go_simp <;> with_reducible rfl)
            try simp only [List.getElem_toArray, List.getElem_cons_succ, List.getElem_cons_zero, Act.put, List.setIfInBounds_toArray, List.set_cons_zero, List.set_cons_succ]
            refine wpAnyH_take (i := 13) (oi := _) (v := ?_) rfl (by kernel_rfl) (by kernel_rfl) (by kernel_rfl) (fun _ _ _ h => h) (Or.inl ⟨by rfl, ?_⟩) (by assumption) ?_
            rotate_left 1
            · (intro w9 hS9; (try dsimp only at hS9); go_simp <;> with_reducible rfl)
            try simp only [List.getElem_toArray, List.getElem_cons_succ, List.getElem_cons_zero, Act.put, List.setIfInBounds_toArray, List.set_cons_zero, List.set_cons_succ]
            refine wpAnyH_take (i := 14) (oi := _) (v := ?_) rfl (by kernel_rfl) (by kernel_rfl) (by kernel_rfl) (fun _ _ _ h => h) (Or.inl ⟨by rfl, ?_⟩) (by assumption) ?_
            rotate_left 1
            · (intro w9 hS9; (try dsimp only at hS9); go_simp <;> with_reducible rfl)
            try simp only [List.getElem_toArray, List.getElem_cons_succ, List.getElem_cons_zero, Act.put, List.setIfInBounds_toArray, List.set_cons_zero, List.set_cons_succ]
            refine wpAnyH_take (i := 15) (oi := _) (v := ?_) rfl (by kernel_rfl) (by kernel_rfl) (by kernel_rfl) (fun _ _ _ h => h) (Or.inl ⟨by rfl, ?_⟩) (by assumption) ?_
            rotate_left 1
            · (intro w9 hS9; (try dsimp only at hS9); go_simp <;> with_reducible rfl)
            try simp only [List.getElem_toArray, List.getElem_cons_succ, List.getElem_cons_zero, Act.put, List.setIfInBounds_toArray, List.set_cons_zero, List.set_cons_succ]
            refine wpAnyH_take (i := 16) (oi := _) (v := ?_) rfl (by kernel_rfl) (by kernel_rfl) (by kernel_rfl) (fun _ _ _ h => h) (Or.inl ⟨by rfl, ?_⟩) (by assumption) ?_
            rotate_left 1
            · (intro w9 hS9; (try dsimp only at hS9); go_simp <;> with_reducible rfl)
            try simp only [List.getElem_toArray, List.getElem_cons_succ, List.getElem_cons_zero, Act.put, List.setIfInBounds_toArray, List.set_cons_zero, List.set_cons_succ]
            refine wpAnyH_ready (rs := [17]) (by kernel_rfl) (by simp) ?_
            refine AllReadyH.cons (o := _) rfl (fun K hK => ?_) AllReadyH.nil
            try simp only [List.getElem_toArray, List.getElem_cons_succ, List.getElem_cons_zero]
            try rw [if_pos (show Region.wanted _ _ = true from rfl)]
            go_simp
            refine (KP.out Vd.drew).mono ?_
            rintro e wz ⟨⟨vz, rfl, hvz⟩, hbz⟩
            obtain ⟨Az, cz9, rfl, _, _, hrz⟩ := own_slice hvz
            have hwz : Below Vd.heap.size Vd wz := ((Below.refl _ Vd).drew).trans hbz
            clear hbz hvz
            go_wp2_with fail
            refine hK.out _ _ ⟨(hwz.cell (p := ⟨b, off + q, none⟩) hbw).trans hc0, (hwz.cell (p := ⟨bs, os + i * 2, none⟩) hbs).trans s0, (hwz.cell (p := ⟨bs, os + i * 2 + 1, none⟩) hbs).trans s1, (hwz.cell (p := ⟨w.heap.size, 3, none⟩) hlw).trans c3, hrp.up hwz⟩ (fun hHeld => ?_)
            clear hK K
            try simp only [List.getElem_toArray, List.getElem_cons_succ, List.getElem_cons_zero, Act.put, List.setIfInBounds_toArray, List.set_cons_zero, List.set_cons_succ]
            refine wpAnyH_ready (rs := [18]) (by kernel_rfl) (by simp) ?_
            refine AllReadyH.cons (o := _) rfl (fun K hK => ?_) AllReadyH.nil
            try simp only [List.getElem_toArray, List.getElem_cons_succ, List.getElem_cons_zero]
            try rw [if_pos (show Region.wanted _ _ = true from rfl)]
            have r2 := run_str wz _ cz9 Az p hrz
            go_simp
            refine hK.out _ _ ⟨(hwz.cell (p := ⟨b, off + q, none⟩) hbw).trans hc0, (hwz.cell (p := ⟨bs, os + i * 2, none⟩) hbs).trans s0, (hwz.cell (p := ⟨bs, os + i * 2 + 1, none⟩) hbs).trans s1, (hwz.cell (p := ⟨w.heap.size, 3, none⟩) hlw).trans c3, hrp.up hwz⟩ (fun hHeld => ?_)
            clear hK K
            try simp only [List.getElem_toArray, List.getElem_cons_succ, List.getElem_cons_zero, Act.put, List.setIfInBounds_toArray, List.set_cons_zero, List.set_cons_succ]
            refine wpAnyH_take (i := 19) (oi := _) (v := ?_) rfl (by kernel_rfl) (by kernel_rfl) (by kernel_rfl) (fun _ _ _ h => h) (Or.inl ⟨by rfl, ?_⟩) (by assumption) ?_
            rotate_left 1
            · (intro w9 hS9; (try dsimp only at hS9); go_simp <;> with_reducible rfl)
            try simp only [List.getElem_toArray, List.getElem_cons_succ, List.getElem_cons_zero, Act.put, List.setIfInBounds_toArray, List.set_cons_zero, List.set_cons_succ]
            refine wpAnyH_take (i := 20) (oi := _) (v := ?_) rfl (by kernel_rfl) (by kernel_rfl) (by kernel_rfl) (fun _ _ _ h => h) (Or.inl ⟨by rfl, ?_⟩) (by assumption) ?_
            rotate_left 1
            · (intro w9 hS9; (try dsimp only at hS9); go_simp <;> with_reducible rfl)
            try simp only [List.getElem_toArray, List.getElem_cons_succ, List.getElem_cons_zero, Act.put, List.setIfInBounds_toArray, List.set_cons_zero, List.set_cons_succ]
            refine wpAnyH_done (by kernel_rfl) ?_ _
            refine tailQ_nil (panQ_normal ?_)
            have hsz9 := hwz.size
            have HZ := Lib.hid (HG.out.below hwz)
            have gZ := HGE.out.below hwz HGE.out.lt
            have fZ := Lib.hid (fG.out.up hwz)
            obtain ⟨vO, gO, _⟩ := HZ.out.val
            clear hc0 s0 s1 c3 hrp hrz r2
            have x0 : wz.cell? ⟨wd.heap.size, 0, none⟩ = some (.int .i64 (lgM r.l (i + 1)).mi) := gZ.cell 0
            have x1 : wz.cell? ⟨wd.heap.size, 1, none⟩ = some (.int .i64 (lgM r.l (i + 1)).ma) := gZ.cell 1
            have x2 : wz.cell? ⟨wd.heap.size, 2, none⟩ = some (.int .i64 (lgM r.l (i + 1)).ra) := gZ.cell 2
            have x3 : wz.cell? ⟨wd.heap.size, 3, none⟩ = some (.bool (lgM r.l (i + 1)).dn) := gZ.cell 3
            have x4 : wz.cell? ⟨wd.heap.size, 4, none⟩ = some (.int .i64 (lgM r.l (i + 1)).idle) := gZ.cell 4
            have x5 : wz.cell? ⟨wd.heap.size, 5, none⟩ = some (.int .i64 (lgM r.l (i + 1)).nx) := gZ.cell 5
            have x6 : wz.cell? ⟨wd.heap.size, 6, none⟩ = some (.slice Bd (lgM r.l (i + 1)).fl.length cd) := gZ.cell 6
            unfold lkV at gO
            go_wp2_with (refine wpList_store_row rfl _ _ _ rfl (w2.heap.size) _ rfl rfl 26 _ gO (by kernel_rfl) rfl (by simp [Value.oneCell']) ?_)
            have hput := HZ.out.put (K' := lgM r.l (i + 1)) (by omega) fZ.out (by omega)
            unfold lkV at hput
            go_roundw
            case rel =>
              refine ⟨i + 1, i + 1, by omega, by omega, fun e => e, fun I' _ _ j h1 h2 => by omega, by go_num, hput⟩
            case measure => simp [intOf]; omega
      · obtain rfl : i = ns := by omega
        obtain rfl : g = i := HSM.out.1 rfl
        have hlt' : ¬ (g : Int) < g := by omega
        have hfn : (lgM r.l g).fl = [] := by show r.l.fl.drop g = []; exact List.drop_eq_nil_of_le (by rw [HOO.out.len]; exact Nat.le_refl _)
        have hnx := next_lv (lgM r.l g) HSL.out (.slice Bz (lgM r.l g).fl.length cz) wr HK.out.2
        rw [next_nil9 hfn] at hnx
        clear hfn
        unfold lkV at hnx
        go_wp2_with fail
        refine hnx.mono ?_
        clear hnx x0 x1 x2 x3 x4 x5 x6 c3
        rintro e wa ⟨rfl, hba⟩
        have HA := Lib.hid (HI.out.below hba)
        go_wp2_with fail
        refine (AW.out _ HA.out.bel).mono ?_
        rintro e w9 ⟨rfl, _, hb9⟩
        go_wp2_with fail
        go_ret
        exact ⟨by simp, hb9⟩
end Go.Proofs.Ytjaoppopfeonhaa
