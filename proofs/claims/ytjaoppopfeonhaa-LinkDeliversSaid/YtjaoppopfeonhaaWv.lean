/- The walk of the reference's Deliver. Condition: at most 4000 flights, sizes as named. -/
import Derived.Test.YtjaoppopfeonhaaWu
namespace Go.Proofs.Ytjaoppopfeonhaa
open Go.RowKit
set_option linter.unusedSimpArgs false in
set_option maxRecDepth 100000 in
set_option maxHeartbeats 8000000 in
theorem refDeliver_any (mi ma ra : Int) (dn : Bool) (id nx : Int) (A : Option Addr) (m c : Nat) (l : List Ev) (now : Int) (w : World) (hR : Evs w A m l) (hm : m ≤ 4000) (hmc : m ≤ c) (hcm : c ≤ maxLen) (hlp : ∀ e ∈ l, e.p.length ≤ 100000) :
    Calls Try.prog 26 #[.agg (lkC mi ma ra dn id nx A m c), .int .i64 now] w fun e w' => (∃ v u, e = .returned (.tuple #[.agg (lkV (delivM ⟨mi, ma, ra, dn, id, nx, l.map Ev.em⟩ now).1 v), u]) ∧ FlV w' 0 (delivM ⟨mi, ma, ra, dn, id, nx, l.map Ev.em⟩ now).1.fl v ∧ PlV w' 0 (delivM ⟨mi, ma, ra, dn, id, nx, l.map Ev.em⟩ now).2 u) ∧ Below w.heap.size w w' := by
  unfold lkC
  obtain ⟨R, hR0⟩ : ∃ R, delivM ⟨mi, ma, ra, dn, id, nx, l.map Ev.em⟩ now = R := ⟨_, rfl⟩
  rw [hR0]
  unfold delivM at hR0
  have HR := Lib.hid hR0
  clear hR0
  have hlen := hR.count
  obtain ⟨i2, hi2, hy0, hy1, hy2⟩ := info_parts info53e
  obtain ⟨i3, hi3, hz0, hz1, hz2⟩ := info_parts info69b
  have HI0 := Lib.hid (And.intro hi2 (And.intro hy0 (And.intro hy1 hy2)))
  have HI3 := Lib.hid (And.intro hi3 (And.intro hz0 (And.intro hz1 hz2)))
  clear hi2 hy0 hy1 hy2 hi3 hz0 hz1 hz2
  have hb0 : Below w.heap.size w ((w.alloc (.cells #[.int .i64 mi, .int .i64 ma, .int .i64 ra, .bool dn, .int .i64 id, .int .i64 nx, .slice A m c] 26)).alloc (.cells #[.int .i64 0, .int .i64 0, .int .i64 0, .bool false, .int .i64 0, .int .i64 0, .slice none 0 0] 26)) := ((Below.refl _ _).alloc (Nat.le_refl _) _).alloc (by simp) _
  have g0 : Blk ((w.alloc (.cells #[.int .i64 mi, .int .i64 ma, .int .i64 ra, .bool dn, .int .i64 id, .int .i64 nx, .slice A m c] 26)).alloc (.cells #[.int .i64 0, .int .i64 0, .int .i64 0, .bool false, .int .i64 0, .int .i64 0, .slice none 0 0] 26)) w.heap.size 26 #[.int .i64 mi, .int .i64 ma, .int .i64 ra, .bool dn, .int .i64 id, .int .i64 nx, .slice A m c] := (Blk.new w 26 #[.int .i64 mi, .int .i64 ma, .int .i64 ra, .bool dn, .int .i64 id, .int .i64 nx, .slice A m c]).alloc _
  have g1 := Blk.new (w.alloc (.cells #[.int .i64 mi, .int .i64 ma, .int .i64 ra, .bool dn, .int .i64 id, .int .i64 nx, .slice A m c] 26)) 26 #[.int .i64 0, .int .i64 0, .int .i64 0, .bool false, .int .i64 0, .int .i64 0, .slice none 0 0]
  rw [World.size_alloc] at g1
  have hs0 : w.heap.size + 2 ≤ ((w.alloc (.cells #[.int .i64 mi, .int .i64 ma, .int .i64 ra, .bool dn, .int .i64 id, .int .i64 nx, .slice A m c] 26)).alloc (.cells #[.int .i64 0, .int .i64 0, .int .i64 0, .bool false, .int .i64 0, .int .i64 0, .slice none 0 0] 26)).heap.size := by simp
  have HX := Lib.hid (And.intro hR (And.intro hlen hlp))
  clear hR hlen hlp
  go_enter Try.func26, Try.ntmps26
  go_upto_region 1 with fail
  generalize ((w.alloc (.cells #[.int .i64 mi, .int .i64 ma, .int .i64 ra, .bool dn, .int .i64 id, .int .i64 nx, .slice A m c] 26)).alloc (.cells #[.int .i64 0, .int .i64 0, .int .i64 0, .bool false, .int .i64 0, .int .i64 0, .slice none 0 0] 26)) = V at *
  have c0 : V.cell? ⟨w.heap.size, 0, none⟩ = some (.int .i64 mi) := g0.cell 0
  have c1 : V.cell? ⟨w.heap.size, 1, none⟩ = some (.int .i64 ma) := g0.cell 1
  have c2 : V.cell? ⟨w.heap.size, 2, none⟩ = some (.int .i64 ra) := g0.cell 2
  have c3 : V.cell? ⟨w.heap.size, 3, none⟩ = some (.bool dn) := g0.cell 3
  have c4 : V.cell? ⟨w.heap.size, 4, none⟩ = some (.int .i64 id) := g0.cell 4
  have c5 : V.cell? ⟨w.heap.size, 5, none⟩ = some (.int .i64 nx) := g0.cell 5
  have c6 : V.cell? ⟨w.heap.size, 6, none⟩ = some (.slice A m c) := g0.cell 6
  go_wp2_with fail
  refine (refCheck_any mi ma ra dn id nx A m c l V (HX.out.1.up hb0) (by omega)).mono ?_
  rintro e w1 ⟨rfl, hb1⟩
  have hs1 := hb1.size
  have HV := Lib.hid (And.intro (hb0.trans (hb1.mono hb0.size)) (And.intro (g0.below hb1 (by omega)) (g1.below hb1 (by omega))))
  clear c0 c1 c2 c3 c4 c5 c6 g0 g1 hb0 hb1
  have c0 : w1.cell? ⟨w.heap.size, 0, none⟩ = some (.int .i64 mi) := HV.out.2.1.cell 0
  have c1 : w1.cell? ⟨w.heap.size, 1, none⟩ = some (.int .i64 ma) := HV.out.2.1.cell 1
  have c2 : w1.cell? ⟨w.heap.size, 2, none⟩ = some (.int .i64 ra) := HV.out.2.1.cell 2
  have c3 : w1.cell? ⟨w.heap.size, 3, none⟩ = some (.bool dn) := HV.out.2.1.cell 3
  have c4 : w1.cell? ⟨w.heap.size, 4, none⟩ = some (.int .i64 id) := HV.out.2.1.cell 4
  have c5 : w1.cell? ⟨w.heap.size, 5, none⟩ = some (.int .i64 nx) := HV.out.2.1.cell 5
  have c6 : w1.cell? ⟨w.heap.size, 6, none⟩ = some (.slice A m c) := HV.out.2.1.cell 6
  obtain ⟨r, hr⟩ : ∃ r, chkL ⟨mi, ma, ra, dn, id, nx, l.map Ev.em⟩ = r := ⟨_, rfl⟩
  rw [hr]
  by_cases hr0 : r = 0
  rotate_left 1
  · have hr1 : ((r : Int) != 0) = true := by rw [bne_iff_ne]; omega
    have hRR : R = (⟨mi, ma, ra, dn, id, nx, l.map Ev.em⟩, []) := by rw [← HR.out, if_pos (by rw [hr]; exact hr0)]
    subst hRR
    have HR0 := Lib.hid hr0
    clear hr0 HR hr
    go_wp2_with (refine wpList_store_row rfl _ _ _ rfl (w.heap.size + 1) _ rfl rfl 26 _ HV.out.2.2 (by kernel_rfl) rfl (by simp [Value.oneCell']) ?_)
    exact bodyPost_ret (results_cell_tmp (t := 26) (q := 5) rfl _ _ (w.heap.size + 1) _ _ rfl (HV.out.2.2.setRow _) Try.underlying26 rfl (by kernel_rfl)) rfl ⟨⟨.slice A m c, .slice none 0 0, rfl, FlV.of_evs (HX.out.1.up (below_setRow HV.out.1 (by omega) _)) hmc hcm, PlV.nil _ _⟩, below_setRow HV.out.1 (by omega) _⟩
  subst hr0
  have hrr := HR.out
  rw [if_neg (by rw [hr]; simp)] at hrr
  clear HR
  have HR := Lib.hid hrr
  have hmo := mono_of (okL_of hr)
  clear hrr hr
  obtain ⟨q, hq⟩ : ∃ q, atE (laterB now) (l.map Ev.em) = q := ⟨_, rfl⟩
  have HRR := HR.out
  rw [hq] at HRR
  have HR2 := Lib.hid HRR
  clear HRR HR
  have hqlo : ∀ j y, j < q → (l.map Ev.em)[j]? = some y → y.t ≤ now := by
    intro j y hj hy
    rw [← hq] at hj
    unfold atE at hj
    cases hz : idxB (laterB now) (l.map Ev.em) with
    | none =>
      have := idxB_nil hz y (List.mem_of_getElem? hy)
      simp only [laterB, decide_eq_false_iff_not] at this
      omega
    | some k =>
      rw [hz] at hj
      have := (idxB_lt hz).2.1 j y hj hy
      simp only [laterB, decide_eq_false_iff_not] at this
      omega
  have hqhi : ∀ j y, q ≤ j → (l.map Ev.em)[j]? = some y → now < y.t := by
    intro j y hj hy
    rw [← hq] at hj
    unfold atE at hj
    cases hz : idxB (laterB now) (l.map Ev.em) with
    | none => rw [hz] at hj; dsimp only at hj; have := (List.getElem?_eq_some_iff.1 hy).1; omega
    | some k =>
      rw [hz] at hj
      dsimp only at hj
      obtain ⟨_, _, z, hzz, hzl⟩ := idxB_lt hz
      simp only [laterB, decide_eq_true_eq] at hzl
      rcases Nat.lt_or_ge k j with h1 | h1
      · have := hmo k j z y h1 hzz hy
        omega
      · obtain rfl : j = k := by omega
        rw [hzz] at hy
        injection hy with hy
        subst hy
        exact hzl
  have HQ := Lib.hid (And.intro hqlo hqhi)
  have hqm : q ≤ m := by rw [← hq]; have := atE_le (laterB now) (l.map Ev.em); rw [List.length_map, HX.out.2.1] at this; exact this
  clear hmo hq hqlo hqhi
  go_wp2_with fail
  refine (Copy_any mi ma ra dn id nx A m c l w1 (HX.out.1.up HV.out.1) (by omega) HX.out.2.2).mono ?_
  rintro e w3 ⟨hb3, v3, es3, rfl, hE3, _, _⟩
  obtain ⟨B4, d4, rfl⟩ := hE3.form
  obtain ⟨m4, hm4⟩ : ∃ m4, es3.length = m4 := ⟨_, rfl⟩
  rw [hm4]
  have hs3 := hb3.size
  clear hE3 hm4
  unfold lkV
  dsimp only
  have b3 : Below w1.heap.size w1 (w3.alloc (.cells #[.int .i64 mi, .int .i64 ma, .int .i64 ra, .bool dn, .int .i64 id, .int .i64 nx, .slice B4 m4 d4] 26)) := hb3.alloc hb3.size _
  have bo3 := Blk.new w3 26 #[.int .i64 mi, .int .i64 ma, .int .i64 ra, .bool dn, .int .i64 id, .int .i64 nx, .slice B4 m4 d4]
  have hz3 : w3.heap.size + 1 ≤ (w3.alloc (.cells #[.int .i64 mi, .int .i64 ma, .int .i64 ra, .bool dn, .int .i64 id, .int .i64 nx, .slice B4 m4 d4] 26)).heap.size := by simp
  have HV3 := Lib.hid (And.intro (HV.out.1.trans (b3.mono HV.out.1.size)) (And.intro (HV.out.2.1.below b3 (by omega)) (And.intro (HV.out.2.2.below b3 (by omega)) bo3)))
  clear c0 c1 c2 c3 c4 c5 c6 hb3 b3 bo3
  go_upto_region 4 with fail
  generalize (w3.alloc (.cells #[.int .i64 mi, .int .i64 ma, .int .i64 ra, .bool dn, .int .i64 id, .int .i64 nx, .slice B4 m4 d4] 26)) = W3 at *
  have f6 : W3.frozen? ⟨w3.heap.size, 6, none⟩ = false := HV3.out.2.2.2.frozen 6
  have q6 : W3.cell? ⟨w3.heap.size, 6, none⟩ = some (.slice B4 m4 d4) := HV3.out.2.2.2.cell 6
  go_upto_region 5 with fail
  have bo5 : Blk (W3.setCell ⟨w3.heap.size, 6, none⟩ (.slice none 0 0)) w3.heap.size 26 (lkV { mi := mi, ma := ma, ra := ra, dn := dn, idle := id, nx := nx, fl := [] } (.slice none 0 0)) := HV3.out.2.2.2.set_ 6 (.slice none 0 0)
  have hz5 : w3.heap.size + 1 ≤ (W3.setCell ⟨w3.heap.size, 6, none⟩ (.slice none 0 0)).heap.size := by simpa using hz3
  have H0 : Hid (DrI w (w3.heap.size + 1) w3.heap.size #[.int .i64 mi, .int .i64 ma, .int .i64 ra, .bool dn, .int .i64 id, .int .i64 nx, .slice A m c] #[.int .i64 0, .int .i64 0, .int .i64 0, .bool false, .int .i64 0, .int .i64 0, .slice none 0 0] ⟨mi, ma, ra, dn, id, nx, []⟩ (l.map Ev.em) q 0 (.slice none 0 0) (.slice none 0 0) [] [] (W3.setCell ⟨w3.heap.size, 6, none⟩ (.slice none 0 0))) :=
    ⟨HV3.out.2.1.far (p := ⟨w3.heap.size, 6, none⟩) (by simp only; omega) _, HV3.out.2.2.1.far (p := ⟨w3.heap.size, 6, none⟩) (by simp only; omega) _, bo5, World.ownsRow_nil _ _ 37 1, nofun, OwnE.nil _ _, by simp, by simp, nofun, nofun, nofun, nofun, HV3.out.1.setCell (by simp only; omega) _⟩
  clear f6 q6 bo5
  go_wp2_with fail
  generalize (W3.setCell ⟨w3.heap.size, 6, none⟩ (.slice none 0 0)) = V5 at *
  have HLOW : Hid (w.heap.size + 2 ≤ w3.heap.size) := by show _ ≤ _; omega
  generalize w3.heap.size = go at *
  go_loopw [7, 8, 9] (fun u7 u8 _ W => ∃ (k : Nat) (v : Value) (pl : List Pl) (es : List Ev), k ≤ m ∧ u8 = .int .i64 (k : Nat) ∧ DrI w (go + 1) go #[.int .i64 mi, .int .i64 ma, .int .i64 ra, .bool dn, .int .i64 id, .int .i64 nx, .slice A m c] #[.int .i64 0, .int .i64 0, .int .i64 0, .bool false, .int .i64 0, .int .i64 0, .slice none 0 0] ⟨mi, ma, ra, dn, id, nx, []⟩ (l.map Ev.em) q k u7 v pl es W ∧ go + 1 ≤ W.heap.size) (fun _ u8 _ _ => m + 1 - (intOf u8).toNat)
  case atStart => exact ⟨0, _, _, _, by omega, rfl, H0.out, hz5⟩
  case round =>
    obtain ⟨k, v, pl, es, hk, rfl, hI, hgw⟩ := hrel
    obtain ⟨A7, c7', hu7, hca7, hcm7, _⟩ := own_slice hI.row
    subst hu7
    obtain ⟨B5, d5, rfl⟩ := hI.own.form
    have HI := Lib.hid hI
    have hlw := hI.b2.lt
    have q6 : wr.cell? ⟨w.heap.size, 6, none⟩ = some (.slice A m c) := hI.b2.cell 6
    have hpll : pl.length ≤ 4000 := by have h1 := congrArg List.length hI.pp; rw [List.length_map, List.length_map, List.length_take] at h1; omega
    have hesl : es.length ≤ 4000 := by have h1 := congrArg List.length hI.ep; rw [List.length_map, List.length_drop, List.length_take] at h1; omega
    clear hI
    by_cases hlt : k < m
    · have hkl : k < l.length := by have := HX.out.2.1; omega
      obtain ⟨b, off, rfl, hbw, hc⟩ := (HX.out.1.up HI.out.bel).cells (by omega)
      obtain ⟨x0, x1, x2⟩ := hc k _ (List.getElem?_eq_getElem hkl)
      have HS : Hid ((l.map Ev.em)[k]? = some l[k].em) := by show _ = _; rw [List.getElem?_map, List.getElem?_eq_getElem hkl]; rfl
      have hxr := (HX.out.1.ev _ (List.getElem_mem hkl)).up HI.out.bel
      have hxp := HX.out.2.2 _ (List.getElem_mem hkl)
      clear hc
      generalize hlk : l[k] = ev at *
      obtain ⟨xt, xn, xA, xc, xp⟩ := ev
      dsimp only at x0 x1 x2 hxp
      dsimp only [Ev.em] at HS
      clear hlk
      have hxr' : Reads wr wr.heap.size 1 xA xp.length (u8s xp) := hxr
      have ik : (k : Int) < m := by omega
      go_upto_region 10 with fail
      have bx := Blk.new wr 69 #[.int .i64 xt, .int .i64 xn, .slice xA xp.length xc]
      have hbz : Below wr.heap.size wr (wr.alloc (.cells #[.int .i64 xt, .int .i64 xn, .slice xA xp.length xc] 69)) := (Below.refl _ _).alloc (Nat.le_refl _) _
      have hzz : wr.heap.size + 1 ≤ (wr.alloc (.cells #[.int .i64 xt, .int .i64 xn, .slice xA xp.length xc] 69)).heap.size := by simp
      clear x0 x1 x2 q6
      generalize (wr.alloc (.cells #[.int .i64 xt, .int .i64 xn, .slice xA xp.length xc] 69)) = wz at *
      have HZ := Lib.hid (And.intro (HI.out.below hbz) (And.intro bx (hxr'.up hbz)))
      have x0 : wz.cell? ⟨wr.heap.size, 0, none⟩ = some (.int .i64 xt) := bx.cell 0
      have x2 : wz.cell? ⟨wr.heap.size, 2, none⟩ = some (.slice xA xp.length xc) := bx.cell 2
      have HBZ := Lib.hid hbz
      clear bx hbz hxr hxr'
      rcases Nat.lt_or_ge k q with hkq | hkq
      · have hle : xt ≤ now := HQ.out.1 k _ hkq HS.out
        go_wp2_with fail
        refine (refcopied_any xA xp.length xc xp wz HZ.out.2.2 hxp).mono ?_
        rintro e w7 ⟨⟨v7, rfl, hv7⟩, hb7⟩
        obtain ⟨P7, c7, rfl, _, _, hr7⟩ := own_slice hv7
        have hf7 := own_addr hv7
        have hs7 := hb7.size
        have HZ7 := Lib.hid ((HZ.out.1.below hb7).below ((Below.refl _ w7).alloc (Nat.le_refl _) (.cells #[.slice P7 xp.length c7] 37)))
        have hr2 := HZ7.out.row
        have her := elem_reads w7 #[.slice P7 xp.length c7] 37
        have hsz : (w7.alloc (.cells #[.slice P7 xp.length c7] 37)).heap.size = w7.heap.size + 1 := by simp
        have hx7 : PlR (w7.alloc (.cells #[.slice P7 xp.length c7] 37)) ⟨P7, c7, xp⟩ := Reads.up hr7 ((Below.refl _ w7).alloc (Nat.le_refl _) _)
        have HH := Lib.hid (And.intro hx7 hf7)
        clear hb7 hv7 hr7 hx7 hf7 x0 x2
        go_wp2_with (at_builtin; go_must (refine wpList_append_any (w7.alloc (.cells #[.slice P7 xp.length c7] 37)) rfl (.tmp 33) (.tmp 37) _ rfl (go + 1) 37 i2 _ 1 24 Try.underlying53 HI0.out.1 HI0.out.2.1 HI0.out.2.2.1 HI0.out.2.2.2 rfl (by omega) (.slice A7 pl.length c7') pl.length (pl.map encPl) rfl hr2 (w7.heap.size + 1) (some ⟨w7.heap.size, 0, none⟩) 1 1 [.slice P7 xp.length c7] rfl her (by simp [Value.oneCell']) (by simp only [maxLen]; omega) (by omega) (by omega) ?_; intro v9 w9 ho9 hg9 hv9))
        go_roundw
        case rel =>
          have hp := HZ7.out.pushU (u' := v9) (W' := w9) (x := ⟨P7, c7, xp⟩) ho9 hg9 hv9 HH.out.1 (fun ad h0 hA => by
            have h1 := HH.out.2 ad h0 hA
            refine ⟨by omega, fun e => ?_, fun e => ?_⟩
            · have := own_lt HZ.out.1.row _ e; omega
            · have := own_lt HZ.out.1.own.own _ e; omega) hkq HS.out rfl (by have := HLOW.out; omega)
          exact ⟨k + 1, _, _, _, by omega, by go_num, hp, by have := hg9.size; omega⟩
        case measure => simp [intOf]; omega
      · have hgt : now < xt := HQ.out.2 k _ hkq HS.out
        have hle : ¬ xt ≤ now := by omega
        go_wp2_with fail
        refine (refcopied_any xA xp.length xc xp wz HZ.out.2.2 hxp).mono ?_
        rintro e w7 ⟨⟨v7, rfl, hv7⟩, hb7⟩
        obtain ⟨P7, c7, rfl, _, _, hr7⟩ := own_slice hv7
        have hf7 := own_addr hv7
        have hs7 := hb7.size
        have g2 := HZ.out.2.1.below hb7 (by omega)
        have f2 : w7.frozen? ⟨wr.heap.size, 2, none⟩ = false := g2.frozen 2
        have d2 : w7.cell? ⟨wr.heap.size, 2, none⟩ = some (.slice xA xp.length xc) := g2.cell 2
        have hbr : Below wr.heap.size wr w7 := HBZ.out.trans (hb7.mono HBZ.out.size)
        have HG2 := Lib.hid (And.intro g2 (And.intro hbr (And.intro hr7 hf7)))
        clear hb7 hv7 hr7 hf7 g2 hbr x0 x2
        go_upto_region 13 with fail
        clear f2 d2
        have hb3 : Below wr.heap.size wr (w7.setCell ⟨wr.heap.size, 2, none⟩ (.slice P7 xp.length c7)) := HG2.out.2.1.setCell (Nat.le_refl _) _
        have hr3 : Reads (w7.setCell ⟨wr.heap.size, 2, none⟩ (.slice P7 xp.length c7)) (w7.setCell ⟨wr.heap.size, 2, none⟩ (.slice P7 xp.length c7)).heap.size 1 P7 xp.length (u8s xp) := by
          refine reads_grown HG2.out.2.2.1 (fun ad h0 hA e => ?_) (grown_set w7 wr.heap.size 2 _)
          injection e with e
          have := HG2.out.2.2.2 ad h0 hA
          omega
        have g3 : Blk (w7.setCell ⟨wr.heap.size, 2, none⟩ (.slice P7 xp.length c7)) wr.heap.size 69 #[.int .i64 xt, .int .i64 xn, .slice P7 xp.length c7] := HG2.out.1.set_ 2 _
        have hs3' : w7.heap.size ≤ (w7.setCell ⟨wr.heap.size, 2, none⟩ (.slice P7 xp.length c7)).heap.size := by simp
        generalize (w7.setCell ⟨wr.heap.size, 2, none⟩ (.slice P7 xp.length c7)) = W8 at *
        have x0 : W8.cell? ⟨wr.heap.size, 0, none⟩ = some (.int .i64 xt) := g3.cell 0
        have x1 : W8.cell? ⟨wr.heap.size, 1, none⟩ = some (.int .i64 xn) := g3.cell 1
        have x2 : W8.cell? ⟨wr.heap.size, 2, none⟩ = some (.slice P7 xp.length c7) := g3.cell 2
        have h8 := HI.out.below hb3
        have y6 : W8.cell? ⟨go, 6, none⟩ = some (.slice B5 es.length d5) := h8.bo.cell 6
        have HZ9 := Lib.hid (h8.below ((Below.refl _ W8).alloc (Nat.le_refl _) (.cells #[.int .i64 xt, .int .i64 xn, .slice P7 xp.length c7] 69)))
        have hr2 := HZ9.out.own.own
        have her := elem_reads W8 #[.int .i64 xt, .int .i64 xn, .slice P7 xp.length c7] 69
        have hsz : (W8.alloc (.cells #[.int .i64 xt, .int .i64 xn, .slice P7 xp.length c7] 69)).heap.size = W8.heap.size + 1 := by simp
        have hx8 : EvR (W8.alloc (.cells #[.int .i64 xt, .int .i64 xn, .slice P7 xp.length c7] 69)) ⟨xt, xn, P7, c7, xp⟩ := Reads.up hr3 ((Below.refl _ W8).alloc (Nat.le_refl _) _)
        have HH := Lib.hid hx8
        clear hb3 hr3 g3 h8 hx8
        go_wp2_with (at_builtin; go_must (refine wpList_append_any (W8.alloc (.cells #[.int .i64 xt, .int .i64 xn, .slice P7 xp.length c7] 69)) rfl (.tmp 44) (.tmp 46) _ rfl (go + 1) 69 i3 _ 3 40 Try.underlying24 HI3.out.1 HI3.out.2.1 HI3.out.2.2.1 HI3.out.2.2.2 rfl (by omega) (.slice B5 es.length d5) es.length (es.flatMap encEv) rfl hr2 (W8.heap.size + 1) (some ⟨W8.heap.size, 0, none⟩) 1 1 [.int .i64 xt, .int .i64 xn, .slice P7 xp.length c7] rfl her (by simp [Value.oneCell']) (by simp only [maxLen]; omega) (by omega) (by omega) ?_; intro v9 w9 ho9 hg9 hv9; obtain ⟨A9, c9, rfl, _, _, _⟩ := own_slice ho9; have hbo9 := HZ9.out.bo.grown hg9 (by intro e; obtain ⟨cur, h9⟩ := own_tag HZ9.out.own.own e.symm; exact HZ9.out.bo.tag h9 (by decide) rfl); have y9 : w9.cell? ⟨go, 6, none⟩ = some (.slice B5 es.length d5) := hbo9.cell 6; have z9 : w9.frozen? ⟨go, 6, none⟩ = false := hbo9.frozen 6))
        go_roundw
        case rel =>
          have hp := HZ9.out.pushV (W' := w9) (x := ⟨xt, xn, P7, c7, xp⟩) ho9 hg9 hv9 HH.out (fun ad h0 hA => by
            have h1 := HG2.out.2.2.2 ad h0 hA
            refine ⟨by omega, fun e => ?_, fun e => ?_⟩
            · have := own_lt HI.out.row _ e; omega
            · have := own_lt HI.out.own.own _ e; omega) hkq HS.out (by have := HLOW.out; omega) HLOW.out
          exact ⟨k + 1, _, _, _, by omega, by go_num, hp, by have := hg9.size; simp; omega⟩
        case measure => simp [intOf]; omega
    · obtain rfl : k = m := by omega
      have hLk : (l.map Ev.em).length = k := by rw [List.length_map]; exact HX.out.2.1
      have hep := HI.out.ep
      rw [List.take_of_length_le (by omega)] at hep
      have hpp := HI.out.pp
      rw [show min k q = q by omega] at hpp
      have HEP := Lib.hid (And.intro hep hpp)
      clear hep hpp hLk
      have a0 : wr.cell? ⟨go, 0, none⟩ = some (.int .i64 mi) := HI.out.bo.cell 0
      have a1 : wr.cell? ⟨go, 1, none⟩ = some (.int .i64 ma) := HI.out.bo.cell 1
      have a2 : wr.cell? ⟨go, 2, none⟩ = some (.int .i64 ra) := HI.out.bo.cell 2
      have a3 : wr.cell? ⟨go, 3, none⟩ = some (.bool dn) := HI.out.bo.cell 3
      have a4 : wr.cell? ⟨go, 4, none⟩ = some (.int .i64 id) := HI.out.bo.cell 4
      have a5 : wr.cell? ⟨go, 5, none⟩ = some (.int .i64 nx) := HI.out.bo.cell 5
      have a6 : wr.cell? ⟨go, 6, none⟩ = some (.slice B5 es.length d5) := HI.out.bo.cell 6
      go_wp2_with (refine wpList_store_row rfl _ _ _ rfl (w.heap.size + 1) _ rfl rfl 26 _ HI.out.b4 (by kernel_rfl) rfl (by simp [Value.oneCell']) ?_)
      refine bodyPost_ret (results_cell_tmp (t := 26) (q := 5) rfl _ _ (w.heap.size + 1) _ _ rfl (HI.out.b4.setRow _) Try.underlying26 rfl (by kernel_rfl)) rfl ⟨⟨.slice B5 es.length d5, .slice A7 pl.length c7', ?_, ?_, ?_⟩, below_setRow HI.out.bel (by omega) _⟩
      · rw [← HR2.out]; rfl
      · rw [← HR2.out]
        dsimp only
        rw [← HEP.out.1]
        exact ((FlV.of_own HI.out.own HI.out.nes).keep (fun g hg _ => setRow_other _ _ _ _ (by have := HLOW.out; omega)) (by simp)).low (Nat.zero_le _)
      · rw [← HR2.out]
        dsimp only
        rw [← HEP.out.2]
        obtain ⟨A0, c0, h1, h2, h3, h4⟩ := own_slice HI.out.row
        injection h1 with e1 e2 e3
        subst e1 e3
        exact (PlV.keep (low := go + 1) ⟨_, _, pl, rfl, ⟨h4, HI.out.pr⟩, rfl, h2, h3, own_addr HI.out.row, HI.out.npl⟩ (fun g hg _ => setRow_other _ _ _ _ (by have := HLOW.out; omega)) (by simp)).low (Nat.zero_le _)
end Go.Proofs.Ytjaoppopfeonhaa
