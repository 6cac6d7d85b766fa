/- The walk of the reference's Check. Condition: at most 4096 flights. -/
import Derived.Test.YtjaoppopfeonhaaWg
namespace Go.Proofs.Ytjaoppopfeonhaa
open Go.RowKit
theorem ordBad_zero (l : List Em) (e : Em) : ordBad l 0 e = false := by
  unfold ordBad
  cases l[0 - 1]? with
  | none => rfl
  | some f => simp
theorem ordBad_pos {l : List Em} {k : Nat} {e f : Em} (hk : 0 < k) (hf : l[k - 1]? = some f) : ordBad l k e = !befB f e := by
  unfold ordBad
  rw [hf]
  dsimp only
  rw [decide_eq_true hk, Bool.true_and]
/-- what a round of the reference's Check finds -/
structure RcI (w : World) (L : List Em) (mi ma ra : Int) (dn : Bool) (id nx : Int) (A : Option Addr) (m c k : Nat) (W : World) : Prop where
  blk : Blk W w.heap.size 26 #[.int .i64 mi, .int .i64 ma, .int .i64 ra, .bool dn, .int .i64 id, .int .i64 nx, .slice A m c]
  bad : ∀ j, j < k → badAt nx L j = 0
  bel : Below w.heap.size w W
  lt : w.heap.size < W.heap.size
theorem RcI.step {w : World} {L : List Em} {mi ma ra : Int} {dn : Bool} {id nx : Int} {A : Option Addr} {m c k : Nat} {W W' : World} (h : RcI w L mi ma ra dn id nx A m c k W) (hb : Below W.heap.size W W') : RcI w L mi ma ra dn id nx A m c k W' :=
  ⟨h.blk.below hb h.lt, h.bad, h.bel.trans (hb.mono h.bel.size), Nat.lt_of_lt_of_le h.lt hb.size⟩
set_option linter.unusedSimpArgs false in
set_option maxRecDepth 100000 in
set_option maxHeartbeats 8000000 in
theorem refCheck_any (mi ma ra : Int) (dn : Bool) (id nx : Int) (A : Option Addr) (m c : Nat) (l : List Ev) (w : World) (hR : Evs w A m l) (hm : m ≤ 4096) :
    Calls Try.prog 17 #[.agg (lkC mi ma ra dn id nx A m c)] w fun e w' => e = .returned (.int .i64 (chkL ⟨mi, ma, ra, dn, id, nx, l.map Ev.em⟩ : Nat)) ∧ Below w.heap.size w w' := by
  unfold lkC
  have hlen := hR.count
  have hb0 : Below w.heap.size w (w.alloc (.cells #[.int .i64 mi, .int .i64 ma, .int .i64 ra, .bool dn, .int .i64 id, .int .i64 nx, .slice A m c] 26)) := (Below.refl _ _).alloc (Nat.le_refl _) _
  have g0 := Blk.new w 26 #[.int .i64 mi, .int .i64 ma, .int .i64 ra, .bool dn, .int .i64 id, .int .i64 nx, .slice A m c]
  have hm1 : ¬ (4096 : Int) < m := by omega
  have hs0 : (w.alloc (.cells #[.int .i64 mi, .int .i64 ma, .int .i64 ra, .bool dn, .int .i64 id, .int .i64 nx, .slice A m c] 26)).heap.size = w.heap.size + 1 := by simp
  obtain ⟨r, hr⟩ : ∃ r, chkL ⟨mi, ma, ra, dn, id, nx, l.map Ev.em⟩ = r := ⟨_, rfl⟩
  rw [hr]
  have HR := Lib.hid hr
  have HX := Lib.hid (And.intro hR hlen)
  clear hr hR hlen
  go_enter Try.func17, Try.ntmps17
  go_upto_region 1 with fail
  generalize (w.alloc (.cells #[.int .i64 mi, .int .i64 ma, .int .i64 ra, .bool dn, .int .i64 id, .int .i64 nx, .slice A m c] 26)) = V at *
  have c0 : V.cell? ⟨w.heap.size, 0, none⟩ = some (.int .i64 mi) := g0.cell 0
  have c1 : V.cell? ⟨w.heap.size, 1, none⟩ = some (.int .i64 ma) := g0.cell 1
  have c2 : V.cell? ⟨w.heap.size, 2, none⟩ = some (.int .i64 ra) := g0.cell 2
  go_wp2_with fail
  refine (refconfig_any _ _ _ _).mono ?_
  rintro e w1 ⟨rfl, hb1⟩
  have g1 := g0.below hb1 (by omega)
  have hs1 : w.heap.size + 1 ≤ w1.heap.size := by have := hb1.size; omega
  have HB1 := Lib.hid (And.intro (hb0.trans (hb1.mono hb0.size)) g1)
  clear c0 c1 c2 g0 hb0 hb1 hs0
  clear V
  have c3 : w1.cell? ⟨w.heap.size, 3, none⟩ = some (.bool dn) := g1.cell 3
  have c4 : w1.cell? ⟨w.heap.size, 4, none⟩ = some (.int .i64 id) := g1.cell 4
  have c5 : w1.cell? ⟨w.heap.size, 5, none⟩ = some (.int .i64 nx) := g1.cell 5
  have c6 : w1.cell? ⟨w.heap.size, 6, none⟩ = some (.slice A m c) := g1.cell 6
  clear g1
  rcases cfg_cases mi ma ra with hc | hc
  rotate_left 1
  · rw [hc]
    have hr : r = 2 := by rw [← HR.out]; exact chkL_head (by unfold chkH; dsimp only; rw [if_pos (by omega)]) (by simp)
    subst hr
    go_wp2_with fail
    go_ret
    exact ⟨rfl, HB1.out.1⟩
  rw [hc]
  have HCF := Lib.hid hc
  clear hc
  by_cases h2 : id < 0
  · have hr : r = 24 := by
      rw [← HR.out]
      refine chkL_head ?_ (by simp)
      unfold chkH
      dsimp only
      rw [HCF.out, if_neg (by simp), if_pos (by omega)]
    clear HR
    subst hr
    go_wp2_with fail
    go_ret
    exact ⟨rfl, HB1.out.1⟩
  by_cases h3 : 1073741824 < id
  · have hr : r = 24 := by
      rw [← HR.out]
      refine chkL_head ?_ (by simp)
      unfold chkH
      dsimp only
      rw [HCF.out, if_neg (by simp), if_pos (by omega)]
    clear HR
    subst hr
    go_wp2_with fail
    go_ret
    exact ⟨rfl, HB1.out.1⟩
  by_cases h4 : nx < 0
  · have hr : r = 2 := by
      rw [← HR.out]
      refine chkL_head ?_ (by simp)
      unfold chkH
      dsimp only
      rw [HCF.out, if_neg (by simp), if_neg (by omega), if_pos (by omega)]
    clear HR
    subst hr
    go_wp2_with fail
    go_ret
    exact ⟨rfl, HB1.out.1⟩
  by_cases h5 : 1073741824 < nx
  · have hr : r = 2 := by
      rw [← HR.out]
      refine chkL_head ?_ (by simp)
      unfold chkH
      dsimp only
      rw [HCF.out, if_neg (by simp), if_neg (by omega), if_pos (by omega)]
    clear HR
    subst hr
    go_wp2_with fail
    go_ret
    exact ⟨rfl, HB1.out.1⟩
  by_cases h6 : dn = true ∧ 0 < m
  · have hr : r = 12 := by
      rw [← HR.out]
      refine chkL_head ?_ (by simp)
      unfold chkH
      dsimp only
      rw [HCF.out, if_neg (by simp), if_neg (by omega), if_neg (by omega), if_neg (by rw [List.length_map, HX.out.2]; omega), if_pos (by rw [List.length_map, HX.out.2]; exact h6)]
    subst hr
    obtain ⟨rfl, hm0⟩ := h6
    have hm0' : (0 : Int) < m := by omega
    go_wp2_with fail
    go_ret
    exact ⟨rfl, HB1.out.1⟩
  have hr : r = chkE nx (l.map Ev.em) := by
    rw [← HR.out]
    refine chkL_tail ?_
    unfold chkH
    dsimp only
    rw [HCF.out, if_neg (by simp), if_neg (by omega), if_neg (by omega), if_neg (by rw [List.length_map, HX.out.2]; omega), if_neg (by rw [List.length_map, HX.out.2]; exact h6)]
  have HC := Lib.hid hr
  have HNX : Hid (0 ≤ nx ∧ nx ≤ 1073741824) := ⟨by omega, by omega⟩
  clear hr HR
  go_upto_region 10 with fail
  clear h2 h3 h4 h5
  go_cut [40] from 34 to 39 (fun s wx => s = .bool false ∧ wx = w1)
  case first =>
    cases dn with
    | false =>
      go_wp2_with fail
      go_meet
      exact ⟨rfl, rfl⟩
    | true =>
      have hm0 : m = 0 := by
        rcases Nat.eq_zero_or_pos m with h | h
        · exact h
        · exact absurd ⟨rfl, h⟩ h6
      subst hm0
      go_wp2_with fail
      go_meet
      exact ⟨rfl, rfl⟩
  case rest =>
    obtain ⟨rfl, hwx⟩ := hcut
    subst wc
    clear h6
    have H0 : Hid (RcI w (l.map Ev.em) mi ma ra dn id nx A m c 0 w1) := ⟨HB1.out.2, nofun, HB1.out.1, by omega⟩
    go_wp2_with fail
    clear c3 c4 c5 c6
    go_loopw [4, 5, 6] (fun u4 _ _ W => ∃ (k : Nat), k ≤ m ∧ u4 = .int .i64 (k : Nat) ∧ RcI w (l.map Ev.em) mi ma ra dn id nx A m c k W) (fun u4 _ _ _ => m + 1 - (intOf u4).toNat)
    case atStart => exact ⟨0, by omega, rfl, H0.out⟩
    case round =>
      obtain ⟨k, hk, rfl, hCh⟩ := hrel
      have hsr := hCh.lt
      have q6 : wr.cell? ⟨w.heap.size, 6, none⟩ = some (.slice A m c) := hCh.blk.cell 6
      have HCh := Lib.hid hCh
      clear hCh
      by_cases hlt : k < m
      · have hkl : k < l.length := by have := HX.out.2; omega
        have hR1 := HX.out.1.up HCh.out.bel
        obtain ⟨b, off, rfl, hbw, hcl⟩ := hR1.cells (by omega)
        obtain ⟨d0, d1, d2⟩ := hcl k _ (List.getElem?_eq_getElem hkl)
        have HCL := Lib.hid hcl
        have HS : Hid ((l.map Ev.em)[k]? = some l[k].em) := by
          show _ = _
          rw [List.getElem?_map, List.getElem?_eq_getElem hkl]
          rfl
        clear hcl hR1
        generalize hlk : l[k] = ev at *
        obtain ⟨xt, xn, xA, xc, xp⟩ := ev
        dsimp only at d0 d1 d2
        dsimp only [Ev.em] at HS
        clear hlk
        have ik : (k : Int) < m := by omega
        go_upto_region 16 with fail
        have hW1 := HCh.out.step ((Below.refl _ wr).alloc (Nat.le_refl _) (.cells #[.int .i64 xt, .int .i64 xn, .slice xA xp.length xc] 69))
        have b1 := Blk.new wr 69 #[.int .i64 xt, .int .i64 xn, .slice xA xp.length xc]
        have hb1 : Below wr.heap.size wr (wr.alloc (.cells #[.int .i64 xt, .int .i64 xn, .slice xA xp.length xc] 69)) := (Below.refl _ _).alloc (Nat.le_refl _) _
        have hs2 : (wr.alloc (.cells #[.int .i64 xt, .int .i64 xn, .slice xA xp.length xc] 69)).heap.size = wr.heap.size + 1 := by simp
        generalize (wr.alloc (.cells #[.int .i64 xt, .int .i64 xn, .slice xA xp.length xc] 69)) = W1 at *
        clear d0 d1 d2 q6
        have e0 : W1.cell? ⟨wr.heap.size, 0, none⟩ = some (.int .i64 xt) := b1.cell 0
        have e1 : W1.cell? ⟨wr.heap.size, 1, none⟩ = some (.int .i64 xn) := b1.cell 1
        have e2 : W1.cell? ⟨wr.heap.size, 2, none⟩ = some (.slice xA xp.length xc) := b1.cell 2
        have q5 : W1.cell? ⟨w.heap.size, 5, none⟩ = some (.int .i64 nx) := hW1.blk.cell 5
        have q6 : W1.cell? ⟨w.heap.size, 6, none⟩ = some (.slice (some ⟨b, off, none⟩) m c) := hW1.blk.cell 6
        have HW1 := Lib.hid (And.intro hW1 (And.intro b1 (And.intro hb1 hs2)))
        have hs2' : wr.heap.size < W1.heap.size := by omega
        have hs3' : w.heap.size < W1.heap.size := by omega
        clear hW1 b1 hb1 hs2
        have hbad : ∀ (x : Nat), badAt nx (l.map Ev.em) k = x → x ≠ 0 → r = x := fun x h1 h2 => by
          rw [HC.out]
          exact chkE_at (k := k) HCh.out.bad (by rw [List.length_map]; exact hkl) h1 h2
        have HBAD := Lib.hid hbad
        clear hbad
        by_cases h1 : xt < 0
        · have hr := HBAD.out 24 (by unfold badAt; rw [HS.out]; dsimp only; rw [show wrongE ⟨xt, xn, xp⟩ nx = 24 by unfold wrongE; rw [if_pos (by dsimp only; omega)]]; rw [if_pos (by simp)]) (by simp)
          clear HC HBAD
          subst hr
          go_wp2_with fail
          go_ret
          exact ⟨rfl, HW1.out.1.bel⟩
        by_cases h2 : 1073741824 < xt
        · have hr := HBAD.out 24 (by unfold badAt; rw [HS.out]; dsimp only; rw [show wrongE ⟨xt, xn, xp⟩ nx = 24 by unfold wrongE; rw [if_pos (by dsimp only; omega)]]; rw [if_pos (by simp)]) (by simp)
          clear HC HBAD
          subst hr
          go_wp2_with fail
          go_ret
          exact ⟨rfl, HW1.out.1.bel⟩
        by_cases h3 : xn < 0
        · have hr := HBAD.out 2 (by unfold badAt; rw [HS.out]; dsimp only; rw [show wrongE ⟨xt, xn, xp⟩ nx = 2 by unfold wrongE; rw [if_neg (by dsimp only; omega), if_pos (by dsimp only; omega)]]; rw [if_pos (by simp)]) (by simp)
          clear HC HBAD
          subst hr
          go_wp2_with fail
          go_ret
          exact ⟨rfl, HW1.out.1.bel⟩
        by_cases h4 : nx ≤ xn
        · have hr := HBAD.out 2 (by unfold badAt; rw [HS.out]; dsimp only; rw [show wrongE ⟨xt, xn, xp⟩ nx = 2 by unfold wrongE; rw [if_neg (by dsimp only; omega), if_pos (by dsimp only; omega)]]; rw [if_pos (by simp)]) (by simp)
          clear HC HBAD
          subst hr
          go_wp2_with fail
          go_ret
          exact ⟨rfl, HW1.out.1.bel⟩
        have hp7 : ((65536 : Int) < xp.length) = (65536 < xp.length) := by simp; omega
        by_cases h7 : (65536 : Int) < xp.length
        · have hr := HBAD.out 5 (by unfold badAt; rw [HS.out]; dsimp only; rw [show wrongE ⟨xt, xn, xp⟩ nx = 5 by unfold wrongE; rw [if_neg (by dsimp only; omega), if_neg (by dsimp only; omega), if_pos (by dsimp only; omega)]]; rw [if_pos (by simp)]) (by simp)
          clear HC HBAD
          subst hr
          go_wp2_with fail
          go_ret
          exact ⟨rfl, HW1.out.1.bel⟩
        have HWR : Hid (wrongE ⟨xt, xn, xp⟩ nx = 0) := by
          show _ = _
          unfold wrongE
          rw [if_neg (by dsimp only; omega), if_neg (by dsimp only; omega), if_neg (by dsimp only; omega)]
        clear hp7
        go_upto_region 22 with fail
        clear h1 h2 h3 h4 h7
        obtain ⟨ob, hob⟩ : ∃ ob, ordBad (l.map Ev.em) k ⟨xt, xn, xp⟩ = ob := ⟨_, rfl⟩
        have HOB := Lib.hid hob
        clear hob
        go_cut [112] from 75 to 111 (fun s wx => s = .bool ob ∧ Below W1.heap.size W1 wx)
        case first =>
          by_cases hk0 : k = 0
          · have hk0' : decide ((0 : Int) < (k : Int)) = false := by rw [decide_eq_false]; omega
            have hk0n : decide (0 < k) = false := by rw [decide_eq_false]; omega
            have ho : ob = false := by rw [← HOB.out]; subst hk0; exact ordBad_zero _ _
            subst ho
            clear hk0
            go_quiet (fail)
            go_wp2_with fail
            go_meet
            exact ⟨rfl, below_drewN (Below.refl _ _) _⟩
          · have hkp : 0 < k := by omega
            have hkp' : (0 : Int) < k := by omega
            have hl1 : k - 1 < l.length := by omega
            obtain ⟨f0, f1, _⟩ := HCL.out (k - 1) _ (List.getElem?_eq_getElem hl1)
            have HS1 : Hid ((l.map Ev.em)[k - 1]? = some l[k - 1].em) := by
              show _ = _
              rw [List.getElem?_map, List.getElem?_eq_getElem hl1]
              rfl
            generalize hlk : l[k - 1] = ev at *
            obtain ⟨yt, yn, yA, yc, yp⟩ := ev
            dsimp only at f0 f1
            dsimp only [Ev.em] at HS1
            clear hlk
            replace f0 := (HW1.out.2.2.1.cell (p := ⟨b, off + (k - 1) * 3, none⟩) hbw).trans f0
            replace f1 := (HW1.out.2.2.1.cell (p := ⟨b, off + (k - 1) * 3 + 1, none⟩) hbw).trans f1
            have kw : IntKind.i64.wrap ((k : Int) - 1) = (k : Int) - 1 := by rw [IntWalk.i64_in _ (by omega)]
            have kw0 : (0 : Int) ≤ (k : Int) - 1 := by omega
            have kw1 : ((k : Int) - 1).toNat = k - 1 := by omega
            have kw2 : (k : Int) - 1 < m := by omega
            have kw3 : (1 : Int) ≤ k := by omega
            have kw4 : (k : Int) < (m : Int) + 1 := by omega
            have HO2 : Hid (ob = !befB ⟨yt, yn, yp⟩ ⟨xt, xn, xp⟩) := by show _ = _; rw [← HOB.out, ordBad_pos hkp HS1.out]
            rcases Int.lt_trichotomy xt yt with hxy | hxy | hxy
            · have ho : ob = true := by rw [HO2.out]; unfold befB; rw [decide_eq_false]; rfl; dsimp only; omega
              subst ho
              go_quiet (fail)
              go_wp2_with fail
              go_meet
              exact ⟨rfl, below_drewN (Below.refl _ _) _⟩
            · subst hxy
              by_cases hn2 : xn ≤ yn
              · have ho : ob = true := by rw [HO2.out]; unfold befB; rw [decide_eq_false]; rfl; dsimp only; omega
                subst ho
                go_quiet (fail)
                go_wp2_with fail
                go_meet
                exact ⟨rfl, below_drewN (Below.refl _ _) _⟩
              · have ho : ob = false := by rw [HO2.out]; unfold befB; rw [decide_eq_true]; rfl; dsimp only; omega
                subst ho
                go_quiet (fail)
                go_wp2_with fail
                go_meet
                exact ⟨rfl, below_drewN (Below.refl _ _) _⟩
            · have ho : ob = false := by rw [HO2.out]; unfold befB; rw [decide_eq_true]; rfl; dsimp only; omega
              subst ho
              have hx1 : ¬ xt < yt := by omega
              have hx2 : (xt == yt) = false := by rw [beq_eq_false_iff_ne]; omega
              go_quiet (fail)
              go_wp2_with fail
              go_meet
              exact ⟨rfl, below_drewN (Below.refl _ _) _⟩
        case rest =>
          obtain ⟨rfl, hb4⟩ := hcut
          have hs4 := hb4.size
          have hW4 := HW1.out.1.step hb4
          have b4 := HW1.out.2.1.below hb4 hs2'
          have hb4w : Below wr.heap.size wr wc := HW1.out.2.2.1.trans (hb4.mono HW1.out.2.2.1.size)
          have HW4 := Lib.hid (And.intro hW4 (And.intro b4 hb4w))
          have hs5 : wr.heap.size < wc.heap.size := by omega
          clear hW4 b4 hb4w hb4 e0 e1 e2 q5 q6
          cases ob with
          | true =>
            have hr := HBAD.out 3 (by unfold badAt; rw [HS.out]; dsimp only; rw [HWR.out, if_neg (by simp), if_pos HOB.out]) (by simp)
            clear HC HBAD
            subst hr
            go_wp2_with fail
            go_ret
            exact ⟨rfl, HW4.out.1.bel⟩
          | false =>
            go_wp2_with fail
            go_loopw [6] (fun u6 V2 => ∃ (j : Nat), j ≤ k ∧ u6 = .int .i64 (j : Nat) ∧ (∀ i f, i < j → (l.map Ev.em)[i]? = some f → f.n ≠ xn) ∧ Below wc.heap.size wc V2) (fun u6 _ => k + 1 - (intOf u6).toNat)
            case atStart => exact ⟨0, by omega, rfl, fun i f hi => absurd hi (by omega), Below.refl _ _⟩
            case round =>
              rename World => V2
              obtain ⟨j, hj, rfl, hdis, hbv⟩ := hrel
              have hsv := hbv.size
              have hV2 := HW4.out.1.step hbv
              have z0 : V2.cell? ⟨w.heap.size, 6, none⟩ = some (.slice (some ⟨b, off, none⟩) m c) := hV2.blk.cell 6
              have y1 : V2.cell? ⟨wr.heap.size, 1, none⟩ = some (.int .i64 xn) := (HW4.out.2.1.below hbv hs5).cell 1
              have hVV : Below wr.heap.size wr V2 := HW4.out.2.2.trans (hbv.mono HW4.out.2.2.size)
              have HB2 := Lib.hid hbv
              have HD := Lib.hid (And.intro hdis (And.intro hV2 hVV))
              clear hdis hbv hVV hV2
              by_cases hjk : j < k
              · have hjl : j < l.length := by omega
                obtain ⟨_, e1, _⟩ := HCL.out j _ (List.getElem?_eq_getElem hjl)
                replace e1 := (HD.out.2.2.cell (p := ⟨b, off + j * 3 + 1, none⟩) hbw).trans e1
                have HSJ : Hid ((l.map Ev.em)[j]? = some l[j].em) := by
                  show _ = _
                  rw [List.getElem?_map, List.getElem?_eq_getElem hjl]
                  rfl
                generalize hlk : l[j] = ev at *
                obtain ⟨vt, vn, vA, vc, vp⟩ := ev
                dsimp only at e1
                dsimp only [Ev.em] at HSJ
                clear hlk
                have jk' : (j : Int) < k := by omega
                have jm' : (j : Int) < m := by omega
                by_cases hvn : vn = xn
                · have hd : ((l.map Ev.em).take k).any (fun f => f.n == xn) = true := List.any_eq_true.2 ⟨_, List.mem_of_getElem? (by rw [List.getElem?_take_of_lt hjk]; exact HSJ.out), by simp [hvn]⟩
                  have hr := HBAD.out 8 (by unfold badAt; rw [HS.out]; dsimp only; rw [HWR.out, if_neg (by simp), if_neg (by rw [HOB.out]; simp), hd]; rfl) (by simp)
                  clear HC HBAD hd
                  subst hr
                  subst hvn
                  go_upto_region 27 with fail
                  go_quiet (fail)
                  go_wp2_with fail
                  go_ret
                  exact ⟨rfl, below_drewN HD.out.2.1.bel _⟩
                · have hne : (vn == xn) = false := by rw [beq_eq_false_iff_ne]; exact hvn
                  have HNE := Lib.hid hvn
                  clear hvn
                  go_upto_region 27 with fail
                  go_quiet (fail)
                  go_wp2_with fail
                  go_roundw
                  case rel =>
                    refine ⟨j + 1, by omega, by go_num, fun i f hi hf => ?_, below_drewN HB2.out _⟩
                    rcases Nat.lt_or_ge i j with h | h
                    · exact HD.out.1 i f h hf
                    · obtain rfl : i = j := by omega
                      rw [HSJ.out] at hf
                      injection hf with hf
                      rw [← hf]
                      exact HNE.out
                  case measure => simp [intOf]; omega
              · have hjk' : ¬ (j : Int) < k := by omega
                have hd : ((l.map Ev.em).take k).any (fun f => f.n == xn) = false := by
                  rw [List.any_eq_false]
                  intro f hf
                  obtain ⟨i, hi, rfl⟩ := List.getElem_of_mem hf
                  rw [List.length_take, List.length_map] at hi
                  have := HD.out.1 i _ (by omega) (List.getElem?_eq_getElem (by rw [List.length_map]; omega))
                  rw [List.getElem_take]
                  simpa using this
                have HDD := Lib.hid hd
                clear hd
                go_wp2_with fail
                go_roundw
                case rel =>
                  refine ⟨k + 1, by omega, by go_num, HD.out.2.1.blk, fun i hi => ?_, HD.out.2.1.bel, HD.out.2.1.lt⟩
                  rcases Nat.lt_or_ge i k with h | h
                  · exact HCh.out.bad i h
                  · obtain rfl : i = k := by omega
                    unfold badAt
                    rw [HS.out]
                    dsimp only
                    rw [HWR.out, if_neg (by simp), if_neg (by rw [HOB.out]; simp), HDD.out]
                    rfl
                case measure => simp [intOf]; omega
      · go_wp2_with fail
        go_ret
        refine ⟨ret_int ?_, HCh.out.bel⟩
        rw [HC.out, chkE_ok (fun j hj => HCh.out.bad j (by rw [List.length_map] at hj; have := HX.out.2; omega))]
        rfl
end Go.Proofs.Ytjaoppopfeonhaa
