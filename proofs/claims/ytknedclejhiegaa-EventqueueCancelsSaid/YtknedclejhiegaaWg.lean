/- The walk of the reference's Check. Condition: at most 4096 events. -/
import Derived.Test.YtknedclejhiegaaWf
namespace Go.Proofs.Ytknedclejhiegaa
open Go.RowKit
theorem wrong24 {t n k o nx : Int} {p : List Nat} (h : t < 0 ∨ 1073741824 < t) : wrongE ⟨t, n, k, o, p⟩ nx = 24 := by unfold wrongE; rw [if_pos h]
theorem wrong2 {t n k o nx : Int} {p : List Nat} (h : ¬ (t < 0 ∨ 1073741824 < t)) (h2 : k < 0 ∨ o < 0 ∨ n < 0 ∨ nx ≤ n) : wrongE ⟨t, n, k, o, p⟩ nx = 2 := by unfold wrongE; rw [if_neg h, if_pos h2]
theorem wrong5 {t n k o nx : Int} {p : List Nat} (h : ¬ (t < 0 ∨ 1073741824 < t)) (h2 : ¬ (k < 0 ∨ o < 0 ∨ n < 0 ∨ nx ≤ n)) (h3 : 4096 < p.length) : wrongE ⟨t, n, k, o, p⟩ nx = 5 := by unfold wrongE; rw [if_neg h, if_neg h2, if_pos h3]
theorem wrong0 {t n k o nx : Int} {p : List Nat} (h : ¬ (t < 0 ∨ 1073741824 < t)) (h2 : ¬ (k < 0 ∨ o < 0 ∨ n < 0 ∨ nx ≤ n)) (h3 : ¬ 4096 < p.length) : wrongE ⟨t, n, k, o, p⟩ nx = 0 := by unfold wrongE; rw [if_neg h, if_neg h2, if_neg h3]
theorem chkE_wrong {nx : Int} {l : List Em} {k c : Nat} {e : Em} (h : ∀ j, j < k → badAt nx l j = 0) (hk : l[k]? = some e) (hw : wrongE e nx = c) (hc : c ≠ 0) : chkE nx l = c := by
  refine chkE_at h (List.getElem?_eq_some_iff.1 hk).1 ?_ hc
  unfold badAt
  rw [hk]
  dsimp only
  rw [hw, if_pos hc]
theorem bad_ord {nx : Int} {l : List Em} {k : Nat} {e : Em} (hk : l[k]? = some e) (hw : wrongE e nx = 0) (ho : ordBad l k e = true) : badAt nx l k = 3 := by
  unfold badAt
  rw [hk]
  dsimp only
  rw [hw, if_neg (by simp), if_pos ho]
theorem bad_dup {nx : Int} {l : List Em} {k : Nat} {e : Em} (hk : l[k]? = some e) (hw : wrongE e nx = 0) (ho : ordBad l k e = false) : badAt nx l k = if (l.take k).any (fun f => f.n == e.n) then 8 else 0 := by
  unfold badAt
  rw [hk]
  dsimp only
  rw [hw, if_neg (by simp), if_neg (by rw [ho]; simp)]
theorem ordBad_zero (l : List Em) (e : Em) : ordBad l 0 e = false := by
  unfold ordBad
  cases l[0 - 1]? with
  | none => rfl
  | some f => simp
theorem ordBad_pos {l : List Em} {k : Nat} {e f : Em} (hk : 0 < k) (hf : l[k - 1]? = some f) : ordBad l k e = !befB f e := by
  unfold ordBad
  rw [hf]
  dsimp only
  rw [decide_eq_true hk, Bool.true_and]
set_option maxRecDepth 100000 in
set_option maxHeartbeats 8000000 in
theorem refCheck_any (A : Option Addr) (m c : Nat) (l : List Ev) (nx : Int) (w : World) (hR : Evs w A m l) (hm : m ≤ 4096) :
    Calls Try.prog 13 #[.agg #[.slice A m c, .int .i64 nx]] w fun e w' => e = .returned (.int .i64 (chkQ nx (l.map Ev.em) : Nat)) ∧ Below w.heap.size w w' := by
  have hlen := hR.count
  have hb0 : Below w.heap.size w (w.alloc (.cells #[.slice A m c, .int .i64 nx] 24)) := (Below.refl _ _).alloc (Nat.le_refl _) _
  have g0 := Blk.new w 24 #[.slice A m c, .int .i64 nx]
  have hm1 : ¬ (4096 : Int) < m := by omega
  have hs0 : (w.alloc (.cells #[.slice A m c, .int .i64 nx] 24)).heap.size = w.heap.size + 1 := by simp
  by_cases c1 : nx < 0
  · have HC : Hid (chkQ nx (l.map Ev.em) = 2) := by show _ = _; unfold chkQ; rw [if_pos (.inl c1)]
    generalize chkQ nx (l.map Ev.em) = r at *
    have hc := HC.out
    subst hc
    go_enter Try.func13, Try.ntmps13
    go_wp2_with fail
    go_ret
    exact ⟨rfl, hb0⟩
  by_cases c2 : 1073741824 < nx
  · have HC : Hid (chkQ nx (l.map Ev.em) = 2) := by show _ = _; unfold chkQ; rw [if_pos (.inr c2)]
    generalize chkQ nx (l.map Ev.em) = r at *
    have hc := HC.out
    subst hc
    go_enter Try.func13, Try.ntmps13
    go_wp2_with fail
    go_ret
    exact ⟨rfl, hb0⟩
  have HC : Hid (chkQ nx (l.map Ev.em) = chkE nx (l.map Ev.em)) := by show _ = _; unfold chkQ; rw [if_neg (by omega)]
  have HX := Lib.hid (And.intro hR (And.intro hlen hb0))
  have hR0 := hR.up hb0
  have H0 := Lib.hid (And.intro g0 (And.intro hR0 hs0))
  clear hR hlen hb0 hR0 g0 hs0
  go_enter Try.func13, Try.ntmps13
  go_wp2_with fail
  generalize (w.alloc (.cells #[.slice A m c, .int .i64 nx] 24)) = V at *
  go_loopw [3, 4, 5] (fun u3 _ _ W => ∃ (k : Nat), k ≤ m ∧ u3 = .int .i64 (k : Nat) ∧ (∀ j, j < k → badAt nx (l.map Ev.em) j = 0) ∧ Below V.heap.size V W) (fun u3 _ _ _ => m + 1 - (intOf u3).toNat)
  case atStart => exact ⟨0, by omega, rfl, fun j hj => absurd hj (by omega), Below.refl _ _⟩
  case round =>
    obtain ⟨k, hk, rfl, hbad, hb⟩ := hrel
    have HBD := Lib.hid hbad
    have hbw := HX.out.2.2.trans (hb.mono HX.out.2.2.size)
    have hzw : w.heap.size < wr.heap.size := by have := hb.size; have := H0.out.2.2; omega
    have gq := H0.out.1.below hb (by have := H0.out.2.2; omega)
    have HB := Lib.hid (And.intro hb hbw)
    clear hbad hb hbw
    obtain ⟨B0, hB0⟩ : ∃ B0, B0 = A := ⟨_, rfl⟩
    have q0 : wr.cell? ⟨w.heap.size, 0, none⟩ = some (.slice A m c) := gq.cell 0
    clear hB0 B0
    by_cases hlt : k < m
    · have hkl : k < l.length := by have := HX.out.2.1; omega
      obtain ⟨b, off, rfl, hbw, hc⟩ := H0.out.2.1.cells (by omega)
      obtain ⟨d0, d1, d2, d3, d4⟩ := hc k _ (List.getElem?_eq_getElem hkl)
      replace d0 := (HB.out.1.cell (p := ⟨b, off + k * 5, none⟩) hbw).trans d0
      replace d1 := (HB.out.1.cell (p := ⟨b, off + k * 5 + 1, none⟩) hbw).trans d1
      replace d2 := (HB.out.1.cell (p := ⟨b, off + k * 5 + 2, none⟩) hbw).trans d2
      replace d3 := (HB.out.1.cell (p := ⟨b, off + k * 5 + 3, none⟩) hbw).trans d3
      replace d4 := (HB.out.1.cell (p := ⟨b, off + k * 5 + 4, none⟩) hbw).trans d4
      have HCL := Lib.hid hc
      have HS : Hid ((l.map Ev.em)[k]? = some l[k].em) := by
        show _ = _
        rw [List.getElem?_map, List.getElem?_eq_getElem hkl]
        rfl
      clear hc
      generalize hlk : l[k] = ev at *
      obtain ⟨xt, xn, xk, xo, xA, xc, xp⟩ := ev
      dsimp only at d0 d1 d2 d3 d4
      dsimp only [Ev.em] at HS
      clear hlk
      have ik : (k : Int) < m := by omega
      have q1 : wr.cell? ⟨w.heap.size, 1, none⟩ = some (.int .i64 nx) := gq.cell 1
      go_upto_region 9 with fail
      have g1 := Blk.new wr 32 #[.int .i64 xt, .int .i64 xn, .int .i64 xk, .int .i64 xo, .slice xA xp.length xc]
      have hb1 : Below wr.heap.size wr (wr.alloc (.cells #[.int .i64 xt, .int .i64 xn, .int .i64 xk, .int .i64 xo, .slice xA xp.length xc] 32)) := (Below.refl _ _).alloc (Nat.le_refl _) _
      have gq1 := gq.alloc (.cells #[.int .i64 xt, .int .i64 xn, .int .i64 xk, .int .i64 xo, .slice xA xp.length xc] 32)
      have hs1 : (wr.alloc (.cells #[.int .i64 xt, .int .i64 xn, .int .i64 xk, .int .i64 xo, .slice xA xp.length xc] 32)).heap.size = wr.heap.size + 1 := by simp
      generalize (wr.alloc (.cells #[.int .i64 xt, .int .i64 xn, .int .i64 xk, .int .i64 xo, .slice xA xp.length xc] 32)) = W1 at *
      clear d0 d1 d2 d3 d4 q0 q1 gq
      have d0 : W1.cell? ⟨wr.heap.size, 0, none⟩ = some (.int .i64 xt) := g1.cell 0
      have d1 : W1.cell? ⟨wr.heap.size, 1, none⟩ = some (.int .i64 xn) := g1.cell 1
      have d2 : W1.cell? ⟨wr.heap.size, 2, none⟩ = some (.int .i64 xk) := g1.cell 2
      have d3 : W1.cell? ⟨wr.heap.size, 3, none⟩ = some (.int .i64 xo) := g1.cell 3
      have d4 : W1.cell? ⟨wr.heap.size, 4, none⟩ = some (.slice xA xp.length xc) := g1.cell 4
      have q0 : W1.cell? ⟨w.heap.size, 0, none⟩ = some (.slice (some ⟨b, off, none⟩) m c) := gq1.cell 0
      have q1 : W1.cell? ⟨w.heap.size, 1, none⟩ = some (.int .i64 nx) := gq1.cell 1
      have HG1 := Lib.hid (And.intro g1 (And.intro gq1 (And.intro hb1 hs1)))
      clear g1 gq1 hb1 hs1
      by_cases hw1 : xt < 0
      · go_wp2_with fail
        go_ret
        refine ⟨ret_int ?_, HB.out.2.trans (HG1.out.2.2.1.mono HB.out.2.size)⟩
        rw [HC.out, chkE_wrong HBD.out HS.out (wrong24 (by omega)) (by omega)]
        rfl
      by_cases hw2 : 1073741824 < xt
      · go_wp2_with fail
        go_ret
        refine ⟨ret_int ?_, HB.out.2.trans (HG1.out.2.2.1.mono HB.out.2.size)⟩
        rw [HC.out, chkE_wrong HBD.out HS.out (wrong24 (by omega)) (by omega)]
        rfl
      by_cases hw3 : xk < 0
      · go_wp2_with fail
        go_ret
        refine ⟨ret_int ?_, HB.out.2.trans (HG1.out.2.2.1.mono HB.out.2.size)⟩
        rw [HC.out, chkE_wrong HBD.out HS.out (wrong2 (by omega) (by omega)) (by omega)]
        rfl
      by_cases hw4 : xo < 0
      · go_wp2_with fail
        go_ret
        refine ⟨ret_int ?_, HB.out.2.trans (HG1.out.2.2.1.mono HB.out.2.size)⟩
        rw [HC.out, chkE_wrong HBD.out HS.out (wrong2 (by omega) (by omega)) (by omega)]
        rfl
      by_cases hw5 : xn < 0
      · go_wp2_with fail
        go_ret
        refine ⟨ret_int ?_, HB.out.2.trans (HG1.out.2.2.1.mono HB.out.2.size)⟩
        rw [HC.out, chkE_wrong HBD.out HS.out (wrong2 (by omega) (by omega)) (by omega)]
        rfl
      by_cases hw6 : nx ≤ xn
      · go_wp2_with fail
        go_ret
        refine ⟨ret_int ?_, HB.out.2.trans (HG1.out.2.2.1.mono HB.out.2.size)⟩
        rw [HC.out, chkE_wrong HBD.out HS.out (wrong2 (by omega) (by omega)) (by omega)]
        rfl
      by_cases hw7 : 4096 < xp.length
      · have hw7' : (4096 : Int) < xp.length := by omega
        go_wp2_with fail
        go_ret
        refine ⟨ret_int ?_, HB.out.2.trans (HG1.out.2.2.1.mono HB.out.2.size)⟩
        rw [HC.out, chkE_wrong HBD.out HS.out (wrong5 (by omega) (by omega) hw7) (by omega)]
        rfl
      have hw7' : ¬ (4096 : Int) < xp.length := by omega
      have HW0 : Hid (wrongE ⟨xt, xn, xk, xo, xp⟩ nx = 0) := wrong0 (by omega) (by omega) hw7
      have hlm : l.length = m := HX.out.2.1
      by_cases hk0 : k = 0
      · have HOB : Hid (ordBad (l.map Ev.em) k ⟨xt, xn, xk, xo, xp⟩ = false) := by subst hk0; exact ordBad_zero _ _
        have hk0' : decide ((0 : Int) < (k : Int)) = false := by rw [decide_eq_false]; omega
        have hk0n : decide (0 < k) = false := by rw [decide_eq_false]; omega
        have HK0 := Lib.hid hk0
        clear hk0
        go_upto_region 15 with fail
        go_quiet (fail)
        have hb3 : Below W1.heap.size W1 (W1.drewN nq) := below_drewN (Below.refl _ _) _
        generalize W1.drewN nq = wc at *
        have hz1 : w.heap.size < W1.heap.size ∧ wr.heap.size < W1.heap.size := by have := HG1.out.2.2.2; omega
        have g3 := HG1.out.1.below hb3 hz1.2
        have gq3 := HG1.out.2.1.below hb3 hz1.1
        have hbr3 : Below wr.heap.size wr wc := HG1.out.2.2.1.trans (hb3.mono HG1.out.2.2.1.size)
        have hw3 := hb3.size
        have HG3 := Lib.hid (And.intro g3 (And.intro gq3 (And.intro hbr3 (HB.out.1.trans (hbr3.mono HB.out.1.size)))))
        clear hb3 g3 gq3 hbr3 d0 d1 d2 d3 d4 q0 q1 hk0' hk0n
        go_wp2_with fail
        go_loopw [5] (fun u5 V2 => ∃ (j : Nat), j ≤ k ∧ u5 = .int .i64 (j : Nat) ∧ (∀ i f, i < j → (l.map Ev.em)[i]? = some f → f.n ≠ xn) ∧ Below wc.heap.size wc V2) (fun u5 _ => k + 1 - (intOf u5).toNat)
        case atStart => exact ⟨0, by omega, rfl, fun i f hi => absurd hi (by omega), Below.refl _ _⟩
        case round =>
          rename World => V2
          obtain ⟨j, hj, rfl, hdis, hbv⟩ := hrel
          have HD := Lib.hid (And.intro hdis hbv)
          have hsv := hbv.size
          have z0 := (HG3.out.2.1.below hbv (by omega)).cell 0
          have y1 := (HG3.out.1.below hbv (by omega)).cell 1
          have hVV : Below V.heap.size V V2 := HG3.out.2.2.2.trans (hbv.mono HG3.out.2.2.2.size)
          have HVV := Lib.hid hVV
          clear hdis hbv hVV
          replace z0 : V2.cell? ⟨w.heap.size, 0, none⟩ = some (.slice (some ⟨b, off, none⟩) m c) := z0
          replace y1 : V2.cell? ⟨wr.heap.size, 1, none⟩ = some (.int .i64 xn) := y1
          by_cases hjk : j < k
          · have hjl : j < l.length := by omega
            obtain ⟨_, e1, _⟩ := HCL.out j _ (List.getElem?_eq_getElem hjl)
            replace e1 := (HVV.out.cell (p := ⟨b, off + j * 5 + 1, none⟩) hbw).trans e1
            have HSJ : Hid ((l.map Ev.em)[j]? = some l[j].em) := by
              show _ = _
              rw [List.getElem?_map, List.getElem?_eq_getElem hjl]
              rfl
            generalize hlk : l[j] = ev at *
            obtain ⟨vt, vn, vk, vo, vA, vc, vp⟩ := ev
            dsimp only at e1
            dsimp only [Ev.em] at HSJ
            clear hlk
            have jk' : (j : Int) < k := by omega
            have jm' : (j : Int) < m := by omega
            by_cases hvn : vn = xn
            · subst hvn
              go_upto_region 20 with fail
              go_quiet (fail)
              go_wp2_with fail
              go_ret
              refine ⟨ret_int ?_, HB.out.2.trans (below_drewN (HG3.out.2.2.1.trans (HD.out.2.mono HG3.out.2.2.1.size)) _ |>.mono HB.out.2.size)⟩
              have hd : ((l.map Ev.em).take k).any (fun f => f.n == vn) = true := List.any_eq_true.2 ⟨_, List.mem_of_getElem? (by rw [List.getElem?_take_of_lt hjk]; exact HSJ.out), by simp⟩
              rw [HC.out, chkE_at (k := k) (c := 8) HBD.out (by rw [List.length_map]; omega) (by rw [bad_dup HS.out HW0.out HOB.out]; dsimp only; rw [hd]; rfl) (by omega)]
              rfl
            · have hne : (vn == xn) = false := by rw [beq_eq_false_iff_ne]; exact hvn
              have HNE := Lib.hid hvn
              clear hvn
              go_upto_region 20 with fail
              go_quiet (fail)
              go_wp2_with fail
              go_roundw
              case rel =>
                refine ⟨j + 1, by omega, by go_num, fun i f hi hf => ?_, below_drewN HD.out.2 _⟩
                rcases Nat.lt_or_ge i j with h | h
                · exact HD.out.1 i f h hf
                · obtain rfl : i = j := by omega
                  rw [HSJ.out] at hf
                  injection hf with hf
                  rw [← hf]
                  exact HNE.out
              case measure => simp [intOf]; omega
          · have hjk' : ¬ (j : Int) < k := by omega
            go_wp2_with fail
            have hd : ((l.map Ev.em).take k).any (fun f => f.n == xn) = false := by
              rw [List.any_eq_false]
              intro f hf
              obtain ⟨i, hi, rfl⟩ := List.getElem_of_mem hf
              rw [List.length_take, List.length_map] at hi
              have := HD.out.1 i _ (by omega) (List.getElem?_eq_getElem (by rw [List.length_map]; omega))
              rw [List.getElem_take]
              simpa using this
            have HDD := Lib.hid hd
            clear hd
            go_roundw
            case rel =>
              refine ⟨k + 1, by omega, by go_num, fun i hi => ?_, HG3.out.2.2.2.trans (HD.out.2.mono HG3.out.2.2.2.size)⟩
              rcases Nat.lt_or_ge i k with h | h
              · exact HBD.out i h
              · obtain rfl : i = k := by omega
                rw [bad_dup HS.out HW0.out HOB.out]
                dsimp only
                rw [HDD.out]
                rfl
            case measure => simp [intOf]; omega
      · have hkp : 0 < k := by omega
        have hkp' : (0 : Int) < k := by omega
        have hl1 : k - 1 < l.length := by omega
        obtain ⟨f0, f1, _, _, _⟩ := HCL.out (k - 1) _ (List.getElem?_eq_getElem hl1)
        have hV2 : Below V.heap.size V W1 := HB.out.1.trans (HG1.out.2.2.1.mono HB.out.1.size)
        replace f0 := (hV2.cell (p := ⟨b, off + (k - 1) * 5, none⟩) hbw).trans f0
        replace f1 := (hV2.cell (p := ⟨b, off + (k - 1) * 5 + 1, none⟩) hbw).trans f1
        have HS1 : Hid ((l.map Ev.em)[k - 1]? = some l[k - 1].em) := by
          show _ = _
          rw [List.getElem?_map, List.getElem?_eq_getElem hl1]
          rfl
        generalize hlk : l[k - 1] = ev at *
        obtain ⟨yt, yn, yk, yo, yA, yc, yp⟩ := ev
        dsimp only at f0 f1
        dsimp only [Ev.em] at HS1
        clear hlk hV2
        have kw : IntKind.i64.wrap ((k : Int) - 1) = (k : Int) - 1 := by rw [IntWalk.i64_in _ (by omega)]
        have kw0 : (0 : Int) ≤ (k : Int) - 1 := by omega
        have kw1 : ((k : Int) - 1).toNat = k - 1 := by omega
        have kw2 : (k : Int) - 1 < m := by omega
        have kw3 : (1 : Int) ≤ k := by omega
        have kw4 : (k : Int) < (m : Int) + 1 := by omega
        rcases Int.lt_trichotomy xt yt with hxy | hxy | hxy
        · have HOB : Hid (ordBad (l.map Ev.em) k ⟨xt, xn, xk, xo, xp⟩ = true) := by
            show _ = _
            rw [ordBad_pos hkp HS1.out]
            have : befB ⟨yt, yn, yk, yo, yp⟩ ⟨xt, xn, xk, xo, xp⟩ = false := by unfold befB; rw [decide_eq_false]; dsimp only; omega
            rw [this]
            rfl
          go_upto_region 15 with fail
          go_quiet (fail)
          go_wp2_with fail
          go_ret
          refine ⟨ret_int ?_, HB.out.2.trans (below_drewN HG1.out.2.2.1 _ |>.mono HB.out.2.size)⟩
          rw [HC.out, chkE_at (k := k) (c := 3) HBD.out (by rw [List.length_map]; omega) (bad_ord HS.out HW0.out HOB.out) (by omega)]
          rfl
        · subst hxy
          by_cases hn2 : xn ≤ yn
          · have HOB : Hid (ordBad (l.map Ev.em) k ⟨xt, xn, xk, xo, xp⟩ = true) := by
              show _ = _
              rw [ordBad_pos hkp HS1.out]
              have : befB ⟨xt, yn, yk, yo, yp⟩ ⟨xt, xn, xk, xo, xp⟩ = false := by unfold befB; rw [decide_eq_false]; dsimp only; omega
              rw [this]
              rfl
            go_upto_region 15 with fail
            go_quiet (fail)
            go_wp2_with fail
            go_ret
            refine ⟨ret_int ?_, HB.out.2.trans (below_drewN HG1.out.2.2.1 _ |>.mono HB.out.2.size)⟩
            rw [HC.out, chkE_at (k := k) (c := 3) HBD.out (by rw [List.length_map]; omega) (bad_ord HS.out HW0.out HOB.out) (by omega)]
            rfl
          · have HOB : Hid (ordBad (l.map Ev.em) k ⟨xt, xn, xk, xo, xp⟩ = false) := by
              show _ = _
              rw [ordBad_pos hkp HS1.out]
              have : befB ⟨xt, yn, yk, yo, yp⟩ ⟨xt, xn, xk, xo, xp⟩ = true := by unfold befB; rw [decide_eq_true]; dsimp only; omega
              rw [this]
              rfl
            go_upto_region 15 with fail
            go_quiet (fail)
            have hb3 : Below W1.heap.size W1 (W1.drewN nq) := below_drewN (Below.refl _ _) _
            generalize W1.drewN nq = wc at *
            have hz1 : w.heap.size < W1.heap.size ∧ wr.heap.size < W1.heap.size := by have := HG1.out.2.2.2; omega
            have g3 := HG1.out.1.below hb3 hz1.2
            have gq3 := HG1.out.2.1.below hb3 hz1.1
            have hbr3 : Below wr.heap.size wr wc := HG1.out.2.2.1.trans (hb3.mono HG1.out.2.2.1.size)
            have hw3 := hb3.size
            have HG3 := Lib.hid (And.intro g3 (And.intro gq3 (And.intro hbr3 (HB.out.1.trans (hbr3.mono HB.out.1.size)))))
            clear hb3 g3 gq3 hbr3 d0 d1 d2 d3 d4 q0 q1 f0 f1 kw kw0 kw1 kw2 kw3 kw4
            go_wp2_with fail
            go_loopw [5] (fun u5 V2 => ∃ (j : Nat), j ≤ k ∧ u5 = .int .i64 (j : Nat) ∧ (∀ i f, i < j → (l.map Ev.em)[i]? = some f → f.n ≠ xn) ∧ Below wc.heap.size wc V2) (fun u5 _ => k + 1 - (intOf u5).toNat)
            case atStart => exact ⟨0, by omega, rfl, fun i f hi => absurd hi (by omega), Below.refl _ _⟩
            case round =>
              rename World => V2
              obtain ⟨j, hj, rfl, hdis, hbv⟩ := hrel
              have HD := Lib.hid (And.intro hdis hbv)
              have hsv := hbv.size
              have z0 := (HG3.out.2.1.below hbv (by omega)).cell 0
              have y1 := (HG3.out.1.below hbv (by omega)).cell 1
              have hVV : Below V.heap.size V V2 := HG3.out.2.2.2.trans (hbv.mono HG3.out.2.2.2.size)
              have HVV := Lib.hid hVV
              clear hdis hbv hVV
              replace z0 : V2.cell? ⟨w.heap.size, 0, none⟩ = some (.slice (some ⟨b, off, none⟩) m c) := z0
              replace y1 : V2.cell? ⟨wr.heap.size, 1, none⟩ = some (.int .i64 xn) := y1
              by_cases hjk : j < k
              · have hjl : j < l.length := by omega
                obtain ⟨_, e1, _⟩ := HCL.out j _ (List.getElem?_eq_getElem hjl)
                replace e1 := (HVV.out.cell (p := ⟨b, off + j * 5 + 1, none⟩) hbw).trans e1
                have HSJ : Hid ((l.map Ev.em)[j]? = some l[j].em) := by
                  show _ = _
                  rw [List.getElem?_map, List.getElem?_eq_getElem hjl]
                  rfl
                generalize hlk : l[j] = ev at *
                obtain ⟨vt, vn, vk, vo, vA, vc, vp⟩ := ev
                dsimp only at e1
                dsimp only [Ev.em] at HSJ
                clear hlk
                have jk' : (j : Int) < k := by omega
                have jm' : (j : Int) < m := by omega
                by_cases hvn : vn = xn
                · subst hvn
                  go_upto_region 20 with fail
                  go_quiet (fail)
                  go_wp2_with fail
                  go_ret
                  refine ⟨ret_int ?_, HB.out.2.trans (below_drewN (HG3.out.2.2.1.trans (HD.out.2.mono HG3.out.2.2.1.size)) _ |>.mono HB.out.2.size)⟩
                  have hd : ((l.map Ev.em).take k).any (fun f => f.n == vn) = true := List.any_eq_true.2 ⟨_, List.mem_of_getElem? (by rw [List.getElem?_take_of_lt hjk]; exact HSJ.out), by simp⟩
                  rw [HC.out, chkE_at (k := k) (c := 8) HBD.out (by rw [List.length_map]; omega) (by rw [bad_dup HS.out HW0.out HOB.out]; dsimp only; rw [hd]; rfl) (by omega)]
                  rfl
                · have hne : (vn == xn) = false := by rw [beq_eq_false_iff_ne]; exact hvn
                  have HNE := Lib.hid hvn
                  clear hvn
                  go_upto_region 20 with fail
                  go_quiet (fail)
                  go_wp2_with fail
                  go_roundw
                  case rel =>
                    refine ⟨j + 1, by omega, by go_num, fun i f hi hf => ?_, below_drewN HD.out.2 _⟩
                    rcases Nat.lt_or_ge i j with h | h
                    · exact HD.out.1 i f h hf
                    · obtain rfl : i = j := by omega
                      rw [HSJ.out] at hf
                      injection hf with hf
                      rw [← hf]
                      exact HNE.out
                  case measure => simp [intOf]; omega
              · have hjk' : ¬ (j : Int) < k := by omega
                go_wp2_with fail
                have hd : ((l.map Ev.em).take k).any (fun f => f.n == xn) = false := by
                  rw [List.any_eq_false]
                  intro f hf
                  obtain ⟨i, hi, rfl⟩ := List.getElem_of_mem hf
                  rw [List.length_take, List.length_map] at hi
                  have := HD.out.1 i _ (by omega) (List.getElem?_eq_getElem (by rw [List.length_map]; omega))
                  rw [List.getElem_take]
                  simpa using this
                have HDD := Lib.hid hd
                clear hd
                go_roundw
                case rel =>
                  refine ⟨k + 1, by omega, by go_num, fun i hi => ?_, HG3.out.2.2.2.trans (HD.out.2.mono HG3.out.2.2.2.size)⟩
                  rcases Nat.lt_or_ge i k with h | h
                  · exact HBD.out i h
                  · obtain rfl : i = k := by omega
                    rw [bad_dup HS.out HW0.out HOB.out]
                    dsimp only
                    rw [HDD.out]
                    rfl
                case measure => simp [intOf]; omega
        · have HOB : Hid (ordBad (l.map Ev.em) k ⟨xt, xn, xk, xo, xp⟩ = false) := by
            show _ = _
            rw [ordBad_pos hkp HS1.out]
            have : befB ⟨yt, yn, yk, yo, yp⟩ ⟨xt, xn, xk, xo, xp⟩ = true := by unfold befB; rw [decide_eq_true]; dsimp only; omega
            rw [this]
            rfl
          have hx1 : ¬ xt < yt := by omega
          have hx2 : (xt == yt) = false := by rw [beq_eq_false_iff_ne]; omega
          go_upto_region 15 with fail
          go_quiet (fail)
          have hb3 : Below W1.heap.size W1 (W1.drewN nq) := below_drewN (Below.refl _ _) _
          generalize W1.drewN nq = wc at *
          have hz1 : w.heap.size < W1.heap.size ∧ wr.heap.size < W1.heap.size := by have := HG1.out.2.2.2; omega
          have g3 := HG1.out.1.below hb3 hz1.2
          have gq3 := HG1.out.2.1.below hb3 hz1.1
          have hbr3 : Below wr.heap.size wr wc := HG1.out.2.2.1.trans (hb3.mono HG1.out.2.2.1.size)
          have hw3 := hb3.size
          have HG3 := Lib.hid (And.intro g3 (And.intro gq3 (And.intro hbr3 (HB.out.1.trans (hbr3.mono HB.out.1.size)))))
          clear hb3 g3 gq3 hbr3 d0 d1 d2 d3 d4 q0 q1 f0 f1 kw kw0 kw1 kw2 kw3 kw4
          go_wp2_with fail
          go_loopw [5] (fun u5 V2 => ∃ (j : Nat), j ≤ k ∧ u5 = .int .i64 (j : Nat) ∧ (∀ i f, i < j → (l.map Ev.em)[i]? = some f → f.n ≠ xn) ∧ Below wc.heap.size wc V2) (fun u5 _ => k + 1 - (intOf u5).toNat)
          case atStart => exact ⟨0, by omega, rfl, fun i f hi => absurd hi (by omega), Below.refl _ _⟩
          case round =>
            rename World => V2
            obtain ⟨j, hj, rfl, hdis, hbv⟩ := hrel
            have HD := Lib.hid (And.intro hdis hbv)
            have hsv := hbv.size
            have z0 := (HG3.out.2.1.below hbv (by omega)).cell 0
            have y1 := (HG3.out.1.below hbv (by omega)).cell 1
            have hVV : Below V.heap.size V V2 := HG3.out.2.2.2.trans (hbv.mono HG3.out.2.2.2.size)
            have HVV := Lib.hid hVV
            clear hdis hbv hVV
            replace z0 : V2.cell? ⟨w.heap.size, 0, none⟩ = some (.slice (some ⟨b, off, none⟩) m c) := z0
            replace y1 : V2.cell? ⟨wr.heap.size, 1, none⟩ = some (.int .i64 xn) := y1
            by_cases hjk : j < k
            · have hjl : j < l.length := by omega
              obtain ⟨_, e1, _⟩ := HCL.out j _ (List.getElem?_eq_getElem hjl)
              replace e1 := (HVV.out.cell (p := ⟨b, off + j * 5 + 1, none⟩) hbw).trans e1
              have HSJ : Hid ((l.map Ev.em)[j]? = some l[j].em) := by
                show _ = _
                rw [List.getElem?_map, List.getElem?_eq_getElem hjl]
                rfl
              generalize hlk : l[j] = ev at *
              obtain ⟨vt, vn, vk, vo, vA, vc, vp⟩ := ev
              dsimp only at e1
              dsimp only [Ev.em] at HSJ
              clear hlk
              have jk' : (j : Int) < k := by omega
              have jm' : (j : Int) < m := by omega
              by_cases hvn : vn = xn
              · subst hvn
                go_upto_region 20 with fail
                go_quiet (fail)
                go_wp2_with fail
                go_ret
                refine ⟨ret_int ?_, HB.out.2.trans (below_drewN (HG3.out.2.2.1.trans (HD.out.2.mono HG3.out.2.2.1.size)) _ |>.mono HB.out.2.size)⟩
                have hd : ((l.map Ev.em).take k).any (fun f => f.n == vn) = true := List.any_eq_true.2 ⟨_, List.mem_of_getElem? (by rw [List.getElem?_take_of_lt hjk]; exact HSJ.out), by simp⟩
                rw [HC.out, chkE_at (k := k) (c := 8) HBD.out (by rw [List.length_map]; omega) (by rw [bad_dup HS.out HW0.out HOB.out]; dsimp only; rw [hd]; rfl) (by omega)]
                rfl
              · have hne : (vn == xn) = false := by rw [beq_eq_false_iff_ne]; exact hvn
                have HNE := Lib.hid hvn
                clear hvn
                go_upto_region 20 with fail
                go_quiet (fail)
                go_wp2_with fail
                go_roundw
                case rel =>
                  refine ⟨j + 1, by omega, by go_num, fun i f hi hf => ?_, below_drewN HD.out.2 _⟩
                  rcases Nat.lt_or_ge i j with h | h
                  · exact HD.out.1 i f h hf
                  · obtain rfl : i = j := by omega
                    rw [HSJ.out] at hf
                    injection hf with hf
                    rw [← hf]
                    exact HNE.out
                case measure => simp [intOf]; omega
            · have hjk' : ¬ (j : Int) < k := by omega
              go_wp2_with fail
              have hd : ((l.map Ev.em).take k).any (fun f => f.n == xn) = false := by
                rw [List.any_eq_false]
                intro f hf
                obtain ⟨i, hi, rfl⟩ := List.getElem_of_mem hf
                rw [List.length_take, List.length_map] at hi
                have := HD.out.1 i _ (by omega) (List.getElem?_eq_getElem (by rw [List.length_map]; omega))
                rw [List.getElem_take]
                simpa using this
              have HDD := Lib.hid hd
              clear hd
              go_roundw
              case rel =>
                refine ⟨k + 1, by omega, by go_num, fun i hi => ?_, HG3.out.2.2.2.trans (HD.out.2.mono HG3.out.2.2.2.size)⟩
                rcases Nat.lt_or_ge i k with h | h
                · exact HBD.out i h
                · obtain rfl : i = k := by omega
                  rw [bad_dup HS.out HW0.out HOB.out]
                  dsimp only
                  rw [HDD.out]
                  rfl
              case measure => simp [intOf]; omega
    · go_wp2_with fail
      go_ret
      refine ⟨ret_int ?_, HB.out.2⟩
      rw [HC.out, chkE_ok (fun j hj => HBD.out j (by rw [List.length_map] at hj; have := HX.out.2.1; omega))]
      rfl
end Go.Proofs.Ytknedclejhiegaa
