/- The walk of Check. Condition: at most 4096 events. -/
import Derived.Test.YtknedclejhiegaaWe
import Derived.Deep.CutRange
namespace Go.Proofs.Ytknedclejhiegaa
open Go.RowKit
theorem below_step {X W w' : World} (h : Below X.heap.size X W) (hb : Below W.heap.size W w') : Below X.heap.size X w' := h.trans (hb.mono h.size)
theorem Evs.take {w : World} {A : Option Addr} {n : Nat} {l : List Ev} (h : Evs w A n l) {k : Nat} (hk : k ≤ n) : Evs w A k (l.take k) := by
  refine ⟨?_, fun e he => h.ev e (List.mem_of_mem_take he)⟩
  have h1 := h.rd.take hk
  have h2 : (l.flatMap encEv).take (k * 5) = (l.take k).flatMap encEv := by
    clear h h1 hk
    induction l generalizing k with
    | nil => simp
    | cons e l ih =>
      cases k with
      | zero => simp
      | succ k =>
        rw [List.take_succ_cons, List.flatMap_cons, List.flatMap_cons, ← ih, List.take_append, encEv_len]
        rw [List.take_of_length_le (by rw [encEv_len]; omega), show (k + 1) * 5 - 5 = k * 5 by omega]
  rw [h2] at h1
  exact h1
theorem compare_z (t n k o t' n' k' o' : Int) (A A' : Option Addr) (m c m' c' : Nat) (z : Int) (hz : orI (cmpI t t') (cmpI n n') = z) (w : World) :
    Calls Try.prog 30 #[.agg (evC t n k o A m c), .agg (evC t' n' k' o' A' m' c')] w fun e w' => e = .returned (.int .i64 z) ∧ Below w.heap.size w w' := by
  subst hz
  exact compare_any t n k o t' n' k' o' A A' m c m' c' w
/-- what the comparison loads -/
structure CkX (X : World) (bq be b off : Nat) (A : Option Addr) (m c : Nat) (x y : Ev) : Prop where
  q : X.cell? ⟨bq, 0, none⟩ = some (.slice A m c)
  e0 : X.cell? ⟨be, 0, none⟩ = some (.int .i64 x.t)
  e1 : X.cell? ⟨be, 1, none⟩ = some (.int .i64 x.n)
  e2 : X.cell? ⟨be, 2, none⟩ = some (.int .i64 x.k)
  e3 : X.cell? ⟨be, 3, none⟩ = some (.int .i64 x.o)
  e4 : X.cell? ⟨be, 4, none⟩ = some (.slice x.A x.p.length x.c)
  f0 : X.cell? ⟨b, off, none⟩ = some (.int .i64 y.t)
  f1 : X.cell? ⟨b, off + 1, none⟩ = some (.int .i64 y.n)
  f2 : X.cell? ⟨b, off + 2, none⟩ = some (.int .i64 y.k)
  f3 : X.cell? ⟨b, off + 3, none⟩ = some (.int .i64 y.o)
  f4 : X.cell? ⟨b, off + 4, none⟩ = some (.slice y.A y.p.length y.c)
  lq : bq < X.heap.size
  le : be < X.heap.size
  lb : b < X.heap.size
theorem CkX.held {X w' : World} {bq be b off : Nat} {A : Option Addr} {m c : Nat} {x y : Ev} (h : CkX X bq be b off A m c x y) (hb : Below X.heap.size X w') : w'.cell? ⟨bq, 0, none⟩ = some (.slice A m c) ∧ w'.cell? ⟨be, 0, none⟩ = some (.int .i64 x.t) ∧ w'.cell? ⟨be, 1, none⟩ = some (.int .i64 x.n) ∧ w'.cell? ⟨be, 2, none⟩ = some (.int .i64 x.k) ∧ w'.cell? ⟨be, 3, none⟩ = some (.int .i64 x.o) ∧ w'.cell? ⟨be, 4, none⟩ = some (.slice x.A x.p.length x.c) ∧ w'.cell? ⟨b, off, none⟩ = some (.int .i64 y.t) ∧ w'.cell? ⟨b, off + 1, none⟩ = some (.int .i64 y.n) ∧ w'.cell? ⟨b, off + 2, none⟩ = some (.int .i64 y.k) ∧ w'.cell? ⟨b, off + 3, none⟩ = some (.int .i64 y.o) ∧ w'.cell? ⟨b, off + 4, none⟩ = some (.slice y.A y.p.length y.c) ∧ Below X.heap.size X w' :=
  ⟨(hb.cell (p := ⟨bq, 0, none⟩) h.lq).trans h.q, (hb.cell (p := ⟨be, 0, none⟩) h.le).trans h.e0, (hb.cell (p := ⟨be, 1, none⟩) h.le).trans h.e1, (hb.cell (p := ⟨be, 2, none⟩) h.le).trans h.e2, (hb.cell (p := ⟨be, 3, none⟩) h.le).trans h.e3, (hb.cell (p := ⟨be, 4, none⟩) h.le).trans h.e4, (hb.cell (p := ⟨b, off, none⟩) h.lb).trans h.f0, (hb.cell (p := ⟨b, off + 1, none⟩) h.lb).trans h.f1, (hb.cell (p := ⟨b, off + 2, none⟩) h.lb).trans h.f2, (hb.cell (p := ⟨b, off + 3, none⟩) h.lb).trans h.f3, (hb.cell (p := ⟨b, off + 4, none⟩) h.lb).trans h.f4, hb⟩
set_option maxRecDepth 100000 in
set_option maxHeartbeats 4000000 in
theorem Check_any (A : Option Addr) (m c : Nat) (l : List Ev) (nx : Int) (w : World) (hR : Evs w A m l) (hm : m ≤ 4096) (hmc : m ≤ c) :
    Calls Try.prog 12 #[.agg #[.slice A m c, .int .i64 nx]] w fun e w' => e = .returned (.int .i64 (chkQ nx (l.map Ev.em) : Nat)) ∧ Below w.heap.size w w' := by
  have hlen := hR.count
  have hb0 : Below w.heap.size w (w.alloc (.cells #[.slice A m c, .int .i64 nx] 24)) := (Below.refl _ _).alloc (Nat.le_refl _) _
  have g0 := Blk.new w 24 #[.slice A m c, .int .i64 nx]
  have hm1 : ¬ (4096 : Int) < m := by omega
  have hs0 : (w.alloc (.cells #[.slice A m c, .int .i64 nx] 24)).heap.size = w.heap.size + 1 := by simp
  by_cases c1 : nx < 0
  · have HC : Hid (chkQ nx (l.map Ev.em) = 2) := by show _ = _; unfold chkQ; rw [if_pos (.inl c1)]
    generalize chkQ nx (l.map Ev.em) = r at *
    have hc := HC.out
    subst hc
    go_enter Try.func12, Try.ntmps12
    go_wp2_with fail
    go_ret
    exact ⟨rfl, hb0⟩
  by_cases c2 : 1073741824 < nx
  · have HC : Hid (chkQ nx (l.map Ev.em) = 2) := by show _ = _; unfold chkQ; rw [if_pos (.inr c2)]
    generalize chkQ nx (l.map Ev.em) = r at *
    have hc := HC.out
    subst hc
    go_enter Try.func12, Try.ntmps12
    go_wp2_with fail
    go_ret
    exact ⟨rfl, hb0⟩
  have HC : Hid (chkQ nx (l.map Ev.em) = chkE nx (l.map Ev.em)) := by show _ = _; unfold chkQ; rw [if_neg (by omega)]
  have HX := Lib.hid (And.intro hR (And.intro hlen hb0))
  have hR0 := hR.up hb0
  have H0 := Lib.hid (And.intro g0 (And.intro hR0 hs0))
  clear hR hlen hb0 hR0 g0 hs0
  go_enter Try.func12, Try.ntmps12
  go_wp2_with fail
  generalize (w.alloc (.cells #[.slice A m c, .int .i64 nx] 24)) = V at *
  go_loopw [4, 5, 6, 22] (fun _ _ _ u22 W => ∃ (k : Nat), k ≤ m ∧ u22 = .int .i64 (k : Nat) ∧ (∀ j, j < k → badAt nx (l.map Ev.em) j = 0) ∧ Below V.heap.size V W) (fun _ _ _ u22 _ => m + 1 - (intOf u22).toNat)
  case atStart => exact ⟨0, by omega, rfl, fun j hj => absurd hj (by omega), Below.refl _ _⟩
  case round =>
    obtain ⟨k, hk, rfl, hbad, hb⟩ := hrel
    have HBD := Lib.hid hbad
    have hbw := HX.out.2.2.trans (hb.mono HX.out.2.2.size)
    have hzw : w.heap.size < wr.heap.size := by have := hb.size; have := H0.out.2.2; omega
    have gq := H0.out.1.below hb (by have := H0.out.2.2; omega)
    have HB := Lib.hid (And.intro hb hbw)
    clear hbad hb hbw
    by_cases hlt : k < m
    · have hkl : k < l.length := by have := HX.out.2.1; omega
      obtain ⟨b, off, rfl, hbw, hc⟩ := H0.out.2.1.cells (by omega)
      obtain ⟨d0, d1, d2, d3, d4⟩ := hc k _ (List.getElem?_eq_getElem hkl)
      replace d0 := (HB.out.1.cell (p := ⟨b, off + k * 5, none⟩) hbw).trans d0
      replace d1 := (HB.out.1.cell (p := ⟨b, off + k * 5 + 1, none⟩) hbw).trans d1
      replace d2 := (HB.out.1.cell (p := ⟨b, off + k * 5 + 2, none⟩) hbw).trans d2
      replace d3 := (HB.out.1.cell (p := ⟨b, off + k * 5 + 3, none⟩) hbw).trans d3
      replace d4 := (HB.out.1.cell (p := ⟨b, off + k * 5 + 4, none⟩) hbw).trans d4
      have HCL := Lib.hid hc
      have HS : Hid ((l.map Ev.em)[k]? = some l[k].em) := by
        show _ = _
        rw [List.getElem?_map, List.getElem?_eq_getElem hkl]
        rfl
      clear hc
      generalize hlk : l[k] = ev at *
      obtain ⟨xt, xn, xk, xo, xA, xc, xp⟩ := ev
      dsimp only at d0 d1 d2 d3 d4
      dsimp only [Ev.em] at HS
      clear hlk
      have ik : (k : Int) < m := by omega
      have q0 : wr.cell? ⟨w.heap.size, 0, none⟩ = some (.slice (some ⟨b, off, none⟩) m c) := gq.cell 0
      have q1 : wr.cell? ⟨w.heap.size, 1, none⟩ = some (.int .i64 nx) := gq.cell 1
      go_upto_region 9 with fail
      have g1 := Blk.new wr 32 #[.int .i64 xt, .int .i64 xn, .int .i64 xk, .int .i64 xo, .slice xA xp.length xc]
      have hb1 : Below wr.heap.size wr (wr.alloc (.cells #[.int .i64 xt, .int .i64 xn, .int .i64 xk, .int .i64 xo, .slice xA xp.length xc] 32)) := (Below.refl _ _).alloc (Nat.le_refl _) _
      have gq1 := gq.alloc (.cells #[.int .i64 xt, .int .i64 xn, .int .i64 xk, .int .i64 xo, .slice xA xp.length xc] 32)
      have hs1 : (wr.alloc (.cells #[.int .i64 xt, .int .i64 xn, .int .i64 xk, .int .i64 xo, .slice xA xp.length xc] 32)).heap.size = wr.heap.size + 1 := by simp
      generalize (wr.alloc (.cells #[.int .i64 xt, .int .i64 xn, .int .i64 xk, .int .i64 xo, .slice xA xp.length xc] 32)) = W1 at *
      clear d0 d1 d2 d3 d4 q0 q1 gq
      have d0 : W1.cell? ⟨wr.heap.size, 0, none⟩ = some (.int .i64 xt) := g1.cell 0
      have d1 : W1.cell? ⟨wr.heap.size, 1, none⟩ = some (.int .i64 xn) := g1.cell 1
      have d2 : W1.cell? ⟨wr.heap.size, 2, none⟩ = some (.int .i64 xk) := g1.cell 2
      have d3 : W1.cell? ⟨wr.heap.size, 3, none⟩ = some (.int .i64 xo) := g1.cell 3
      have d4 : W1.cell? ⟨wr.heap.size, 4, none⟩ = some (.slice xA xp.length xc) := g1.cell 4
      have q1 : W1.cell? ⟨w.heap.size, 1, none⟩ = some (.int .i64 nx) := gq1.cell 1
      have HG1 := Lib.hid (And.intro g1 (And.intro gq1 (And.intro hb1 hs1)))
      clear g1 gq1 hb1 hs1
      go_wp2_with fail
      refine (wrong_any xt xn xk xo xA xc xp nx W1).mono ?_
      rintro e w2 ⟨rfl, hb2⟩
      obtain ⟨wv, hwv⟩ : ∃ wv, wrongE ⟨xt, xn, xk, xo, xp⟩ nx = wv := ⟨_, rfl⟩
      rw [hwv]
      have HWV := Lib.hid hwv
      have g2 := HG1.out.1.below hb2 (by have := HG1.out.2.2.2; omega)
      have gq2 := HG1.out.2.1.below hb2 (by have := HG1.out.2.2.2; omega)
      have hbr2 : Below wr.heap.size wr w2 := HG1.out.2.2.1.trans (hb2.mono HG1.out.2.2.1.size)
      have hs2 : wr.heap.size + 1 ≤ w2.heap.size := by have := hb2.size; have := HG1.out.2.2.2; omega
      clear hwv d0 d1 d2 d3 d4 q1
      by_cases hw0 : wv = 0
      · subst hw0
        have HG2 := Lib.hid (And.intro g2 (And.intro gq2 hbr2))
        have hlt2 : w.heap.size < w2.heap.size := by omega
        clear g2 gq2 hbr2 hb2
        by_cases hk0 : k = 0
        · have HOB : Hid (ordBad (l.map Ev.em) k ⟨xt, xn, xk, xo, xp⟩ = false) := by
            show _ = _
            unfold ordBad
            subst hk0
            cases (l.map Ev.em)[0 - 1]? with
            | none => rfl
            | some f => simp
          have hk0' : decide ((0 : Int) < (k : Int)) = false := by rw [decide_eq_false]; omega
          have hk0n : decide (0 < k) = false := by rw [decide_eq_false]; omega
          have HK0 := Lib.hid hk0
          clear hk0
          go_upto_region 12 with fail
          go_quiet (fail)
          have hb3 : Below w2.heap.size w2 (w2.drewN nq) := below_drewN (Below.refl _ _) _
          generalize w2.drewN nq = wc at *
          have g3 := HG2.out.1.below hb3 (by omega)
          have gq3 := HG2.out.2.1.below hb3 hlt2
          have hbr3 : Below wr.heap.size wr wc := HG2.out.2.2.trans (hb3.mono HG2.out.2.2.size)
          have hw3 := hb3.size
          clear hb3
          have x0 : wc.cell? ⟨wr.heap.size, 0, none⟩ = some (.int .i64 xt) := g3.cell 0
          have x1 : wc.cell? ⟨wr.heap.size, 1, none⟩ = some (.int .i64 xn) := g3.cell 1
          have q0 : wc.cell? ⟨w.heap.size, 0, none⟩ = some (.slice (some ⟨b, off, none⟩) m c) := gq3.cell 0
          have HG3 := Lib.hid (And.intro g3 (And.intro gq3 hbr3))
          clear g3 gq3 hbr3
          have hkc : (k : Int) ≤ c := by omega
          go_wp2_with fail
          have hev := (HX.out.1.up (HB.out.2.trans (HG3.out.2.2.mono HB.out.2.size))).take (k := k) (by omega)
          refine (contains33_any (some ⟨b, off, none⟩) k c (l.take k) wr.heap.size xn wc hev (by omega) (HG3.out.1.cell 1) (by omega)).mono ?_
          rintro e w4 ⟨rfl, hb4⟩
          have hcn : ((l.take k).map Ev.em).any (numB xn) = ((l.map Ev.em).take k).any (fun f => f.n == xn) := by rw [List.map_take]; rfl
          rw [hcn]
          have HV := Lib.hid hev
          have HB4 := Lib.hid hb4
          obtain ⟨dv, hdv⟩ : ∃ dv, ((l.map Ev.em).take k).any (fun f => f.n == xn) = dv := ⟨_, rfl⟩
          rw [hdv]
          have HDV := Lib.hid hdv
          clear hev hb4 hcn hdv x0 x1 q0
          have hbk : Hid (badAt nx (l.map Ev.em) k = if dv = true then 8 else 0) := by
            show _ = _
            unfold badAt
            rw [HS.out]
            dsimp only
            rw [HWV.out, if_neg (by simp), if_neg (by rw [HOB.out]; simp), HDV.out]
          cases dv with
          | true =>
            go_wp2_with fail
            go_ret
            refine ⟨ret_int ?_, HB.out.2.trans ((HG3.out.2.2.trans (HB4.out.mono HG3.out.2.2.size)).mono HB.out.2.size)⟩
            rw [HC.out, chkE_at (k := k) (c := 8) HBD.out (by rw [List.length_map]; have := HX.out.2.1; omega) (by rw [hbk.out]; rfl) (by omega)]
            rfl
          | false =>
            go_wp2_with fail
            go_roundw
            case rel =>
              refine ⟨k + 1, by omega, by go_num, fun j hj => ?_, HB.out.1.trans ((HG3.out.2.2.trans (HB4.out.mono HG3.out.2.2.size)).mono HB.out.1.size)⟩
              rcases Nat.lt_or_ge j k with h | h
              · exact HBD.out j h
              · obtain rfl : j = k := by omega
                rw [hbk.out]; rfl
            case measure => simp [intOf]; omega

        · have hkp : 0 < k := by omega
          have hkp' : (0 : Int) < k := by omega
          have hl1 : k - 1 < l.length := by omega
          obtain ⟨f0, f1, f2, f3, f4⟩ := HCL.out (k - 1) _ (List.getElem?_eq_getElem hl1)
          have HS1 : Hid ((l.map Ev.em)[k - 1]? = some l[k - 1].em) := by
            show _ = _
            rw [List.getElem?_map, List.getElem?_eq_getElem hl1]
            rfl
          generalize hlk : l[k - 1] = ev at *
          obtain ⟨yt, yn, yk, yo, yA, yc, yp⟩ := ev
          dsimp only at f0 f1 f2 f3 f4
          clear hlk
          have hV2 : Below V.heap.size V w2 := HB.out.1.trans (HG2.out.2.2.mono HB.out.1.size)
          have hck : CkX w2 w.heap.size wr.heap.size b (off + (k - 1) * 5) (some ⟨b, off, none⟩) m c ⟨xt, xn, xk, xo, xA, xc, xp⟩ ⟨yt, yn, yk, yo, yA, yc, yp⟩ :=
            ⟨HG2.out.2.1.cell 0, HG2.out.1.cell 0, HG2.out.1.cell 1, HG2.out.1.cell 2, HG2.out.1.cell 3, HG2.out.1.cell 4,
              (hV2.cell (p := ⟨b, off + (k - 1) * 5, none⟩) hbw).trans f0, (hV2.cell (p := ⟨b, off + (k - 1) * 5 + 1, none⟩) hbw).trans f1, (hV2.cell (p := ⟨b, off + (k - 1) * 5 + 2, none⟩) hbw).trans f2, (hV2.cell (p := ⟨b, off + (k - 1) * 5 + 3, none⟩) hbw).trans f3, (hV2.cell (p := ⟨b, off + (k - 1) * 5 + 4, none⟩) hbw).trans f4, by omega, by omega, by have := hV2.size; omega⟩
          have HCK := Lib.hid hck
          have hz := compare_bef ⟨yt, yn, yk, yo, yp⟩ ⟨xt, xn, xk, xo, xp⟩
          dsimp only at hz
          obtain ⟨z, hzz⟩ : ∃ z, orI (cmpI yt xt) (cmpI yn xn) = z := ⟨_, rfl⟩
          rw [hzz] at hz
          have HZ := Lib.hid hzz
          have hob : ordBad (l.map Ev.em) k ⟨xt, xn, xk, xo, xp⟩ = decide (0 ≤ z) := by
            unfold ordBad
            rw [HS1.out, hz]
            show (decide (0 < k) && !befB ⟨yt, yn, yk, yo, yp⟩ _) = _
            rw [decide_eq_true hkp, Bool.true_and]
          have HOBB := Lib.hid hob
          have kw : IntKind.i64.wrap ((k : Int) - 1) = (k : Int) - 1 := by rw [IntWalk.i64_in _ (by omega)]
          have kw0 : (0 : Int) ≤ (k : Int) - 1 := by omega
          have kw1 : ((k : Int) - 1).toNat = k - 1 := by omega
          have kw2 : (k : Int) - 1 < m := by omega
          have kw3 : (1 : Int) ≤ k := by omega
          have kw4 : (k : Int) < (m : Int) + 1 := by omega
          clear f0 f1 f2 f3 f4 hV2 hck hz hzz hob
          go_upto_region 12 with fail
          go_cut [47] from 34 to 48 (fun s V3 => s = .bool (decide (0 ≤ z)) ∧ Below w2.heap.size w2 V3)
          case first =>
            go_region_held3 (fun w' => w'.cell? ⟨w.heap.size, 0, none⟩ = some (.slice (some ⟨b, off, none⟩) m c) ∧ w'.cell? ⟨wr.heap.size, 0, none⟩ = some (.int .i64 xt) ∧ w'.cell? ⟨wr.heap.size, 1, none⟩ = some (.int .i64 xn) ∧ w'.cell? ⟨wr.heap.size, 2, none⟩ = some (.int .i64 xk) ∧ w'.cell? ⟨wr.heap.size, 3, none⟩ = some (.int .i64 xo) ∧ w'.cell? ⟨wr.heap.size, 4, none⟩ = some (.slice xA xp.length xc) ∧ w'.cell? ⟨b, off + (k - 1) * 5, none⟩ = some (.int .i64 yt) ∧ w'.cell? ⟨b, off + (k - 1) * 5 + 1, none⟩ = some (.int .i64 yn) ∧ w'.cell? ⟨b, off + (k - 1) * 5 + 2, none⟩ = some (.int .i64 yk) ∧ w'.cell? ⟨b, off + (k - 1) * 5 + 3, none⟩ = some (.int .i64 yo) ∧ w'.cell? ⟨b, off + (k - 1) * 5 + 4, none⟩ = some (.slice yA yp.length yc) ∧ Below w2.heap.size w2 w')
              (first
                | exact HCK.out.held ((Below.refl _ w2).drew)
                | (go_split_ands; exact HCK.out.held (below_step (by assumption) hb'))
                | (go_split_ands; exact HCK.out.held (by assumption)))
              (first
                | (go_at_call 30; refine (compare_z yt yn yk yo xt xn xk xo yA xA yp.length yc xp.length xc z HZ.out _).mono ?_; rintro e w' ⟨rfl, hb'⟩))
            go_wp2_with fail
            go_meet
            exact ⟨rfl, (Below.refl _ w2).drew.trans hb'⟩
          case rest =>
            obtain ⟨rfl, hb3⟩ := hcut
            by_cases hz0 : 0 ≤ z
            · have HZ0 := Lib.hid hz0
              go_wp2_with fail
              go_ret
              refine ⟨ret_int ?_, HB.out.2.trans ((HG2.out.2.2.trans (hb3.mono HG2.out.2.2.size)).mono HB.out.2.size)⟩
              rw [HC.out, chkE_at (k := k) (c := 3) HBD.out (by rw [List.length_map]; have := HX.out.2.1; omega) ?_ (by omega)]
              · rfl
              · unfold badAt
                rw [HS.out]
                dsimp only
                rw [HWV.out, if_neg (by simp), if_pos (by rw [HOBB.out]; simpa using HZ0.out)]
            · have HOB : Hid (ordBad (l.map Ev.em) k ⟨xt, xn, xk, xo, xp⟩ = false) := by
                show _ = _
                rw [HOBB.out]
                exact decide_eq_false hz0
              clear kw kw0 kw1 kw2 kw3 kw4
              have g3 := HG2.out.1.below hb3 (by omega)
              have gq3 := HG2.out.2.1.below hb3 hlt2
              have hbr3 : Below wr.heap.size wr wc := HG2.out.2.2.trans (hb3.mono HG2.out.2.2.size)
              have hw3 := hb3.size
              clear hb3
              have x0 : wc.cell? ⟨wr.heap.size, 0, none⟩ = some (.int .i64 xt) := g3.cell 0
              have x1 : wc.cell? ⟨wr.heap.size, 1, none⟩ = some (.int .i64 xn) := g3.cell 1
              have q0 : wc.cell? ⟨w.heap.size, 0, none⟩ = some (.slice (some ⟨b, off, none⟩) m c) := gq3.cell 0
              have HG3 := Lib.hid (And.intro g3 (And.intro gq3 hbr3))
              clear g3 gq3 hbr3
              have hkc : (k : Int) ≤ c := by omega
              go_wp2_with fail
              have hev := (HX.out.1.up (HB.out.2.trans (HG3.out.2.2.mono HB.out.2.size))).take (k := k) (by omega)
              refine (contains33_any (some ⟨b, off, none⟩) k c (l.take k) wr.heap.size xn wc hev (by omega) (HG3.out.1.cell 1) (by omega)).mono ?_
              rintro e w4 ⟨rfl, hb4⟩
              have hcn : ((l.take k).map Ev.em).any (numB xn) = ((l.map Ev.em).take k).any (fun f => f.n == xn) := by rw [List.map_take]; rfl
              rw [hcn]
              have HV := Lib.hid hev
              have HB4 := Lib.hid hb4
              obtain ⟨dv, hdv⟩ : ∃ dv, ((l.map Ev.em).take k).any (fun f => f.n == xn) = dv := ⟨_, rfl⟩
              rw [hdv]
              have HDV := Lib.hid hdv
              clear hev hb4 hcn hdv x0 x1 q0
              have hbk : Hid (badAt nx (l.map Ev.em) k = if dv = true then 8 else 0) := by
                show _ = _
                unfold badAt
                rw [HS.out]
                dsimp only
                rw [HWV.out, if_neg (by simp), if_neg (by rw [HOB.out]; simp), HDV.out]
              cases dv with
              | true =>
                go_wp2_with fail
                go_ret
                refine ⟨ret_int ?_, HB.out.2.trans ((HG3.out.2.2.trans (HB4.out.mono HG3.out.2.2.size)).mono HB.out.2.size)⟩
                rw [HC.out, chkE_at (k := k) (c := 8) HBD.out (by rw [List.length_map]; have := HX.out.2.1; omega) (by rw [hbk.out]; rfl) (by omega)]
                rfl
              | false =>
                go_wp2_with fail
                go_roundw
                case rel =>
                  refine ⟨k + 1, by omega, by go_num, fun j hj => ?_, HB.out.1.trans ((HG3.out.2.2.trans (HB4.out.mono HG3.out.2.2.size)).mono HB.out.1.size)⟩
                  rcases Nat.lt_or_ge j k with h | h
                  · exact HBD.out j h
                  · obtain rfl : j = k := by omega
                    rw [hbk.out]; rfl
                case measure => simp [intOf]; omega

      · have hw1 : ((wv : Int) != 0) = true := by rw [bne_iff_ne]; omega
        have HW0 := Lib.hid hw0
        have HB2 := Lib.hid hbr2
        clear hw0 hbr2 g2 gq2 hb2
        go_wp2_with fail
        go_ret
        refine ⟨ret_int ?_, HB.out.2.trans (HB2.out.mono HB.out.2.size)⟩
        rw [HC.out, chkE_at (k := k) (c := wv) HBD.out (by rw [List.length_map]; have := HX.out.2.1; omega) ?_ HW0.out]
        unfold badAt
        rw [HS.out]
        dsimp only
        rw [HWV.out, if_pos HW0.out]
    · go_wp2_with fail
      go_ret
      refine ⟨ret_int ?_, HB.out.2⟩
      rw [HC.out, chkE_ok (fun j hj => HBD.out j (by rw [List.length_map] at hj; have := HX.out.2.1; omega))]
      rfl
end Go.Proofs.Ytknedclejhiegaa
