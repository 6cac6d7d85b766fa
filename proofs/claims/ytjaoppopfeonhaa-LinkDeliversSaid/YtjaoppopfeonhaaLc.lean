/- The walk of the law LinkDelivers. No condition. -/
import Derived.Test.YtjaoppopfeonhaaLb
import Derived.Test.YtjaoppopfeonhaaWv
namespace Go.Proofs.Ytjaoppopfeonhaa
open Go.RowKit
theorem same_lv (K : Lm) (hk : K.fl.length ≤ 10000) (v u : Value) (W : World) (hv : FlV W 0 K.fl v) (hu : FlV W 0 K.fl u) : Calls Try.prog 15 #[.agg (lkV K v), .agg (lkV K u)] W fun e w' => e = .returned (.bool true) ∧ Below W.heap.size W w' := by
  obtain ⟨A, c, es, rfl, h2, h3, _⟩ := hv.val
  obtain ⟨A', c', es', rfl, g2, g3, _⟩ := hu.val
  have hl : es.length = K.fl.length := by rw [← h3, List.length_map]
  have hl' : es'.length = K.fl.length := by rw [← g3, List.length_map]
  rw [hl] at h2 ⊢
  rw [hl'] at g2 ⊢
  exact Same_true K.mi K.ma K.ra K.dn K.idle K.nx A A' K.fl.length c c' es es' W h2 g2 hk (by rw [h3, g3])
theorem deliv_len (l : Lm) (now : Int) : (delivM l now).1.fl.length ≤ l.fl.length ∧ (delivM l now).2.length ≤ l.fl.length := by
  unfold delivM
  split
  · exact ⟨Nat.le_refl _, Nat.zero_le _⟩
  · refine ⟨?_, ?_⟩
    · dsimp only; rw [List.length_drop]; omega
    · dsimp only; rw [List.length_map, List.length_take]; omega
theorem cut_len (l : Lm) : (cutM l).fl.length ≤ l.fl.length := by
  unfold cutM
  split
  · exact Nat.le_refl _
  · exact Nat.zero_le _
theorem rest_len (l : Lm) (now : Int) : (restM l now).fl.length ≤ l.fl.length := by
  unfold restM
  split <;> exact Nat.le_refl _
set_option linter.unusedSimpArgs false in
set_option maxRecDepth 100000 in
set_option maxHeartbeats 16000000 in
theorem walkLinkDelivers (w : World) (v0 v1 : Value) (h0 : Arg26 w v0) (h1 : Arg3 w v1) : Calls Try.prog 9 #[v0, v1] w fun e w' => e = .returned (.bool true) ∧ Below w.heap.size w w' := by
  obtain ⟨mi, ma, ra, dn, id, nx, A, m, c, l, rfl, hR, hmc, hcm⟩ := h0
  obtain ⟨now, rfl, _, _⟩ := h1
  unfold lkC
  have hlen := hR.count
  have hb0 : Below w.heap.size w (w.alloc (.cells #[.int .i64 mi, .int .i64 ma, .int .i64 ra, .bool dn, .int .i64 id, .int .i64 nx, .slice A m c] 26)) := (Below.refl _ _).alloc (Nat.le_refl _) _
  have g0 := Blk.new w 26 #[.int .i64 mi, .int .i64 ma, .int .i64 ra, .bool dn, .int .i64 id, .int .i64 nx, .slice A m c]
  have hs0 : w.heap.size + 1 ≤ (w.alloc (.cells #[.int .i64 mi, .int .i64 ma, .int .i64 ra, .bool dn, .int .i64 id, .int .i64 nx, .slice A m c] 26)).heap.size := by simp
  have HX := Lib.hid (And.intro hR (And.intro hlen hcm))
  clear hR hlen
  go_enter Try.func9, Try.ntmps9
  go_upto_region 1 with fail
  generalize (w.alloc (.cells #[.int .i64 mi, .int .i64 ma, .int .i64 ra, .bool dn, .int .i64 id, .int .i64 nx, .slice A m c] 26)) = V at *
  have c0 : V.cell? ⟨w.heap.size, 0, none⟩ = some (.int .i64 mi) := g0.cell 0
  have c1 : V.cell? ⟨w.heap.size, 1, none⟩ = some (.int .i64 ma) := g0.cell 1
  have c2 : V.cell? ⟨w.heap.size, 2, none⟩ = some (.int .i64 ra) := g0.cell 2
  have c3 : V.cell? ⟨w.heap.size, 3, none⟩ = some (.bool dn) := g0.cell 3
  have c4 : V.cell? ⟨w.heap.size, 4, none⟩ = some (.int .i64 id) := g0.cell 4
  have c5 : V.cell? ⟨w.heap.size, 5, none⟩ = some (.int .i64 nx) := g0.cell 5
  have c6 : V.cell? ⟨w.heap.size, 6, none⟩ = some (.slice A m c) := g0.cell 6
  obtain ⟨f, hf⟩ : ∃ f, fewB (l.map Ev.em) = f := ⟨_, rfl⟩
  go_wp2_with fail
  refine (few_any A m c mi ma ra dn id nx l V (HX.out.1.up hb0) (by unfold maxLen at hcm ⊢; omega)).mono ?_
  rintro e w1 ⟨rfl, hb1⟩
  have G0 := g0.below hb1 (by omega)
  have hs1 : w.heap.size + 1 ≤ w1.heap.size := by have := hb1.size; omega
  have HB := Lib.hid (And.intro (hb0.trans (hb1.mono hb0.size)) G0)
  clear c0 c1 c2 c3 c4 c5 c6 g0 hb0 hb1 hs0 hcm
  have c0 : w1.cell? ⟨w.heap.size, 0, none⟩ = some (.int .i64 mi) := G0.cell 0
  have c1 : w1.cell? ⟨w.heap.size, 1, none⟩ = some (.int .i64 ma) := G0.cell 1
  have c2 : w1.cell? ⟨w.heap.size, 2, none⟩ = some (.int .i64 ra) := G0.cell 2
  have c3 : w1.cell? ⟨w.heap.size, 3, none⟩ = some (.bool dn) := G0.cell 3
  have c4 : w1.cell? ⟨w.heap.size, 4, none⟩ = some (.int .i64 id) := G0.cell 4
  have c5 : w1.cell? ⟨w.heap.size, 5, none⟩ = some (.int .i64 nx) := G0.cell 5
  have c6 : w1.cell? ⟨w.heap.size, 6, none⟩ = some (.slice A m c) := G0.cell 6
  clear G0
  rw [hf]
  cases f with
  | false =>
    go_wp2_with fail
    refine (awake_any _).mono ?_
    rintro e w9 ⟨rfl, hb9⟩
    go_wp2_with fail
    go_ret
    exact ⟨by simp, HB.out.1.trans (hb9.mono HB.out.1.size)⟩
  | true =>
    obtain ⟨hm40, hlp0⟩ := few_facts HX.out.2.1 hf
    have HLP : Hid (∀ e ∈ l, e.p.length ≤ 100000) := fun e he => by have := hlp0 e he; omega
    clear hf hlp0
    obtain ⟨D, hD⟩ : ∃ D, delivM ⟨mi, ma, ra, dn, id, nx, l.map Ev.em⟩ now = D := ⟨_, rfl⟩
    have hdl := deliv_len ⟨mi, ma, ra, dn, id, nx, l.map Ev.em⟩ now
    rw [hD] at hdl
    dsimp only at hdl
    rw [List.length_map, HX.out.2.1] at hdl
    have hc1 := Deliver_any mi ma ra dn id nx A m c l now w1 (HX.out.1.up HB.out.1) (by omega) hmc HLP.out
    rw [hD] at hc1
    obtain ⟨⟨kmi, kma, kra, kdn, kid, knx, kfl⟩, dp⟩ := D
    dsimp only at hdl
    go_wp2_with fail
    refine hc1.mono ?_
    clear hc1
    rintro e w2 ⟨hb2, v2, u2, rfl, hf2, hp2⟩
    try dsimp only at hf2 hp2
    have hf2' := hf2.low (Nat.zero_le _)
    obtain ⟨B1, d1, es1, rfl, hE1, hm1, _⟩ := hf2'.val
    obtain ⟨Q1, q1, pl1, rfl, hP1, hpm1, _⟩ := hp2.val
    obtain ⟨rn, hrn⟩ : ∃ rn, kfl.length = rn := ⟨_, rfl⟩
    obtain ⟨pn, hpn⟩ : ∃ pn, dp.length = pn := ⟨_, rfl⟩
    have he1 : es1.length = rn := by rw [← hrn, ← hm1, List.length_map]
    have hp1' : pl1.length = pn := by rw [← hpn, ← hpm1, List.length_map]
    rw [he1] at hE1
    rw [hp1'] at hP1
    rw [he1, hp1']
    unfold lkV
    dsimp only
    have hs2 := hb2.size
    have hx2 : Below w1.heap.size w1 (w2.alloc (.cells #[.int .i64 kmi, .int .i64 kma, .int .i64 kra, .bool kdn, .int .i64 kid, .int .i64 knx, .slice B1 rn d1] 26)) := hb2.alloc hs2 _
    have bx := Blk.new w2 26 #[.int .i64 kmi, .int .i64 kma, .int .i64 kra, .bool kdn, .int .i64 kid, .int .i64 knx, .slice B1 rn d1]
    have hup2 : Below w2.heap.size w2 (w2.alloc (.cells #[.int .i64 kmi, .int .i64 kma, .int .i64 kra, .bool kdn, .int .i64 kid, .int .i64 knx, .slice B1 rn d1] 26)) := (Below.refl _ _).alloc (Nat.le_refl _) _
    have H2 := Lib.hid (And.intro (HB.out.1.trans (hx2.mono HB.out.1.size)) (And.intro (HB.out.2.below hx2 (by omega)) (And.intro bx (And.intro (hE1.up hup2) (And.intro (hP1.up hup2) (And.intro hm1 hpm1))))))
    have hz2 : w2.heap.size + 1 ≤ (w2.alloc (.cells #[.int .i64 kmi, .int .i64 kma, .int .i64 kra, .bool kdn, .int .i64 kid, .int .i64 knx, .slice B1 rn d1] 26)).heap.size := by simp
    have HRN := Lib.hid (And.intro hrn hpn)
    have hrb : rn ≤ 40 ∧ pn ≤ 40 := by rw [hrn, hpn] at hdl; omega
    clear hb2 hx2 bx hf2 hf2' hp2 hE1 hP1 hm1 hpm1 hup2 hrn hpn hdl he1 hp1' c0 c1 c2 c3 c4 c5 c6
    go_upto_region 4 with fail
    generalize (w2.alloc (.cells #[.int .i64 kmi, .int .i64 kma, .int .i64 kra, .bool kdn, .int .i64 kid, .int .i64 knx, .slice B1 rn d1] 26)) = V2 at *
    have c0 : V2.cell? ⟨w.heap.size, 0, none⟩ = some (.int .i64 mi) := H2.out.2.1.cell 0
    have c1 : V2.cell? ⟨w.heap.size, 1, none⟩ = some (.int .i64 ma) := H2.out.2.1.cell 1
    have c2 : V2.cell? ⟨w.heap.size, 2, none⟩ = some (.int .i64 ra) := H2.out.2.1.cell 2
    have c3 : V2.cell? ⟨w.heap.size, 3, none⟩ = some (.bool dn) := H2.out.2.1.cell 3
    have c4 : V2.cell? ⟨w.heap.size, 4, none⟩ = some (.int .i64 id) := H2.out.2.1.cell 4
    have c5 : V2.cell? ⟨w.heap.size, 5, none⟩ = some (.int .i64 nx) := H2.out.2.1.cell 5
    have c6 : V2.cell? ⟨w.heap.size, 6, none⟩ = some (.slice A m c) := H2.out.2.1.cell 6
    have hc1 := refDeliver_any mi ma ra dn id nx A m c l now V2 (HX.out.1.up H2.out.1) (by omega) hmc HX.out.2.2 HLP.out
    rw [hD] at hc1
    go_wp2_with fail
    refine hc1.mono ?_
    clear hc1 hD
    rintro e w3 ⟨⟨v3, u3, rfl, hf3, hp3⟩, hb3⟩
    try dsimp only at hf3 hp3
    obtain ⟨B2, d2, es2, rfl, hE2, hm2, _⟩ := hf3.val
    obtain ⟨Q2, q2, pl2, rfl, hP2, hpm2, _⟩ := hp3.val
    have he2 : es2.length = rn := by rw [← HRN.out.1, ← hm2, List.length_map]
    have hp2' : pl2.length = pn := by rw [← HRN.out.2, ← hpm2, List.length_map]
    rw [he2] at hE2
    rw [hp2'] at hP2
    rw [he2, hp2']
    unfold lkV
    dsimp only
    have hs3 := hb3.size
    have hx3 : Below V2.heap.size V2 (w3.alloc (.cells #[.int .i64 kmi, .int .i64 kma, .int .i64 kra, .bool kdn, .int .i64 kid, .int .i64 knx, .slice B2 rn d2] 26)) := hb3.alloc hs3 _
    have bx := Blk.new w3 26 #[.int .i64 kmi, .int .i64 kma, .int .i64 kra, .bool kdn, .int .i64 kid, .int .i64 knx, .slice B2 rn d2]
    have hup3 : Below w3.heap.size w3 (w3.alloc (.cells #[.int .i64 kmi, .int .i64 kma, .int .i64 kra, .bool kdn, .int .i64 kid, .int .i64 knx, .slice B2 rn d2] 26)) := (Below.refl _ _).alloc (Nat.le_refl _) _
    have H3 := Lib.hid (And.intro (H2.out.1.trans (hx3.mono H2.out.1.size)) (And.intro (H2.out.2.1.below hx3 (by omega)) (And.intro (H2.out.2.2.1.below hx3 (by omega)) (And.intro bx (And.intro (H2.out.2.2.2.1.up hx3) (And.intro (hE2.up hup3) (And.intro (H2.out.2.2.2.2.1.up hx3) (And.intro (hP2.up hup3) (And.intro (by rw [H2.out.2.2.2.2.2.1, hm2] : es1.map Ev.em = es2.map Ev.em) (by rw [H2.out.2.2.2.2.2.2, hpm2] : pl1.map Pl.p = pl2.map Pl.p))))))))))
    have hz3 : w3.heap.size + 1 ≤ (w3.alloc (.cells #[.int .i64 kmi, .int .i64 kma, .int .i64 kra, .bool kdn, .int .i64 kid, .int .i64 knx, .slice B2 rn d2] 26)).heap.size := by simp
    clear hb3 hx3 bx hf3 hp3 hE2 hP2 hm2 hpm2 hup3 he2 hp2' c0 c1 c2 c3 c4 c5 c6
    go_upto_region 5 with fail
    generalize (w3.alloc (.cells #[.int .i64 kmi, .int .i64 kma, .int .i64 kra, .bool kdn, .int .i64 kid, .int .i64 knx, .slice B2 rn d2] 26)) = V3 at *
    have x0 : V3.cell? ⟨w2.heap.size, 0, none⟩ = some (.int .i64 kmi) := H3.out.2.2.1.cell 0
    have x1 : V3.cell? ⟨w2.heap.size, 1, none⟩ = some (.int .i64 kma) := H3.out.2.2.1.cell 1
    have x2 : V3.cell? ⟨w2.heap.size, 2, none⟩ = some (.int .i64 kra) := H3.out.2.2.1.cell 2
    have x3 : V3.cell? ⟨w2.heap.size, 3, none⟩ = some (.bool kdn) := H3.out.2.2.1.cell 3
    have x4 : V3.cell? ⟨w2.heap.size, 4, none⟩ = some (.int .i64 kid) := H3.out.2.2.1.cell 4
    have x5 : V3.cell? ⟨w2.heap.size, 5, none⟩ = some (.int .i64 knx) := H3.out.2.2.1.cell 5
    have x6 : V3.cell? ⟨w2.heap.size, 6, none⟩ = some (.slice B1 rn d1) := H3.out.2.2.1.cell 6
    have y0 : V3.cell? ⟨w3.heap.size, 0, none⟩ = some (.int .i64 kmi) := H3.out.2.2.2.1.cell 0
    have y1 : V3.cell? ⟨w3.heap.size, 1, none⟩ = some (.int .i64 kma) := H3.out.2.2.2.1.cell 1
    have y2 : V3.cell? ⟨w3.heap.size, 2, none⟩ = some (.int .i64 kra) := H3.out.2.2.2.1.cell 2
    have y3 : V3.cell? ⟨w3.heap.size, 3, none⟩ = some (.bool kdn) := H3.out.2.2.2.1.cell 3
    have y4 : V3.cell? ⟨w3.heap.size, 4, none⟩ = some (.int .i64 kid) := H3.out.2.2.2.1.cell 4
    have y5 : V3.cell? ⟨w3.heap.size, 5, none⟩ = some (.int .i64 knx) := H3.out.2.2.2.1.cell 5
    have y6 : V3.cell? ⟨w3.heap.size, 6, none⟩ = some (.slice B2 rn d2) := H3.out.2.2.2.1.cell 6
    go_wp2_with fail
    refine (Same_true kmi kma kra kdn kid knx B1 B2 rn d1 d2 es1 es2 V3 H3.out.2.2.2.2.1 H3.out.2.2.2.2.2.1 (by omega) H3.out.2.2.2.2.2.2.2.2.1).mono ?_
    rintro e w4 ⟨rfl, hb4⟩
    have hs4 := hb4.size
    have H4 := Lib.hid (And.intro (H3.out.1.trans (hb4.mono H3.out.1.size)) (And.intro (H3.out.2.1.below hb4 (by omega)) (And.intro (H3.out.2.2.2.2.2.2.1.up hb4) (H3.out.2.2.2.2.2.2.2.1.up hb4))))
    clear hb4 x0 x1 x2 x3 x4 x5 x6 y0 y1 y2 y3 y4 y5 y6
    go_wp2_with fail
    refine (SamePayloads_true Q1 Q2 pn q1 q2 pl1 pl2 w4 H4.out.2.2.1 H4.out.2.2.2 (by omega) H3.out.2.2.2.2.2.2.2.2.2).mono ?_
    rintro e w5 ⟨rfl, hb5⟩
    have hs5 := hb5.size
    have H5 := Lib.hid (And.intro (H4.out.1.trans (hb5.mono H4.out.1.size)) (H4.out.2.1.below hb5 (by omega)))
    clear hb5
    have c0 : w5.cell? ⟨w.heap.size, 0, none⟩ = some (.int .i64 mi) := H5.out.2.cell 0
    have c1 : w5.cell? ⟨w.heap.size, 1, none⟩ = some (.int .i64 ma) := H5.out.2.cell 1
    have c2 : w5.cell? ⟨w.heap.size, 2, none⟩ = some (.int .i64 ra) := H5.out.2.cell 2
    have c3 : w5.cell? ⟨w.heap.size, 3, none⟩ = some (.bool dn) := H5.out.2.cell 3
    have c4 : w5.cell? ⟨w.heap.size, 4, none⟩ = some (.int .i64 id) := H5.out.2.cell 4
    have c5 : w5.cell? ⟨w.heap.size, 5, none⟩ = some (.int .i64 nx) := H5.out.2.cell 5
    have c6 : w5.cell? ⟨w.heap.size, 6, none⟩ = some (.slice A m c) := H5.out.2.cell 6
    obtain ⟨nt, ns, hN⟩ : ∃ nt ns, nextM ⟨mi, ma, ra, dn, id, nx, l.map Ev.em⟩ = (nt, ns) := ⟨_, _, rfl⟩
    go_wp2_with fail
    refine (Next_any mi ma ra dn id nx A m c l w5 (HX.out.1.up H5.out.1) (by omega) hmc).mono ?_
    rintro e w6 ⟨rfl, hb6⟩
    rw [hN]
    try dsimp only
    have hs6 := hb6.size
    have H6 := Lib.hid (And.intro (H5.out.1.trans (hb6.mono H5.out.1.size)) (H5.out.2.below hb6 (by omega)))
    clear hb6 c0 c1 c2 c3 c4 c5 c6
    have c0 : w6.cell? ⟨w.heap.size, 0, none⟩ = some (.int .i64 mi) := H6.out.2.cell 0
    have c1 : w6.cell? ⟨w.heap.size, 1, none⟩ = some (.int .i64 ma) := H6.out.2.cell 1
    have c2 : w6.cell? ⟨w.heap.size, 2, none⟩ = some (.int .i64 ra) := H6.out.2.cell 2
    have c3 : w6.cell? ⟨w.heap.size, 3, none⟩ = some (.bool dn) := H6.out.2.cell 3
    have c4 : w6.cell? ⟨w.heap.size, 4, none⟩ = some (.int .i64 id) := H6.out.2.cell 4
    have c5 : w6.cell? ⟨w.heap.size, 5, none⟩ = some (.int .i64 nx) := H6.out.2.cell 5
    have c6 : w6.cell? ⟨w.heap.size, 6, none⟩ = some (.slice A m c) := H6.out.2.cell 6
    go_wp2_with fail
    refine (refNext_any mi ma ra dn id nx A m c l w6 (HX.out.1.up H6.out.1) (by omega) hmc).mono ?_
    rintro e X ⟨rfl, hb7⟩
    rw [hN]
    try dsimp only
    have hs7 := hb7.size
    have H7 := Lib.hid (And.intro (H6.out.1.trans (hb7.mono H6.out.1.size)) (H6.out.2.below hb7 (by omega)))
    clear hb7 hN c0 c1 c2 c3 c4 c5 c6
    have c0 : X.cell? ⟨w.heap.size, 0, none⟩ = some (.int .i64 mi) := H7.out.2.cell 0
    have c1 : X.cell? ⟨w.heap.size, 1, none⟩ = some (.int .i64 ma) := H7.out.2.cell 1
    have c2 : X.cell? ⟨w.heap.size, 2, none⟩ = some (.int .i64 ra) := H7.out.2.cell 2
    have c3 : X.cell? ⟨w.heap.size, 3, none⟩ = some (.bool dn) := H7.out.2.cell 3
    have c4 : X.cell? ⟨w.heap.size, 4, none⟩ = some (.int .i64 id) := H7.out.2.cell 4
    have c5 : X.cell? ⟨w.heap.size, 5, none⟩ = some (.int .i64 nx) := H7.out.2.cell 5
    have c6 : X.cell? ⟨w.heap.size, 6, none⟩ = some (.slice A m c) := H7.out.2.cell 6
    go_upto_region 9 with fail
    have hl : w.heap.size < X.heap.size := by omega
    have HEV := Lib.hid (HX.out.1.up H7.out.1)
    obtain ⟨C1, hC1⟩ : ∃ C1, cutM ⟨mi, ma, ra, dn, id, nx, l.map Ev.em⟩ = C1 := ⟨_, rfl⟩
    obtain ⟨C2, hC2⟩ : ∃ C2, restM ⟨mi, ma, ra, dn, id, nx, l.map Ev.em⟩ now = C2 := ⟨_, rfl⟩
    have hl1 : C1.fl.length ≤ 10000 := by rw [← hC1]; have := cut_len ⟨mi, ma, ra, dn, id, nx, l.map Ev.em⟩; dsimp only at this; rw [List.length_map, HX.out.2.1] at this; omega
    have hl2 : C2.fl.length ≤ 10000 := by rw [← hC2]; have := rest_len ⟨mi, ma, ra, dn, id, nx, l.map Ev.em⟩ now; dsimp only at this; rw [List.length_map, HX.out.2.1] at this; omega
    have K29 : Hid (∀ W, Below X.heap.size X W → Calls Try.prog 29 #[.agg #[.int .i64 mi, .int .i64 ma, .int .i64 ra, .bool dn, .int .i64 id, .int .i64 nx, .slice A m c]] W (LinkW W C1)) := fun W hW => by rw [← hC1]; exact Cut_any mi ma ra dn id nx A m c l W (HEV.out.up hW) (by omega) hmc HX.out.2.2 HLP.out
    have K30 : Hid (∀ W, Below X.heap.size X W → Calls Try.prog 30 #[.agg #[.int .i64 mi, .int .i64 ma, .int .i64 ra, .bool dn, .int .i64 id, .int .i64 nx, .slice A m c]] W (LinkW W C1)) := fun W hW => by rw [← hC1]; exact refCut_any mi ma ra dn id nx A m c l W (HEV.out.up hW) (by omega) hmc HX.out.2.2 HLP.out
    have K31 : Hid (∀ W, Below X.heap.size X W → Calls Try.prog 31 #[.agg #[.int .i64 mi, .int .i64 ma, .int .i64 ra, .bool dn, .int .i64 id, .int .i64 nx, .slice A m c], .int .i64 now] W (LinkW W C2)) := fun W hW => by rw [← hC2]; exact Restore_any mi ma ra dn id nx A m c l now W (HEV.out.up hW) (by omega) hmc HX.out.2.2 HLP.out
    have K32 : Hid (∀ W, Below X.heap.size X W → Calls Try.prog 32 #[.agg #[.int .i64 mi, .int .i64 ma, .int .i64 ra, .bool dn, .int .i64 id, .int .i64 nx, .slice A m c], .int .i64 now] W (LinkW W C2)) := fun W hW => by rw [← hC2]; exact refRestore_any mi ma ra dn id nx A m c l now W (HEV.out.up hW) (by omega) hmc HX.out.2.2 HLP.out
    clear hC1 hC2
    refine wp_pan (Pc := fun _ _ _ => False) (fun _ _ _ h => h.elim) ?_
    refine wp_region_tail_lit (S := fun V => V.cell? ⟨w.heap.size, 0, none⟩ = some (.int .i64 mi) ∧ V.cell? ⟨w.heap.size, 1, none⟩ = some (.int .i64 ma) ∧ V.cell? ⟨w.heap.size, 2, none⟩ = some (.int .i64 ra) ∧ V.cell? ⟨w.heap.size, 3, none⟩ = some (.bool dn) ∧ V.cell? ⟨w.heap.size, 4, none⟩ = some (.int .i64 id) ∧ V.cell? ⟨w.heap.size, 5, none⟩ = some (.int .i64 nx) ∧ V.cell? ⟨w.heap.size, 6, none⟩ = some (.slice A m c)) 27 (by kernel_rfl) (by kernel_rfl) ⟨c0, c1, c2, c3, c4, c5, c6⟩ (fun hHeld => ?_)
    simp only [List.take, List.drop]
    have hX0 : Below X.heap.size X X.drew := (Below.refl _ X).drew
    refine wpAnyH_ready (rs := [0]) (by kernel_rfl) (by simp) ?_
    refine AllReadyH.cons (o := _) rfl (fun K hK => ?_) AllReadyH.nil
    try simp only [List.getElem_toArray, List.getElem_cons_succ, List.getElem_cons_zero]
    try rw [if_pos (show Region.wanted _ _ = true from rfl)]
    go_simp
    refine (awake_any _).mono ?_
    rintro e wz ⟨rfl, hbz⟩
    have hwz : Below X.heap.size X wz := hX0.trans hbz
    clear hbz
    go_wp2_with fail
    refine hK.out _ _ ⟨(hwz.cell (p := ⟨w.heap.size, 0, none⟩) hl).trans c0, (hwz.cell (p := ⟨w.heap.size, 1, none⟩) hl).trans c1, (hwz.cell (p := ⟨w.heap.size, 2, none⟩) hl).trans c2, (hwz.cell (p := ⟨w.heap.size, 3, none⟩) hl).trans c3, (hwz.cell (p := ⟨w.heap.size, 4, none⟩) hl).trans c4, (hwz.cell (p := ⟨w.heap.size, 5, none⟩) hl).trans c5, (hwz.cell (p := ⟨w.heap.size, 6, none⟩) hl).trans c6⟩ (fun hHeld => ?_)
    clear hK K
    try simp only [List.getElem_toArray, List.getElem_cons_succ, List.getElem_cons_zero, Act.put, List.setIfInBounds_toArray, List.set_cons_zero, List.set_cons_succ]
    refine wpAnyH_take (i := 1) (oi := _) (v := ?_) rfl (by kernel_rfl) (by kernel_rfl) (by kernel_rfl) (fun _ _ _ h => h) (Or.inl ⟨by rfl, ?_⟩) (by assumption) ?_
    rotate_left 1
    · (intro w9 hS9; (try dsimp only at hS9); go_simp <;> with_reducible rfl)
    try simp only [List.getElem_toArray, List.getElem_cons_succ, List.getElem_cons_zero, Act.put, List.setIfInBounds_toArray, List.set_cons_zero, List.set_cons_succ]
    refine wpAnyH_take (i := 2) (oi := _) (v := ?_) rfl (by kernel_rfl) (by kernel_rfl) (by kernel_rfl) (fun _ _ _ h => h) (Or.inl ⟨by rfl, ?_⟩) (by assumption) ?_
    rotate_left 1
    · (intro w9 hS9; (try dsimp only at hS9); go_simp <;> with_reducible rfl)
    try simp only [List.getElem_toArray, List.getElem_cons_succ, List.getElem_cons_zero, Act.put, List.setIfInBounds_toArray, List.set_cons_zero, List.set_cons_succ]
    refine wpAnyH_take (i := 3) (oi := _) (v := ?_) rfl (by kernel_rfl) (by kernel_rfl) (by kernel_rfl) (fun _ _ _ h => h) (Or.inl ⟨by rfl, ?_⟩) (by assumption) ?_
    rotate_left 1
    · (intro w9 hS9; (try dsimp only at hS9); go_simp <;> with_reducible rfl)
    try simp only [List.getElem_toArray, List.getElem_cons_succ, List.getElem_cons_zero, Act.put, List.setIfInBounds_toArray, List.set_cons_zero, List.set_cons_succ]
    refine wpAnyH_take (i := 4) (oi := _) (v := ?_) rfl (by kernel_rfl) (by kernel_rfl) (by kernel_rfl) (fun _ _ _ h => h) (Or.inl ⟨by rfl, ?_⟩) (by assumption) ?_
    rotate_left 1
    · (intro w9 hS9; (try dsimp only at hS9); go_simp <;> with_reducible rfl)
    try simp only [List.getElem_toArray, List.getElem_cons_succ, List.getElem_cons_zero, Act.put, List.setIfInBounds_toArray, List.set_cons_zero, List.set_cons_succ]
    refine wpAnyH_take (i := 5) (oi := _) (v := ?_) rfl (by kernel_rfl) (by kernel_rfl) (by kernel_rfl) (fun _ _ _ h => h) (Or.inl ⟨by rfl, ?_⟩) (by assumption) ?_
    rotate_left 1
    · (intro w9 hS9; (try dsimp only at hS9); go_simp <;> with_reducible rfl)
    try simp only [List.getElem_toArray, List.getElem_cons_succ, List.getElem_cons_zero, Act.put, List.setIfInBounds_toArray, List.set_cons_zero, List.set_cons_succ]
    refine wpAnyH_take (i := 6) (oi := _) (v := ?_) rfl (by kernel_rfl) (by kernel_rfl) (by kernel_rfl) (fun _ _ _ h => h) (Or.inl ⟨by rfl, ?_⟩) (by assumption) ?_
    rotate_left 1
    · (intro w9 hS9; (try dsimp only at hS9); go_simp <;> with_reducible rfl)
    try simp only [List.getElem_toArray, List.getElem_cons_succ, List.getElem_cons_zero, Act.put, List.setIfInBounds_toArray, List.set_cons_zero, List.set_cons_succ]
    refine wpAnyH_take (i := 7) (oi := _) (v := ?_) rfl (by kernel_rfl) (by kernel_rfl) (by kernel_rfl) (fun _ _ _ h => h) (Or.inl ⟨by rfl, ?_⟩) (by assumption) ?_
    rotate_left 1
    · (intro w9 hS9; (try dsimp only at hS9); go_simp <;> with_reducible rfl)
    try simp only [List.getElem_toArray, List.getElem_cons_succ, List.getElem_cons_zero, Act.put, List.setIfInBounds_toArray, List.set_cons_zero, List.set_cons_succ]
    refine wpAnyH_take (i := 8) (oi := _) (v := ?_) rfl (by kernel_rfl) (by kernel_rfl) (by kernel_rfl) (fun _ _ _ h => h) (Or.inl ⟨by rfl, ?_⟩) (by assumption) ?_
    rotate_left 1
    · (intro w9 hS9; (try dsimp only at hS9); go_simp <;> with_reducible rfl)
    try simp only [List.getElem_toArray, List.getElem_cons_succ, List.getElem_cons_zero, Act.put, List.setIfInBounds_toArray, List.set_cons_zero, List.set_cons_succ]
    refine wpAnyH_take (i := 9) (oi := _) (v := ?_) rfl (by kernel_rfl) (by kernel_rfl) (by kernel_rfl) (fun _ _ _ h => h) (Or.inl ⟨by rfl, ?_⟩) (by assumption) ?_
    rotate_left 1
    · (intro w9 hS9; (try dsimp only at hS9); go_simp <;> with_reducible rfl)
    try simp only [List.getElem_toArray, List.getElem_cons_succ, List.getElem_cons_zero, Act.put, List.setIfInBounds_toArray, List.set_cons_zero, List.set_cons_succ]
    refine wpAnyH_take (i := 10) (oi := _) (v := ?_) rfl (by kernel_rfl) (by kernel_rfl) (by kernel_rfl) (fun _ _ _ h => h) (Or.inl ⟨by rfl, ?_⟩) (by assumption) ?_
    rotate_left 1
    · (intro w9 hS9; (try dsimp only at hS9); go_simp <;> with_reducible rfl)
    try simp only [List.getElem_toArray, List.getElem_cons_succ, List.getElem_cons_zero, Act.put, List.setIfInBounds_toArray, List.set_cons_zero, List.set_cons_succ]
    refine wpAnyH_take (i := 11) (oi := _) (v := ?_) rfl (by kernel_rfl) (by kernel_rfl) (by kernel_rfl) (fun _ _ _ h => h) (Or.inl ⟨by rfl, ?_⟩) (by assumption) ?_
    rotate_left 1
    · (intro w9 hS9; (try dsimp only at hS9); go_simp <;> with_reducible rfl)
    try simp only [List.getElem_toArray, List.getElem_cons_succ, List.getElem_cons_zero, Act.put, List.setIfInBounds_toArray, List.set_cons_zero, List.set_cons_succ]
    refine wpAnyH_take (i := 12) (oi := _) (v := ?_) rfl (by kernel_rfl) (by kernel_rfl) (by kernel_rfl) (fun _ _ _ h => h) (Or.inl ⟨by rfl, ?_⟩) (by assumption) ?_
    rotate_left 1
    · (intro w9 hS9; (try dsimp only at hS9); go_simp <;> with_reducible rfl)
    try simp only [List.getElem_toArray, List.getElem_cons_succ, List.getElem_cons_zero, Act.put, List.setIfInBounds_toArray, List.set_cons_zero, List.set_cons_succ]
    refine wpAnyH_take (i := 14) (oi := _) (v := ?_) rfl (by kernel_rfl) (by kernel_rfl) (by kernel_rfl) (fun _ _ _ h => h) (Or.inl ⟨by rfl, ?_⟩) (by assumption) ?_
    rotate_left 1
    · (intro w9 hS9; (try dsimp only at hS9); go_simp <;> with_reducible rfl)
    try simp only [List.getElem_toArray, List.getElem_cons_succ, List.getElem_cons_zero, Act.put, List.setIfInBounds_toArray, List.set_cons_zero, List.set_cons_succ]
    refine wpAnyH_ready (rs := [13]) (by kernel_rfl) (by simp) ?_
    refine AllReadyH.cons (o := _) rfl (fun K hK => ?_) AllReadyH.nil
    try simp only [List.getElem_toArray, List.getElem_cons_succ, List.getElem_cons_zero]
    try rw [if_pos (show Region.wanted _ _ = true from rfl)]
    go_simp
    refine (K29.out wz hwz).mono ?_
    rintro e wa ⟨hb_wa, v1, rfl, hf_v1⟩
    have hwa : Below X.heap.size X wa := hwz.trans (hb_wa.mono hwz.size)
    clear hb_wa
    go_wp2_with fail
    refine hK.out _ _ ⟨(hwa.cell (p := ⟨w.heap.size, 0, none⟩) hl).trans c0, (hwa.cell (p := ⟨w.heap.size, 1, none⟩) hl).trans c1, (hwa.cell (p := ⟨w.heap.size, 2, none⟩) hl).trans c2, (hwa.cell (p := ⟨w.heap.size, 3, none⟩) hl).trans c3, (hwa.cell (p := ⟨w.heap.size, 4, none⟩) hl).trans c4, (hwa.cell (p := ⟨w.heap.size, 5, none⟩) hl).trans c5, (hwa.cell (p := ⟨w.heap.size, 6, none⟩) hl).trans c6⟩ (fun hHeld => ?_)
    clear hK K
    try simp only [List.getElem_toArray, List.getElem_cons_succ, List.getElem_cons_zero, Act.put, List.setIfInBounds_toArray, List.set_cons_zero, List.set_cons_succ]
    refine wpAnyH_ready (rs := [15]) (by kernel_rfl) (by simp) ?_
    refine AllReadyH.cons (o := _) rfl (fun K hK => ?_) AllReadyH.nil
    try simp only [List.getElem_toArray, List.getElem_cons_succ, List.getElem_cons_zero]
    try rw [if_pos (show Region.wanted _ _ = true from rfl)]
    go_simp
    refine (K30.out wa hwa).mono ?_
    rintro e wb ⟨hb_wb, u1, rfl, hf_u1⟩
    have hwb : Below X.heap.size X wb := hwa.trans (hb_wb.mono hwa.size)
    have hf_v1 := hf_v1.up hb_wb
    clear hb_wb
    go_wp2_with fail
    refine hK.out _ _ ⟨(hwb.cell (p := ⟨w.heap.size, 0, none⟩) hl).trans c0, (hwb.cell (p := ⟨w.heap.size, 1, none⟩) hl).trans c1, (hwb.cell (p := ⟨w.heap.size, 2, none⟩) hl).trans c2, (hwb.cell (p := ⟨w.heap.size, 3, none⟩) hl).trans c3, (hwb.cell (p := ⟨w.heap.size, 4, none⟩) hl).trans c4, (hwb.cell (p := ⟨w.heap.size, 5, none⟩) hl).trans c5, (hwb.cell (p := ⟨w.heap.size, 6, none⟩) hl).trans c6⟩ (fun hHeld => ?_)
    clear hK K
    try simp only [List.getElem_toArray, List.getElem_cons_succ, List.getElem_cons_zero, Act.put, List.setIfInBounds_toArray, List.set_cons_zero, List.set_cons_succ]
    refine wpAnyH_ready (rs := [16]) (by kernel_rfl) (by simp) ?_
    refine AllReadyH.cons (o := _) rfl (fun K hK => ?_) AllReadyH.nil
    try simp only [List.getElem_toArray, List.getElem_cons_succ, List.getElem_cons_zero]
    try rw [if_pos (show Region.wanted _ _ = true from rfl)]
    go_simp
    refine (same_lv _ hl1 v1 u1 wb hf_v1 hf_u1).mono ?_
    rintro e wc ⟨rfl, hb_wc⟩
    have hwc : Below X.heap.size X wc := hwb.trans (hb_wc.mono hwb.size)
    clear hb_wc hf_v1 hf_u1
    go_wp2_with fail
    refine hK.out _ _ ⟨(hwc.cell (p := ⟨w.heap.size, 0, none⟩) hl).trans c0, (hwc.cell (p := ⟨w.heap.size, 1, none⟩) hl).trans c1, (hwc.cell (p := ⟨w.heap.size, 2, none⟩) hl).trans c2, (hwc.cell (p := ⟨w.heap.size, 3, none⟩) hl).trans c3, (hwc.cell (p := ⟨w.heap.size, 4, none⟩) hl).trans c4, (hwc.cell (p := ⟨w.heap.size, 5, none⟩) hl).trans c5, (hwc.cell (p := ⟨w.heap.size, 6, none⟩) hl).trans c6⟩ (fun hHeld => ?_)
    clear hK K
    try simp only [List.getElem_toArray, List.getElem_cons_succ, List.getElem_cons_zero, Act.put, List.setIfInBounds_toArray, List.set_cons_zero, List.set_cons_succ]
    refine wpAnyH_take (i := 17) (oi := _) (v := ?_) rfl (by kernel_rfl) (by kernel_rfl) (by kernel_rfl) (fun _ _ _ h => h) (Or.inl ⟨by rfl, ?_⟩) (by assumption) ?_
    rotate_left 1
    · (intro w9 hS9; (try dsimp only at hS9); go_simp <;> with_reducible rfl)
    try simp only [List.getElem_toArray, List.getElem_cons_succ, List.getElem_cons_zero, Act.put, List.setIfInBounds_toArray, List.set_cons_zero, List.set_cons_succ]
    refine wpAnyH_take (i := 18) (oi := _) (v := ?_) rfl (by kernel_rfl) (by kernel_rfl) (by kernel_rfl) (fun _ _ _ h => h) (Or.inl ⟨by rfl, ?_⟩) (by assumption) ?_
    rotate_left 1
    · (intro w9 hS9; (try dsimp only at hS9); go_simp <;> with_reducible rfl)
    try simp only [List.getElem_toArray, List.getElem_cons_succ, List.getElem_cons_zero, Act.put, List.setIfInBounds_toArray, List.set_cons_zero, List.set_cons_succ]
    refine wpAnyH_take (i := 19) (oi := _) (v := ?_) rfl (by kernel_rfl) (by kernel_rfl) (by kernel_rfl) (fun _ _ _ h => h) (Or.inl ⟨by rfl, ?_⟩) (by assumption) ?_
    rotate_left 1
    · (intro w9 hS9; (try dsimp only at hS9); go_simp <;> with_reducible rfl)
    try simp only [List.getElem_toArray, List.getElem_cons_succ, List.getElem_cons_zero, Act.put, List.setIfInBounds_toArray, List.set_cons_zero, List.set_cons_succ]
    refine wpAnyH_take (i := 20) (oi := _) (v := ?_) rfl (by kernel_rfl) (by kernel_rfl) (by kernel_rfl) (fun _ _ _ h => h) (Or.inl ⟨by rfl, ?_⟩) (by assumption) ?_
    rotate_left 1
    · (intro w9 hS9; (try dsimp only at hS9); go_simp <;> with_reducible rfl)
    try simp only [List.getElem_toArray, List.getElem_cons_succ, List.getElem_cons_zero, Act.put, List.setIfInBounds_toArray, List.set_cons_zero, List.set_cons_succ]
    refine wpAnyH_take (i := 22) (oi := _) (v := ?_) rfl (by kernel_rfl) (by kernel_rfl) (by kernel_rfl) (fun _ _ _ h => h) (Or.inl ⟨by rfl, ?_⟩) (by assumption) ?_
    rotate_left 1
    · (intro w9 hS9; (try dsimp only at hS9); go_simp <;> with_reducible rfl)
    try simp only [List.getElem_toArray, List.getElem_cons_succ, List.getElem_cons_zero, Act.put, List.setIfInBounds_toArray, List.set_cons_zero, List.set_cons_succ]
    refine wpAnyH_take (i := 23) (oi := _) (v := ?_) rfl (by kernel_rfl) (by kernel_rfl) (by kernel_rfl) (fun _ _ _ h => h) (Or.inl ⟨by rfl, ?_⟩) (by assumption) ?_
    rotate_left 1
    · (intro w9 hS9; (try dsimp only at hS9); go_simp <;> with_reducible rfl)
    try simp only [List.getElem_toArray, List.getElem_cons_succ, List.getElem_cons_zero, Act.put, List.setIfInBounds_toArray, List.set_cons_zero, List.set_cons_succ]
    refine wpAnyH_ready (rs := [21]) (by kernel_rfl) (by simp) ?_
    refine AllReadyH.cons (o := _) rfl (fun K hK => ?_) AllReadyH.nil
    try simp only [List.getElem_toArray, List.getElem_cons_succ, List.getElem_cons_zero]
    try rw [if_pos (show Region.wanted _ _ = true from rfl)]
    go_simp
    refine (K31.out wc hwc).mono ?_
    rintro e wd ⟨hb_wd, v2, rfl, hf_v2⟩
    have hwd : Below X.heap.size X wd := hwc.trans (hb_wd.mono hwc.size)
    clear hb_wd
    go_wp2_with fail
    refine hK.out _ _ ⟨(hwd.cell (p := ⟨w.heap.size, 0, none⟩) hl).trans c0, (hwd.cell (p := ⟨w.heap.size, 1, none⟩) hl).trans c1, (hwd.cell (p := ⟨w.heap.size, 2, none⟩) hl).trans c2, (hwd.cell (p := ⟨w.heap.size, 3, none⟩) hl).trans c3, (hwd.cell (p := ⟨w.heap.size, 4, none⟩) hl).trans c4, (hwd.cell (p := ⟨w.heap.size, 5, none⟩) hl).trans c5, (hwd.cell (p := ⟨w.heap.size, 6, none⟩) hl).trans c6⟩ (fun hHeld => ?_)
    clear hK K
    try simp only [List.getElem_toArray, List.getElem_cons_succ, List.getElem_cons_zero, Act.put, List.setIfInBounds_toArray, List.set_cons_zero, List.set_cons_succ]
    refine wpAnyH_ready (rs := [24]) (by kernel_rfl) (by simp) ?_
    refine AllReadyH.cons (o := _) rfl (fun K hK => ?_) AllReadyH.nil
    try simp only [List.getElem_toArray, List.getElem_cons_succ, List.getElem_cons_zero]
    try rw [if_pos (show Region.wanted _ _ = true from rfl)]
    go_simp
    refine (K32.out wd hwd).mono ?_
    rintro e we ⟨hb_we, u2, rfl, hf_u2⟩
    have hwe : Below X.heap.size X we := hwd.trans (hb_we.mono hwd.size)
    have hf_v2 := hf_v2.up hb_we
    clear hb_we
    go_wp2_with fail
    refine hK.out _ _ ⟨(hwe.cell (p := ⟨w.heap.size, 0, none⟩) hl).trans c0, (hwe.cell (p := ⟨w.heap.size, 1, none⟩) hl).trans c1, (hwe.cell (p := ⟨w.heap.size, 2, none⟩) hl).trans c2, (hwe.cell (p := ⟨w.heap.size, 3, none⟩) hl).trans c3, (hwe.cell (p := ⟨w.heap.size, 4, none⟩) hl).trans c4, (hwe.cell (p := ⟨w.heap.size, 5, none⟩) hl).trans c5, (hwe.cell (p := ⟨w.heap.size, 6, none⟩) hl).trans c6⟩ (fun hHeld => ?_)
    clear hK K
    try simp only [List.getElem_toArray, List.getElem_cons_succ, List.getElem_cons_zero, Act.put, List.setIfInBounds_toArray, List.set_cons_zero, List.set_cons_succ]
    refine wpAnyH_ready (rs := [25]) (by kernel_rfl) (by simp) ?_
    refine AllReadyH.cons (o := _) rfl (fun K hK => ?_) AllReadyH.nil
    try simp only [List.getElem_toArray, List.getElem_cons_succ, List.getElem_cons_zero]
    try rw [if_pos (show Region.wanted _ _ = true from rfl)]
    go_simp
    refine (same_lv _ hl2 v2 u2 we hf_v2 hf_u2).mono ?_
    rintro e wf ⟨rfl, hb_wf⟩
    have hwf : Below X.heap.size X wf := hwe.trans (hb_wf.mono hwe.size)
    clear hb_wf hf_v2 hf_u2
    go_wp2_with fail
    refine hK.out _ _ ⟨(hwf.cell (p := ⟨w.heap.size, 0, none⟩) hl).trans c0, (hwf.cell (p := ⟨w.heap.size, 1, none⟩) hl).trans c1, (hwf.cell (p := ⟨w.heap.size, 2, none⟩) hl).trans c2, (hwf.cell (p := ⟨w.heap.size, 3, none⟩) hl).trans c3, (hwf.cell (p := ⟨w.heap.size, 4, none⟩) hl).trans c4, (hwf.cell (p := ⟨w.heap.size, 5, none⟩) hl).trans c5, (hwf.cell (p := ⟨w.heap.size, 6, none⟩) hl).trans c6⟩ (fun hHeld => ?_)
    clear hK K
    try simp only [List.getElem_toArray, List.getElem_cons_succ, List.getElem_cons_zero, Act.put, List.setIfInBounds_toArray, List.set_cons_zero, List.set_cons_succ]
    refine wpAnyH_take (i := 26) (oi := _) (v := ?_) rfl (by kernel_rfl) (by kernel_rfl) (by kernel_rfl) (fun _ _ _ h => h) (Or.inl ⟨by rfl, ?_⟩) (by assumption) ?_
    rotate_left 1
    · (intro w9 hS9; (try dsimp only at hS9); go_simp <;> with_reducible rfl)
    try simp only [List.getElem_toArray, List.getElem_cons_succ, List.getElem_cons_zero, Act.put, List.setIfInBounds_toArray, List.set_cons_zero, List.set_cons_succ]
    refine wpAnyH_done (by kernel_rfl) ?_ _
    refine tailQ_step rfl ?_
    go_wp2_with fail
    refine tailQ_nil (panQ_normal ?_)
    go_wp2_with fail
    go_ret
    exact ⟨by simp, H7.out.1.trans (hwf.mono H7.out.1.size)⟩
end Go.Proofs.Ytjaoppopfeonhaa
