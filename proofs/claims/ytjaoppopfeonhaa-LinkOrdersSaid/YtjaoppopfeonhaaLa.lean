/- The walk of the law LinkSends. No condition. -/
import Derived.Test.YtjaoppopfeonhaaWr
import Derived.Test.YtjaoppopfeonhaaWn
import Derived.Test.YtjaoppopfeonhaaArgs
namespace Go.Proofs.Ytjaoppopfeonhaa
open Go.RowKit
theorem few_facts {l : List Ev} {m : Nat} (hl : l.length = m) (h : fewB (l.map Ev.em) = true) : m ≤ 40 ∧ ∀ e ∈ l, e.p.length ≤ 100 := by
  obtain ⟨h1, h2⟩ := fewB_true h
  rw [List.length_map, hl] at h1
  exact ⟨h1, fun e he => h2 e.em (List.mem_map_of_mem he)⟩
theorem sendN_len (k : Nat) : ∀ (l : Lm) (en : Int) (p : List Nat) (r : List Int), (sendN k l en p r).1.fl.length = l.fl.length + k ∧ (sendN k l en p r).2.length ≤ r.length := by
  induction k with
  | zero => intro l en p r; exact ⟨rfl, Nat.le_refl _⟩
  | succ k ih =>
    intro l en p r
    rw [sendN_succ]
    obtain ⟨h1, h2⟩ := ih { l with fl := insE ⟨en + l.mi + decV r (l.ma - l.mi + 1), l.nx, p⟩ l.fl, nx := l.nx + 1 } en p (decR r)
    refine ⟨by rw [h1, insE_len]; omega, ?_⟩
    unfold decR at h2 ⊢
    rw [List.length_drop] at h2
    omega
theorem times_le (h : Int) : timesOf h ≤ 2 := by
  unfold timesOf
  split
  · omega
  · split <;> omega
theorem sendM_len (l : Lm) (now : Int) (p : List Nat) (cs : List Int) : (sendM l now p cs).l.fl.length ≤ l.fl.length + 2 ∧ (sendM l now p cs).r.length ≤ cs.length := by
  unfold sendM
  split
  · exact ⟨Nat.zero_le _, Nat.zero_le _⟩
  split
  · exact ⟨Nat.zero_le _, Nat.zero_le _⟩
  split
  · exact ⟨Nat.zero_le _, Nat.zero_le _⟩
  split
  · exact ⟨by dsimp only; omega, Nat.le_refl _⟩
  split
  · exact ⟨Nat.zero_le _, Nat.zero_le _⟩
  split
  · exact ⟨Nat.zero_le _, Nat.zero_le _⟩
  · obtain ⟨h1, h2⟩ := sendN_len (timesOf (decV cs 3)) { l with idle := endM l now p.length } (endM l now p.length) p (decR cs)
    have := times_le (decV cs 3)
    dsimp only at h1
    refine ⟨by dsimp only; rw [h1]; omega, ?_⟩
    dsimp only
    unfold decR at h2 ⊢
    rw [List.length_drop] at h2
    omega
set_option linter.unusedSimpArgs false in
set_option maxRecDepth 100000 in
set_option maxHeartbeats 4000000 in
theorem walkLinkSends (w : World) (v0 v1 v2 : Value) (h0 : Arg26 w v0) (h1 : Arg39 w v1) (h2 : Arg40 w v2) : Calls Try.prog 4 #[v0, v1, v2] w fun e w' => e = .returned (.bool true) ∧ Below w.heap.size w w' := by
  obtain ⟨mi, ma, ra, dn, id, nx, A, m, c, l, rfl, hR, hmc, hcm⟩ := h0
  obtain ⟨now, Ap, cp, p, rfl, hP, hpc, hpm⟩ := h1
  obtain ⟨Ac, cc, cs, rfl, hC, hcc, hccm⟩ := h2
  unfold lkC
  have hlen := hR.count
  have hb0 : Below w.heap.size w ((w.alloc (.cells #[.int .i64 mi, .int .i64 ma, .int .i64 ra, .bool dn, .int .i64 id, .int .i64 nx, .slice A m c] 26)).alloc (.cells #[.int .i64 now, .slice Ap p.length cp] 39)) := ((Below.refl _ _).alloc (Nat.le_refl _) _).alloc (by simp) _
  have g0 : Blk ((w.alloc (.cells #[.int .i64 mi, .int .i64 ma, .int .i64 ra, .bool dn, .int .i64 id, .int .i64 nx, .slice A m c] 26)).alloc (.cells #[.int .i64 now, .slice Ap p.length cp] 39)) w.heap.size 26 #[.int .i64 mi, .int .i64 ma, .int .i64 ra, .bool dn, .int .i64 id, .int .i64 nx, .slice A m c] := (Blk.new w 26 #[.int .i64 mi, .int .i64 ma, .int .i64 ra, .bool dn, .int .i64 id, .int .i64 nx, .slice A m c]).alloc _
  have g1 := Blk.new (w.alloc (.cells #[.int .i64 mi, .int .i64 ma, .int .i64 ra, .bool dn, .int .i64 id, .int .i64 nx, .slice A m c] 26)) 39 #[.int .i64 now, .slice Ap p.length cp]
  rw [World.size_alloc] at g1
  have hs0 : w.heap.size + 2 ≤ ((w.alloc (.cells #[.int .i64 mi, .int .i64 ma, .int .i64 ra, .bool dn, .int .i64 id, .int .i64 nx, .slice A m c] 26)).alloc (.cells #[.int .i64 now, .slice Ap p.length cp] 39)).heap.size := by simp
  have HX := Lib.hid (And.intro hR (And.intro hlen (And.intro hP hC)))
  clear hR hlen hP hC
  unfold maxLen at hcm hpm
  go_enter Try.func4, Try.ntmps4
  go_upto_region 1 with fail
  generalize ((w.alloc (.cells #[.int .i64 mi, .int .i64 ma, .int .i64 ra, .bool dn, .int .i64 id, .int .i64 nx, .slice A m c] 26)).alloc (.cells #[.int .i64 now, .slice Ap p.length cp] 39)) = V at *
  have c0 : V.cell? ⟨w.heap.size, 0, none⟩ = some (.int .i64 mi) := g0.cell 0
  have c1 : V.cell? ⟨w.heap.size, 1, none⟩ = some (.int .i64 ma) := g0.cell 1
  have c2 : V.cell? ⟨w.heap.size, 2, none⟩ = some (.int .i64 ra) := g0.cell 2
  have c3 : V.cell? ⟨w.heap.size, 3, none⟩ = some (.bool dn) := g0.cell 3
  have c4 : V.cell? ⟨w.heap.size, 4, none⟩ = some (.int .i64 id) := g0.cell 4
  have c5 : V.cell? ⟨w.heap.size, 5, none⟩ = some (.int .i64 nx) := g0.cell 5
  have c6 : V.cell? ⟨w.heap.size, 6, none⟩ = some (.slice A m c) := g0.cell 6
  have s0 : V.cell? ⟨w.heap.size + 1, 0, none⟩ = some (.int .i64 now) := g1.cell 0
  have s1 : V.cell? ⟨w.heap.size + 1, 1, none⟩ = some (.slice Ap p.length cp) := g1.cell 1
  obtain ⟨f, hf⟩ : ∃ f, fewB (l.map Ev.em) = f := ⟨_, rfl⟩
  go_wp2_with fail
  refine (few_any A m c mi ma ra dn id nx l V (HX.out.1.up hb0) (by unfold maxLen; omega)).mono ?_
  rintro e w1 ⟨rfl, hb1⟩
  have G0 := g0.below hb1 (by omega)
  have G1 := g1.below hb1 (by omega)
  have hs1 : w.heap.size + 2 ≤ w1.heap.size := by have := hb1.size; omega
  have HB := Lib.hid (And.intro (hb0.trans (hb1.mono hb0.size)) (And.intro G0 G1))
  clear c0 c1 c2 c3 c4 c5 c6 s0 s1 g0 g1 hb0 hb1 hs0
  have c0 : w1.cell? ⟨w.heap.size, 0, none⟩ = some (.int .i64 mi) := G0.cell 0
  have c1 : w1.cell? ⟨w.heap.size, 1, none⟩ = some (.int .i64 ma) := G0.cell 1
  have c2 : w1.cell? ⟨w.heap.size, 2, none⟩ = some (.int .i64 ra) := G0.cell 2
  have c3 : w1.cell? ⟨w.heap.size, 3, none⟩ = some (.bool dn) := G0.cell 3
  have c4 : w1.cell? ⟨w.heap.size, 4, none⟩ = some (.int .i64 id) := G0.cell 4
  have c5 : w1.cell? ⟨w.heap.size, 5, none⟩ = some (.int .i64 nx) := G0.cell 5
  have c6 : w1.cell? ⟨w.heap.size, 6, none⟩ = some (.slice A m c) := G0.cell 6
  have s0 : w1.cell? ⟨w.heap.size + 1, 0, none⟩ = some (.int .i64 now) := G1.cell 0
  have s1 : w1.cell? ⟨w.heap.size + 1, 1, none⟩ = some (.slice Ap p.length cp) := G1.cell 1
  clear G0 G1
  rw [hf]
  cases f with
  | false =>
    go_wp2_with fail
    refine (awake_any _).mono ?_
    rintro e w9 ⟨rfl, hb9⟩
    go_wp2_with fail
    go_ret
    exact ⟨by simp, HB.out.1.trans (hb9.mono HB.out.1.size)⟩
  | true =>
    obtain ⟨hm40, hlp⟩ := few_facts HX.out.2.1 hf
    have HLP := Lib.hid hlp
    clear hf hlp
    by_cases hp1 : 100 < p.length
    · have hp2 : (100 : Int) < p.length := by omega
      go_wp2_with fail
      refine (awake_any _).mono ?_
      rintro e w9 ⟨rfl, hb9⟩
      go_wp2_with fail
      go_ret
      exact ⟨by simp, HB.out.1.trans (hb9.mono HB.out.1.size)⟩
    have hp2 : ¬ (100 : Int) < p.length := by omega
    by_cases hc1 : 20 < cs.length
    · have hc2 : (20 : Int) < cs.length := by omega
      go_wp2_with fail
      refine (awake_any _).mono ?_
      rintro e w9 ⟨rfl, hb9⟩
      go_wp2_with fail
      go_ret
      exact ⟨by simp, HB.out.1.trans (hb9.mono HB.out.1.size)⟩
    have hc2 : ¬ (20 : Int) < cs.length := by omega
    obtain ⟨R, hR⟩ : ∃ R, sendM ⟨mi, ma, ra, dn, id, nx, l.map Ev.em⟩ now p cs = R := ⟨_, rfl⟩
    have hlR := sendM_len ⟨mi, ma, ra, dn, id, nx, l.map Ev.em⟩ now p cs
    rw [hR] at hlR
    dsimp only at hlR
    rw [List.length_map, HX.out.2.1] at hlR
    go_wp2_with fail
    have hS1 := Send_any mi ma ra dn id nx A m c l now Ap cp p Ac cc cs w1 (HX.out.1.up HB.out.1) (by omega) hmc (HX.out.2.2.1.up HB.out.1) (by omega) (HX.out.2.2.2.up HB.out.1) (by omega) (fun e he => by have := HLP.out e he; omega)
    rw [hR] at hS1
    obtain ⟨rl, rr, re⟩ := R
    obtain ⟨rmi, rma, rra, rdn, rid, rnx, rfl_⟩ := rl
    dsimp only at hlR
    refine hS1.mono ?_
    clear hS1
    rintro e w2 ⟨hb2, v2, es2, C2, cc2, rfl, hE2, hm2, hN2, hr2, hcc2, hcm2⟩
    obtain ⟨B1, d1, rfl⟩ := hE2.form
    obtain ⟨rn, hrn⟩ : ∃ rn, es2.length = rn := ⟨_, rfl⟩
    obtain ⟨qn, hqn⟩ : ∃ qn, rr.length = qn := ⟨_, rfl⟩
    have hrnl : rn = rfl_.length := by rw [← hrn]; have := congrArg List.length hm2; simpa using this
    have hrnb : rn ≤ 42 := by omega
    rw [hrn] at hE2 ⊢
    unfold lkV
    dsimp only
    have HE2 := Lib.hid (And.intro (FlV.of_own hE2 hN2) (And.intro hE2.evs.1 (And.intro hm2 (And.intro hrn hrnl))))
    have hs2 := hb2.size
    have hx2 : Below w1.heap.size w1 (w2.alloc (.cells #[.int .i64 rmi, .int .i64 rma, .int .i64 rra, .bool rdn, .int .i64 rid, .int .i64 rnx, .slice B1 rn d1] 26)) := hb2.alloc hb2.size _
    have bx := Blk.new w2 26 #[.int .i64 rmi, .int .i64 rma, .int .i64 rra, .bool rdn, .int .i64 rid, .int .i64 rnx, .slice B1 rn d1]
    have H2 := Lib.hid (And.intro (HB.out.1.trans (hx2.mono HB.out.1.size)) (And.intro (HB.out.2.1.below hx2 (by omega)) (And.intro (HB.out.2.2.below hx2 (by omega)) (And.intro bx (And.intro (HE2.out.2.1.up ((Below.refl _ w2).alloc (Nat.le_refl _) (.cells #[.int .i64 rmi, .int .i64 rma, .int .i64 rra, .bool rdn, .int .i64 rid, .int .i64 rnx, .slice B1 rn d1] 26))) (hr2.up ((Below.refl _ w2).alloc (Nat.le_refl _) (.cells #[.int .i64 rmi, .int .i64 rma, .int .i64 rra, .bool rdn, .int .i64 rid, .int .i64 rnx, .slice B1 rn d1] 26))))))))
    have hz2 : w2.heap.size + 1 ≤ (w2.alloc (.cells #[.int .i64 rmi, .int .i64 rma, .int .i64 rra, .bool rdn, .int .i64 rid, .int .i64 rnx, .slice B1 rn d1] 26)).heap.size := by simp
    clear hb2 hE2 hm2 hN2 hr2 hx2 bx hrn hrnl c0 c1 c2 c3 c4 c5 c6 s0 s1
    rw [hqn]
    go_upto_region 4 with fail
    generalize (w2.alloc (.cells #[.int .i64 rmi, .int .i64 rma, .int .i64 rra, .bool rdn, .int .i64 rid, .int .i64 rnx, .slice B1 rn d1] 26)) = V2 at *
    have c0 : V2.cell? ⟨w.heap.size, 0, none⟩ = some (.int .i64 mi) := H2.out.2.1.cell 0
    have c1 : V2.cell? ⟨w.heap.size, 1, none⟩ = some (.int .i64 ma) := H2.out.2.1.cell 1
    have c2 : V2.cell? ⟨w.heap.size, 2, none⟩ = some (.int .i64 ra) := H2.out.2.1.cell 2
    have c3 : V2.cell? ⟨w.heap.size, 3, none⟩ = some (.bool dn) := H2.out.2.1.cell 3
    have c4 : V2.cell? ⟨w.heap.size, 4, none⟩ = some (.int .i64 id) := H2.out.2.1.cell 4
    have c5 : V2.cell? ⟨w.heap.size, 5, none⟩ = some (.int .i64 nx) := H2.out.2.1.cell 5
    have c6 : V2.cell? ⟨w.heap.size, 6, none⟩ = some (.slice A m c) := H2.out.2.1.cell 6
    have s0 : V2.cell? ⟨w.heap.size + 1, 0, none⟩ = some (.int .i64 now) := H2.out.2.2.1.cell 0
    have s1 : V2.cell? ⟨w.heap.size + 1, 1, none⟩ = some (.slice Ap p.length cp) := H2.out.2.2.1.cell 1
    go_wp2_with fail
    have hS1 := refSend_any mi ma ra dn id nx A m c l now Ap cp p Ac cc cs V2 (HX.out.1.up H2.out.1) (by omega) (HX.out.2.2.1.up H2.out.1) (by omega) (HX.out.2.2.2.up H2.out.1) (by omega) (fun e he => by have := HLP.out e he; omega) hcc hccm
    rw [hR] at hS1
    refine hS1.mono ?_
    clear hS1
    rintro e w3 ⟨hb3, v3, es3, C3, cc3, rfl, hE3, hm3, hN3, hr3, hcc3, hcm3⟩
    obtain ⟨B2, d2, rfl⟩ := hE3.form
    have hrn3 : es3.length = rn := by have := congrArg List.length hm3; rw [List.length_map] at this; dsimp only at this; rw [this, HE2.out.2.2.2.2]
    rw [hrn3] at hE3 ⊢
    unfold lkV
    dsimp only
    have hs3 := hb3.size
    have hx3 : Below V2.heap.size V2 (w3.alloc (.cells #[.int .i64 rmi, .int .i64 rma, .int .i64 rra, .bool rdn, .int .i64 rid, .int .i64 rnx, .slice B2 rn d2] 26)) := hb3.alloc hb3.size _
    have bx := Blk.new w3 26 #[.int .i64 rmi, .int .i64 rma, .int .i64 rra, .bool rdn, .int .i64 rid, .int .i64 rnx, .slice B2 rn d2]
    have H3 := Lib.hid (And.intro (H2.out.1.trans (hx3.mono H2.out.1.size)) (And.intro (H2.out.2.2.2.1.below hx3 (by omega)) (And.intro bx (And.intro (H2.out.2.2.2.2.1.up hx3) (And.intro (H2.out.2.2.2.2.2.up hx3) (And.intro (hE3.evs.1.up ((Below.refl _ w3).alloc (Nat.le_refl _) (.cells #[.int .i64 rmi, .int .i64 rma, .int .i64 rra, .bool rdn, .int .i64 rid, .int .i64 rnx, .slice B2 rn d2] 26))) (And.intro (hr3.up ((Below.refl _ w3).alloc (Nat.le_refl _) (.cells #[.int .i64 rmi, .int .i64 rma, .int .i64 rra, .bool rdn, .int .i64 rid, .int .i64 rnx, .slice B2 rn d2] 26))) hm3)))))))
    have hz3 : w3.heap.size + 1 ≤ (w3.alloc (.cells #[.int .i64 rmi, .int .i64 rma, .int .i64 rra, .bool rdn, .int .i64 rid, .int .i64 rnx, .slice B2 rn d2] 26)).heap.size := by simp
    clear hb3 hE3 hm3 hN3 hr3 hx3 bx hrn3 c0 c1 c2 c3 c4 c5 c6 s0 s1
    rw [hqn]
    go_upto_region 5 with fail
    generalize (w3.alloc (.cells #[.int .i64 rmi, .int .i64 rma, .int .i64 rra, .bool rdn, .int .i64 rid, .int .i64 rnx, .slice B2 rn d2] 26)) = V3 at *
    go_wp2_with fail
    refine (awake_any _).mono ?_
    rintro e w4 ⟨rfl, hb4⟩
    have hs4 := hb4.size
    have H4 := Lib.hid (And.intro (H3.out.1.trans (hb4.mono H3.out.1.size)) (And.intro (H3.out.2.1.below hb4 (by omega)) (And.intro (H3.out.2.2.1.below hb4 (by omega)) (And.intro (H3.out.2.2.2.1.up hb4) (And.intro (H3.out.2.2.2.2.1.up hb4) (And.intro (H3.out.2.2.2.2.2.1.up hb4) (H3.out.2.2.2.2.2.2.1.up hb4)))))))
    clear hb4
    have x0 : w4.cell? ⟨w2.heap.size, 0, none⟩ = some (.int .i64 rmi) := H4.out.2.1.cell 0
    have x1 : w4.cell? ⟨w2.heap.size, 1, none⟩ = some (.int .i64 rma) := H4.out.2.1.cell 1
    have x2 : w4.cell? ⟨w2.heap.size, 2, none⟩ = some (.int .i64 rra) := H4.out.2.1.cell 2
    have x3 : w4.cell? ⟨w2.heap.size, 3, none⟩ = some (.bool rdn) := H4.out.2.1.cell 3
    have x4 : w4.cell? ⟨w2.heap.size, 4, none⟩ = some (.int .i64 rid) := H4.out.2.1.cell 4
    have x5 : w4.cell? ⟨w2.heap.size, 5, none⟩ = some (.int .i64 rnx) := H4.out.2.1.cell 5
    have x6 : w4.cell? ⟨w2.heap.size, 6, none⟩ = some (.slice B1 rn d1) := H4.out.2.1.cell 6
    have y0 : w4.cell? ⟨w3.heap.size, 0, none⟩ = some (.int .i64 rmi) := H4.out.2.2.1.cell 0
    have y1 : w4.cell? ⟨w3.heap.size, 1, none⟩ = some (.int .i64 rma) := H4.out.2.2.1.cell 1
    have y2 : w4.cell? ⟨w3.heap.size, 2, none⟩ = some (.int .i64 rra) := H4.out.2.2.1.cell 2
    have y3 : w4.cell? ⟨w3.heap.size, 3, none⟩ = some (.bool rdn) := H4.out.2.2.1.cell 3
    have y4 : w4.cell? ⟨w3.heap.size, 4, none⟩ = some (.int .i64 rid) := H4.out.2.2.1.cell 4
    have y5 : w4.cell? ⟨w3.heap.size, 5, none⟩ = some (.int .i64 rnx) := H4.out.2.2.1.cell 5
    have y6 : w4.cell? ⟨w3.heap.size, 6, none⟩ = some (.slice B2 rn d2) := H4.out.2.2.1.cell 6
    go_wp2_with fail
    refine (Same_true rmi rma rra rdn rid rnx B1 B2 rn d1 d2 es2 es3 w4 H4.out.2.2.2.1 H4.out.2.2.2.2.2.1 (by omega) (by rw [HE2.out.2.2.1, H3.out.2.2.2.2.2.2.2])).mono ?_
    rintro e w5 ⟨rfl, hb5⟩
    have hq1 := H4.out.2.2.2.2.1.up hb5
    have hq2 := H4.out.2.2.2.2.2.2.up hb5
    rw [hqn] at hq1 hq2
    have H5 := Lib.hid (And.intro (H4.out.1.trans (hb5.mono H4.out.1.size)) (And.intro hq1 hq2))
    clear hb5 hq1 hq2 x0 x1 x2 x3 x4 x5 x6 y0 y1 y2 y3 y4 y5 y6
    go_wp2_with fail
    refine (SameInts_true C2 C3 qn cc2 cc3 rr w5 H5.out.2.1 H5.out.2.2 (by omega)).mono ?_
    rintro e w6 ⟨rfl, hb6⟩
    have H6 := Lib.hid (H5.out.1.trans (hb6.mono H5.out.1.size))
    clear hb6
    go_wp2_with fail
    go_ret
    exact ⟨by simp, H6.out⟩
end Go.Proofs.Ytjaoppopfeonhaa
