/- The walk of the law LinkChecks. No condition. -/
import Derived.Test.YtjaoppopfeonhaaLa
namespace Go.Proofs.Ytjaoppopfeonhaa
open Go.RowKit
theorem new_form (mi ma ra : Int) : ∃ n0 n1 n2 : Int, newC mi ma ra = lkC n0 n1 n2 false 0 0 none 0 0 := by
  unfold newC
  split
  · exact ⟨_, _, _, rfl⟩
  · exact ⟨_, _, _, rfl⟩
theorem c7_held {X w' : World} {b : Nat} {cs : Array Value} {t : TypeId} (h : Blk X b t cs) (hb : Below X.heap.size X w') : Blk w' b t cs := h.below hb h.lt
set_option linter.unusedSimpArgs false in
set_option maxRecDepth 100000 in
set_option maxHeartbeats 8000000 in
theorem walkLinkChecks (w : World) (v0 : Value) (h0 : Arg26 w v0) : Calls Try.prog 3 #[v0] w fun e w' => e = .returned (.bool true) ∧ Below w.heap.size w w' := by
  obtain ⟨mi, ma, ra, dn, id, nx, A, m, c, l, rfl, hR, hmc, hcm⟩ := h0
  unfold lkC
  have hlen := hR.count
  have hb0 : Below w.heap.size w (w.alloc (.cells #[.int .i64 mi, .int .i64 ma, .int .i64 ra, .bool dn, .int .i64 id, .int .i64 nx, .slice A m c] 26)) := (Below.refl _ _).alloc (Nat.le_refl _) _
  have g0 := Blk.new w 26 #[.int .i64 mi, .int .i64 ma, .int .i64 ra, .bool dn, .int .i64 id, .int .i64 nx, .slice A m c]
  have hs0 : w.heap.size + 1 ≤ (w.alloc (.cells #[.int .i64 mi, .int .i64 ma, .int .i64 ra, .bool dn, .int .i64 id, .int .i64 nx, .slice A m c] 26)).heap.size := by simp
  have HX := Lib.hid (And.intro hR hlen)
  clear hR hlen
  unfold maxLen at hcm
  go_enter Try.func3, Try.ntmps3
  go_upto_region 1 with fail
  generalize (w.alloc (.cells #[.int .i64 mi, .int .i64 ma, .int .i64 ra, .bool dn, .int .i64 id, .int .i64 nx, .slice A m c] 26)) = V at *
  have c0 : V.cell? ⟨w.heap.size, 0, none⟩ = some (.int .i64 mi) := g0.cell 0
  have c1 : V.cell? ⟨w.heap.size, 1, none⟩ = some (.int .i64 ma) := g0.cell 1
  have c2 : V.cell? ⟨w.heap.size, 2, none⟩ = some (.int .i64 ra) := g0.cell 2
  have c3 : V.cell? ⟨w.heap.size, 3, none⟩ = some (.bool dn) := g0.cell 3
  have c4 : V.cell? ⟨w.heap.size, 4, none⟩ = some (.int .i64 id) := g0.cell 4
  have c5 : V.cell? ⟨w.heap.size, 5, none⟩ = some (.int .i64 nx) := g0.cell 5
  have c6 : V.cell? ⟨w.heap.size, 6, none⟩ = some (.slice A m c) := g0.cell 6
  obtain ⟨f, hf⟩ : ∃ f, fewB (l.map Ev.em) = f := ⟨_, rfl⟩
  go_wp2_with fail
  refine (few_any A m c mi ma ra dn id nx l V (HX.out.1.up hb0) (by unfold maxLen; omega)).mono ?_
  rintro e w1 ⟨rfl, hb1⟩
  have G0 := g0.below hb1 (by omega)
  have hs1 : w.heap.size + 1 ≤ w1.heap.size := by have := hb1.size; omega
  have HB := Lib.hid (And.intro (hb0.trans (hb1.mono hb0.size)) G0)
  clear c0 c1 c2 c3 c4 c5 c6 g0 hb0 hb1 hs0
  have c0 : w1.cell? ⟨w.heap.size, 0, none⟩ = some (.int .i64 mi) := G0.cell 0
  have c1 : w1.cell? ⟨w.heap.size, 1, none⟩ = some (.int .i64 ma) := G0.cell 1
  have c2 : w1.cell? ⟨w.heap.size, 2, none⟩ = some (.int .i64 ra) := G0.cell 2
  have c3 : w1.cell? ⟨w.heap.size, 3, none⟩ = some (.bool dn) := G0.cell 3
  have c4 : w1.cell? ⟨w.heap.size, 4, none⟩ = some (.int .i64 id) := G0.cell 4
  have c5 : w1.cell? ⟨w.heap.size, 5, none⟩ = some (.int .i64 nx) := G0.cell 5
  have c6 : w1.cell? ⟨w.heap.size, 6, none⟩ = some (.slice A m c) := G0.cell 6
  clear G0
  rw [hf]
  cases f with
  | false =>
    go_wp2_with fail
    refine (awake_any _).mono ?_
    rintro e w9 ⟨rfl, hb9⟩
    go_wp2_with fail
    go_ret
    exact ⟨by simp, HB.out.1.trans (hb9.mono HB.out.1.size)⟩
  | true =>
    obtain ⟨hm40, _⟩ := few_facts HX.out.2 hf
    clear hf
    obtain ⟨n0, n1, n2, hn⟩ := new_form mi ma ra
    obtain ⟨r, hr⟩ : ∃ r, cfgE mi ma ra = r := ⟨_, rfl⟩
    go_wp2_with fail
    refine (New_any mi ma ra w1).mono ?_
    rintro e w2 ⟨rfl, hb2⟩
    rw [hn, hr]
    unfold lkC
    have hs2 := hb2.size
    have hx2 : Below w1.heap.size w1 (w2.alloc (.cells #[.int .i64 n0, .int .i64 n1, .int .i64 n2, .bool false, .int .i64 0, .int .i64 0, .slice none 0 0] 26)) := hb2.alloc hs2 _
    have bx := Blk.new w2 26 #[.int .i64 n0, .int .i64 n1, .int .i64 n2, .bool false, .int .i64 0, .int .i64 0, .slice none 0 0]
    have H2 := Lib.hid (And.intro (HB.out.1.trans (hx2.mono HB.out.1.size)) (And.intro (HB.out.2.below hx2 (by omega)) bx))
    have hz2 : w2.heap.size + 1 ≤ (w2.alloc (.cells #[.int .i64 n0, .int .i64 n1, .int .i64 n2, .bool false, .int .i64 0, .int .i64 0, .slice none 0 0] 26)).heap.size := by simp
    clear hb2 hx2 bx c0 c1 c2 c3 c4 c5 c6
    go_upto_region 4 with fail
    generalize (w2.alloc (.cells #[.int .i64 n0, .int .i64 n1, .int .i64 n2, .bool false, .int .i64 0, .int .i64 0, .slice none 0 0] 26)) = V2 at *
    have c0 : V2.cell? ⟨w.heap.size, 0, none⟩ = some (.int .i64 mi) := H2.out.2.1.cell 0
    have c1 : V2.cell? ⟨w.heap.size, 1, none⟩ = some (.int .i64 ma) := H2.out.2.1.cell 1
    have c2 : V2.cell? ⟨w.heap.size, 2, none⟩ = some (.int .i64 ra) := H2.out.2.1.cell 2
    have c3 : V2.cell? ⟨w.heap.size, 3, none⟩ = some (.bool dn) := H2.out.2.1.cell 3
    have c4 : V2.cell? ⟨w.heap.size, 4, none⟩ = some (.int .i64 id) := H2.out.2.1.cell 4
    have c5 : V2.cell? ⟨w.heap.size, 5, none⟩ = some (.int .i64 nx) := H2.out.2.1.cell 5
    have c6 : V2.cell? ⟨w.heap.size, 6, none⟩ = some (.slice A m c) := H2.out.2.1.cell 6
    go_wp2_with fail
    refine (refNew_any mi ma ra V2).mono ?_
    rintro e w3 ⟨rfl, hb3⟩
    rw [hn, hr]
    unfold lkC
    have hs3 := hb3.size
    have hx3 : Below V2.heap.size V2 (w3.alloc (.cells #[.int .i64 n0, .int .i64 n1, .int .i64 n2, .bool false, .int .i64 0, .int .i64 0, .slice none 0 0] 26)) := hb3.alloc hs3 _
    have bx := Blk.new w3 26 #[.int .i64 n0, .int .i64 n1, .int .i64 n2, .bool false, .int .i64 0, .int .i64 0, .slice none 0 0]
    have H3 := Lib.hid (And.intro (H2.out.1.trans (hx3.mono H2.out.1.size)) (And.intro (H2.out.2.1.below hx3 (by omega)) (And.intro (H2.out.2.2.below hx3 (by omega)) bx)))
    have hz3 : w3.heap.size + 1 ≤ (w3.alloc (.cells #[.int .i64 n0, .int .i64 n1, .int .i64 n2, .bool false, .int .i64 0, .int .i64 0, .slice none 0 0] 26)).heap.size := by simp
    clear hb3 hx3 bx c0 c1 c2 c3 c4 c5 c6
    go_upto_region 5 with fail
    generalize (w3.alloc (.cells #[.int .i64 n0, .int .i64 n1, .int .i64 n2, .bool false, .int .i64 0, .int .i64 0, .slice none 0 0] 26)) = X at *
    have HEV := Lib.hid (HX.out.1.up H3.out.1)
    obtain ⟨q, hq⟩ : ∃ q, chkL ⟨mi, ma, ra, dn, id, nx, l.map Ev.em⟩ = q := ⟨_, rfl⟩
    have HC : Hid (∀ W, Below X.heap.size X W → Calls Try.prog 16 #[.agg #[.int .i64 mi, .int .i64 ma, .int .i64 ra, .bool dn, .int .i64 id, .int .i64 nx, .slice A m c]] W fun e w' => e = .returned (.int .i64 (q : Nat)) ∧ Below W.heap.size W w') := fun W hW => by rw [← hq]; exact Check_any mi ma ra dn id nx A m c l W (HEV.out.up hW) (by omega) hmc
    have HD : Hid (∀ W, Below X.heap.size X W → Calls Try.prog 17 #[.agg #[.int .i64 mi, .int .i64 ma, .int .i64 ra, .bool dn, .int .i64 id, .int .i64 nx, .slice A m c]] W fun e w' => e = .returned (.int .i64 (q : Nat)) ∧ Below W.heap.size W w') := fun W hW => by rw [← hq]; exact refCheck_any mi ma ra dn id nx A m c l W (HEV.out.up hW) (by omega)
    have HS : Hid (∀ W, Calls Try.prog 15 #[.agg #[.int .i64 n0, .int .i64 n1, .int .i64 n2, .bool false, .int .i64 0, .int .i64 0, .slice none 0 0], .agg #[.int .i64 n0, .int .i64 n1, .int .i64 n2, .bool false, .int .i64 0, .int .i64 0, .slice none 0 0]] W fun e w' => e = .returned (.bool true) ∧ Below W.heap.size W w') := fun W => Same_true n0 n1 n2 false 0 0 none none 0 0 0 [] [] W ⟨⟨rfl, fun h => absurd h (by omega)⟩, nofun⟩ ⟨⟨rfl, fun h => absurd h (by omega)⟩, nofun⟩ (by omega) rfl
    have hcell : ∀ w', Below X.heap.size X w' → w'.cell? ⟨w2.heap.size, 0, none⟩ = some (.int .i64 n0) ∧ w'.cell? ⟨w2.heap.size, 1, none⟩ = some (.int .i64 n1) ∧ w'.cell? ⟨w2.heap.size, 2, none⟩ = some (.int .i64 n2) ∧ w'.cell? ⟨w2.heap.size, 3, none⟩ = some (.bool false) ∧ w'.cell? ⟨w2.heap.size, 4, none⟩ = some (.int .i64 0) ∧ w'.cell? ⟨w2.heap.size, 5, none⟩ = some (.int .i64 0) ∧ w'.cell? ⟨w2.heap.size, 6, none⟩ = some (.slice none 0 0) ∧ w'.cell? ⟨w3.heap.size, 0, none⟩ = some (.int .i64 n0) ∧ w'.cell? ⟨w3.heap.size, 1, none⟩ = some (.int .i64 n1) ∧ w'.cell? ⟨w3.heap.size, 2, none⟩ = some (.int .i64 n2) ∧ w'.cell? ⟨w3.heap.size, 3, none⟩ = some (.bool false) ∧ w'.cell? ⟨w3.heap.size, 4, none⟩ = some (.int .i64 0) ∧ w'.cell? ⟨w3.heap.size, 5, none⟩ = some (.int .i64 0) ∧ w'.cell? ⟨w3.heap.size, 6, none⟩ = some (.slice none 0 0) ∧ w'.cell? ⟨w.heap.size, 0, none⟩ = some (.int .i64 mi) ∧ w'.cell? ⟨w.heap.size, 1, none⟩ = some (.int .i64 ma) ∧ w'.cell? ⟨w.heap.size, 2, none⟩ = some (.int .i64 ra) ∧ w'.cell? ⟨w.heap.size, 3, none⟩ = some (.bool dn) ∧ w'.cell? ⟨w.heap.size, 4, none⟩ = some (.int .i64 id) ∧ w'.cell? ⟨w.heap.size, 5, none⟩ = some (.int .i64 nx) ∧ w'.cell? ⟨w.heap.size, 6, none⟩ = some (.slice A m c) ∧ Below X.heap.size X w' := fun w' hb =>
      ⟨(c7_held H3.out.2.2.1 hb).cell 0, (c7_held H3.out.2.2.1 hb).cell 1, (c7_held H3.out.2.2.1 hb).cell 2, (c7_held H3.out.2.2.1 hb).cell 3, (c7_held H3.out.2.2.1 hb).cell 4, (c7_held H3.out.2.2.1 hb).cell 5, (c7_held H3.out.2.2.1 hb).cell 6, (c7_held H3.out.2.2.2 hb).cell 0, (c7_held H3.out.2.2.2 hb).cell 1, (c7_held H3.out.2.2.2 hb).cell 2, (c7_held H3.out.2.2.2 hb).cell 3, (c7_held H3.out.2.2.2 hb).cell 4, (c7_held H3.out.2.2.2 hb).cell 5, (c7_held H3.out.2.2.2 hb).cell 6, (c7_held H3.out.2.1 hb).cell 0, (c7_held H3.out.2.1 hb).cell 1, (c7_held H3.out.2.1 hb).cell 2, (c7_held H3.out.2.1 hb).cell 3, (c7_held H3.out.2.1 hb).cell 4, (c7_held H3.out.2.1 hb).cell 5, (c7_held H3.out.2.1 hb).cell 6, hb⟩
    have HCE := Lib.hid hcell
    clear hcell hq hr hn
    obtain ⟨x0, x1, x2, x3, x4, x5, x6, y0, y1, y2, y3, y4, y5, y6, z0, z1, z2, z3, z4, z5, z6, _⟩ := HCE.out X (Below.refl _ _)
    go_region_held3 (fun w' => w'.cell? ⟨w2.heap.size, 0, none⟩ = some (.int .i64 n0) ∧ w'.cell? ⟨w2.heap.size, 1, none⟩ = some (.int .i64 n1) ∧ w'.cell? ⟨w2.heap.size, 2, none⟩ = some (.int .i64 n2) ∧ w'.cell? ⟨w2.heap.size, 3, none⟩ = some (.bool false) ∧ w'.cell? ⟨w2.heap.size, 4, none⟩ = some (.int .i64 0) ∧ w'.cell? ⟨w2.heap.size, 5, none⟩ = some (.int .i64 0) ∧ w'.cell? ⟨w2.heap.size, 6, none⟩ = some (.slice none 0 0) ∧ w'.cell? ⟨w3.heap.size, 0, none⟩ = some (.int .i64 n0) ∧ w'.cell? ⟨w3.heap.size, 1, none⟩ = some (.int .i64 n1) ∧ w'.cell? ⟨w3.heap.size, 2, none⟩ = some (.int .i64 n2) ∧ w'.cell? ⟨w3.heap.size, 3, none⟩ = some (.bool false) ∧ w'.cell? ⟨w3.heap.size, 4, none⟩ = some (.int .i64 0) ∧ w'.cell? ⟨w3.heap.size, 5, none⟩ = some (.int .i64 0) ∧ w'.cell? ⟨w3.heap.size, 6, none⟩ = some (.slice none 0 0) ∧ w'.cell? ⟨w.heap.size, 0, none⟩ = some (.int .i64 mi) ∧ w'.cell? ⟨w.heap.size, 1, none⟩ = some (.int .i64 ma) ∧ w'.cell? ⟨w.heap.size, 2, none⟩ = some (.int .i64 ra) ∧ w'.cell? ⟨w.heap.size, 3, none⟩ = some (.bool dn) ∧ w'.cell? ⟨w.heap.size, 4, none⟩ = some (.int .i64 id) ∧ w'.cell? ⟨w.heap.size, 5, none⟩ = some (.int .i64 nx) ∧ w'.cell? ⟨w.heap.size, 6, none⟩ = some (.slice A m c) ∧ Below X.heap.size X w')
      (first
        | exact HCE.out _ ((Below.refl _ X).drew)
        | (go_split_ands; exact HCE.out _ (below_step (by assumption) hb'))
        | (go_split_ands; exact HCE.out _ (by assumption)))
      (first
        | (go_at_call 12; refine (awake_any _).mono ?_; rintro e w' ⟨rfl, hb'⟩)
        | (go_at_call 15; refine (HS.out _).mono ?_; rintro e w' ⟨rfl, hb'⟩)
        | (go_at_call 16; refine (HC.out _ (by go_split_ands; first | assumption | exact Below.drew (by assumption))).mono ?_; rintro e w' ⟨rfl, hb'⟩)
        | (go_at_call 17; refine (HD.out _ (by go_split_ands; first | assumption | exact Below.drew (by assumption))).mono ?_; rintro e w' ⟨rfl, hb'⟩))
    rename_i hS
    go_split_ands
    go_wp2_with fail
    go_ret
    exact ⟨by simp, H3.out.1.trans (Below.mono (by first | exact below_step (by assumption) hb' | assumption) H3.out.1.size)⟩
end Go.Proofs.Ytjaoppopfeonhaa
