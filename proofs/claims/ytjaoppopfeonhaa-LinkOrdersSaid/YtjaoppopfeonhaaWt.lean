/- The walks of Cut and Restore of the link and of the reference. Condition: at most 4000 flights. -/
import Derived.Test.YtjaoppopfeonhaaWs
namespace Go.Proofs.Ytjaoppopfeonhaa
open Go.RowKit
/-- a link as an answer -/
structure LinkW (w : World) (lm : Lm) (e : Ending) (w' : World) : Prop where
  bel : Below w.heap.size w w'
  val : ∃ v, e = .returned (.agg (lkV lm v)) ∧ FlV w' 0 lm.fl v
theorem FlV.of_evs {W : World} {A : Option Addr} {m c : Nat} {l : List Ev} (h : Evs W A m l) (hmc : m ≤ c) (hcm : c ≤ maxLen) : FlV W 0 (l.map Ev.em) (.slice A m c) := by
  have hl := h.count
  subst hl
  exact ⟨A, c, l, rfl, h, rfl, hmc, hcm, fun _ _ _ => Nat.zero_le _, fun _ _ _ _ _ => Nat.zero_le _⟩
theorem FlV.nil (W : World) (low : Nat) : FlV W low [] (.slice none 0 0) := ⟨none, 0, [], rfl, ⟨⟨rfl, fun h => absurd h (by simp)⟩, nofun⟩, rfl, by simp, by unfold maxLen; omega, fun ad h => absurd h (by simp), nofun⟩
set_option linter.unusedSimpArgs false in
set_option linter.unusedVariables false in
set_option maxRecDepth 100000 in
set_option maxHeartbeats 4000000 in
theorem Cut_any (mi ma ra : Int) (dn : Bool) (id nx : Int) (A : Option Addr) (m c : Nat) (l : List Ev) (w : World) (hR : Evs w A m l) (hm : m ≤ 4000) (hmc : m ≤ c) (hcm : c ≤ maxLen) (hlp : ∀ e ∈ l, e.p.length ≤ 100000) :
    Calls Try.prog 29 #[.agg (lkC mi ma ra dn id nx A m c)] w (LinkW w (cutM ⟨mi, ma, ra, dn, id, nx, l.map Ev.em⟩)) := by
  unfold lkC
  obtain ⟨R, hR0⟩ : ∃ R, cutM ⟨mi, ma, ra, dn, id, nx, l.map Ev.em⟩ = R := ⟨_, rfl⟩
  rw [hR0]
  unfold cutM at hR0
  have HR := Lib.hid hR0
  clear hR0
  have hlen := hR.count
  have hb0 : Below w.heap.size w ((w.alloc (.cells #[.int .i64 mi, .int .i64 ma, .int .i64 ra, .bool dn, .int .i64 id, .int .i64 nx, .slice A m c] 26)).alloc (.cells #[.int .i64 0, .int .i64 0, .int .i64 0, .bool false, .int .i64 0, .int .i64 0, .slice none 0 0] 26)) := ((Below.refl _ _).alloc (Nat.le_refl _) _).alloc (by simp) _
  have g0 : Blk ((w.alloc (.cells #[.int .i64 mi, .int .i64 ma, .int .i64 ra, .bool dn, .int .i64 id, .int .i64 nx, .slice A m c] 26)).alloc (.cells #[.int .i64 0, .int .i64 0, .int .i64 0, .bool false, .int .i64 0, .int .i64 0, .slice none 0 0] 26)) w.heap.size 26 #[.int .i64 mi, .int .i64 ma, .int .i64 ra, .bool dn, .int .i64 id, .int .i64 nx, .slice A m c] := (Blk.new w 26 #[.int .i64 mi, .int .i64 ma, .int .i64 ra, .bool dn, .int .i64 id, .int .i64 nx, .slice A m c]).alloc _
  have g1 := Blk.new (w.alloc (.cells #[.int .i64 mi, .int .i64 ma, .int .i64 ra, .bool dn, .int .i64 id, .int .i64 nx, .slice A m c] 26)) 26 #[.int .i64 0, .int .i64 0, .int .i64 0, .bool false, .int .i64 0, .int .i64 0, .slice none 0 0]
  rw [World.size_alloc] at g1
  have hs0 : w.heap.size + 2 ≤ ((w.alloc (.cells #[.int .i64 mi, .int .i64 ma, .int .i64 ra, .bool dn, .int .i64 id, .int .i64 nx, .slice A m c] 26)).alloc (.cells #[.int .i64 0, .int .i64 0, .int .i64 0, .bool false, .int .i64 0, .int .i64 0, .slice none 0 0] 26)).heap.size := by simp
  have HX := Lib.hid (And.intro hR (And.intro hlen hlp))
  clear hR hlen hlp
  go_enter Try.func29, Try.ntmps29
  go_upto_region 1 with fail
  generalize ((w.alloc (.cells #[.int .i64 mi, .int .i64 ma, .int .i64 ra, .bool dn, .int .i64 id, .int .i64 nx, .slice A m c] 26)).alloc (.cells #[.int .i64 0, .int .i64 0, .int .i64 0, .bool false, .int .i64 0, .int .i64 0, .slice none 0 0] 26)) = V at *
  have c0 : V.cell? ⟨w.heap.size, 0, none⟩ = some (.int .i64 mi) := g0.cell 0
  have c1 : V.cell? ⟨w.heap.size, 1, none⟩ = some (.int .i64 ma) := g0.cell 1
  have c2 : V.cell? ⟨w.heap.size, 2, none⟩ = some (.int .i64 ra) := g0.cell 2
  have c3 : V.cell? ⟨w.heap.size, 3, none⟩ = some (.bool dn) := g0.cell 3
  have c4 : V.cell? ⟨w.heap.size, 4, none⟩ = some (.int .i64 id) := g0.cell 4
  have c5 : V.cell? ⟨w.heap.size, 5, none⟩ = some (.int .i64 nx) := g0.cell 5
  have c6 : V.cell? ⟨w.heap.size, 6, none⟩ = some (.slice A m c) := g0.cell 6
  go_wp2_with fail
  have hE := HX.out.1.up hb0
  refine (own_any mi ma ra dn id nx A m c l V hE (by omega) HX.out.2.2).mono ?_
  rintro e w3 ⟨hb3, v3, es, rfl, hE3, hm3, hN3⟩
  obtain ⟨B4, d4, rfl⟩ := hE3.form
  obtain ⟨m4, hm4⟩ : ∃ m4, es.length = m4 := ⟨_, rfl⟩
  rw [hm4] at hE3 ⊢
  have hs3 := hb3.size
  unfold lkV
  dsimp only
  have hF := FlV.of_own hE3 hN3
  rw [hm3] at hF
  have b3 : Below V.heap.size V (w3.alloc (.cells #[.int .i64 mi, .int .i64 ma, .int .i64 ra, .bool dn, .int .i64 id, .int .i64 nx, .slice B4 m4 d4] 26)) := hb3.alloc hb3.size _
  have bo3 := Blk.new w3 26 #[.int .i64 mi, .int .i64 ma, .int .i64 ra, .bool dn, .int .i64 id, .int .i64 nx, .slice B4 m4 d4]
  have HV3 := Lib.hid (And.intro (hb0.trans (b3.mono hb0.size)) (And.intro (g0.below b3 (by omega)) (And.intro (g1.below b3 (by omega)) (And.intro bo3 (hF.up ((Below.refl _ w3).alloc (Nat.le_refl _) (.cells #[.int .i64 mi, .int .i64 ma, .int .i64 ra, .bool dn, .int .i64 id, .int .i64 nx, .slice B4 m4 d4] 26)))))))
  have hz3 : w3.heap.size + 1 ≤ (w3.alloc (.cells #[.int .i64 mi, .int .i64 ma, .int .i64 ra, .bool dn, .int .i64 id, .int .i64 nx, .slice B4 m4 d4] 26)).heap.size := by simp
  have HM4 := Lib.hid (And.intro hm4 hm3)
  clear c0 c1 c2 c3 c4 c5 c6 g0 g1 hb0 hb3 hE3 hm3 hN3 b3 bo3 hE hm4 hF
  go_upto_region 2 with fail
  generalize (w3.alloc (.cells #[.int .i64 mi, .int .i64 ma, .int .i64 ra, .bool dn, .int .i64 id, .int .i64 nx, .slice B4 m4 d4] 26)) = W3 at *
  have c0 : W3.cell? ⟨w.heap.size, 0, none⟩ = some (.int .i64 mi) := HV3.out.2.1.cell 0
  have c1 : W3.cell? ⟨w.heap.size, 1, none⟩ = some (.int .i64 ma) := HV3.out.2.1.cell 1
  have c2 : W3.cell? ⟨w.heap.size, 2, none⟩ = some (.int .i64 ra) := HV3.out.2.1.cell 2
  have c3 : W3.cell? ⟨w.heap.size, 3, none⟩ = some (.bool dn) := HV3.out.2.1.cell 3
  have c4 : W3.cell? ⟨w.heap.size, 4, none⟩ = some (.int .i64 id) := HV3.out.2.1.cell 4
  have c5 : W3.cell? ⟨w.heap.size, 5, none⟩ = some (.int .i64 nx) := HV3.out.2.1.cell 5
  have c6 : W3.cell? ⟨w.heap.size, 6, none⟩ = some (.slice A m c) := HV3.out.2.1.cell 6
  go_wp2_with fail
  refine (Check_any mi ma ra dn id nx A m c l W3 (HX.out.1.up HV3.out.1) (by omega) hmc).mono ?_
  rintro e w4 ⟨rfl, hb4⟩
  have hs4 := hb4.size
  have H4 := Lib.hid (And.intro (HV3.out.1.trans (hb4.mono HV3.out.1.size)) (And.intro (HV3.out.2.1.below hb4 (by omega)) (And.intro (HV3.out.2.2.1.below hb4 (by omega)) (And.intro (HV3.out.2.2.2.1.below hb4 (by omega)) (HV3.out.2.2.2.2.up hb4)))))
  clear c0 c1 c2 c3 c4 c5 c6 hb4
  have HLOW : Hid (w.heap.size + 2 ≤ V.heap.size ∧ V.heap.size ≤ w3.heap.size ∧ w3.heap.size < w4.heap.size) := ⟨by omega, by omega, by omega⟩
  obtain ⟨r, hr⟩ : ∃ r, chkL ⟨mi, ma, ra, dn, id, nx, l.map Ev.em⟩ = r := ⟨_, rfl⟩
  rw [hr]
  have a0 : w4.cell? ⟨w3.heap.size, 0, none⟩ = some (.int .i64 mi) := H4.out.2.2.2.1.cell 0
  have a1 : w4.cell? ⟨w3.heap.size, 1, none⟩ = some (.int .i64 ma) := H4.out.2.2.2.1.cell 1
  have a2 : w4.cell? ⟨w3.heap.size, 2, none⟩ = some (.int .i64 ra) := H4.out.2.2.2.1.cell 2
  have a3 : w4.cell? ⟨w3.heap.size, 3, none⟩ = some (.bool dn) := H4.out.2.2.2.1.cell 3
  have a4 : w4.cell? ⟨w3.heap.size, 4, none⟩ = some (.int .i64 id) := H4.out.2.2.2.1.cell 4
  have a5 : w4.cell? ⟨w3.heap.size, 5, none⟩ = some (.int .i64 nx) := H4.out.2.2.2.1.cell 5
  have a6 : w4.cell? ⟨w3.heap.size, 6, none⟩ = some (.slice B4 m4 d4) := H4.out.2.2.2.1.cell 6
  by_cases hr0 : r = 0
  rotate_left 1
  · have hr1 : ((r : Int) == 0) = false := by rw [beq_eq_false_iff_ne]; omega
    have hRR : R = ⟨mi, ma, ra, dn, id, nx, l.map Ev.em⟩ := by rw [← HR.out, if_pos (by rw [hr]; exact hr0)]
    subst hRR
    have HR0 := Lib.hid hr0
    clear hr0 HR hr
    go_wp2_with (refine wpList_store_row rfl _ _ _ rfl (w.heap.size + 1) _ rfl rfl 26 _ H4.out.2.2.1 (by kernel_rfl) rfl (by simp [Value.oneCell']) ?_)
    exact bodyPost_ret (results_cell1 (t := 26) rfl _ _ (w.heap.size + 1) _ _ rfl (H4.out.2.2.1.setRow _) Try.underlying26 rfl (by kernel_rfl)) rfl ⟨below_setRow H4.out.1 (by omega) _, _, rfl, (H4.out.2.2.2.2.keep (fun g hg _ => setRow_other _ _ _ _ (by have := HLOW.out; omega)) (by simp)).low (Nat.zero_le _)⟩
  subst hr0
  have hRR : R = ⟨mi, ma, ra, true, id, nx, []⟩ := by rw [← HR.out, if_neg (by rw [hr]; simp)]
  subst hRR
  clear HR hr
  have f3 : w4.frozen? ⟨w3.heap.size, 3, none⟩ = false := H4.out.2.2.2.1.frozen 3
  have f6 : w4.frozen? ⟨w3.heap.size, 6, none⟩ = false := H4.out.2.2.2.1.frozen 6
  have s1 : Blk ((w4.setCell ⟨w3.heap.size, 3, none⟩ (.bool true)).setCell ⟨w3.heap.size, 6, none⟩ (.slice none 0 0)) w3.heap.size 26 #[.int .i64 mi, .int .i64 ma, .int .i64 ra, .bool true, .int .i64 id, .int .i64 nx, .slice none 0 0] := (H4.out.2.2.2.1.set_ 3 (.bool true)).set_ 6 (.slice none 0 0)
  have s2 : Blk ((w4.setCell ⟨w3.heap.size, 3, none⟩ (.bool true)).setCell ⟨w3.heap.size, 6, none⟩ (.slice none 0 0)) (w.heap.size + 1) 26 #[.int .i64 0, .int .i64 0, .int .i64 0, .bool false, .int .i64 0, .int .i64 0, .slice none 0 0] := (H4.out.2.2.1.far (p := ⟨w3.heap.size, 3, none⟩) (by have := HLOW.out; simp only; omega) _).far (p := ⟨w3.heap.size, 6, none⟩) (by have := HLOW.out; simp only; omega) _
  have hbw : Below w.heap.size w ((w4.setCell ⟨w3.heap.size, 3, none⟩ (.bool true)).setCell ⟨w3.heap.size, 6, none⟩ (.slice none 0 0)) := (H4.out.1.setCell (by have := HLOW.out; simp only; omega) _).setCell (by have := HLOW.out; simp only; omega) _
  have HS := Lib.hid (And.intro s1 (And.intro s2 hbw))
  clear s1 s2 hbw
  go_upto_region 4 with fail
  clear a0 a1 a2 a3 a4 a5 a6 f3 f6
  generalize ((w4.setCell ⟨w3.heap.size, 3, none⟩ (.bool true)).setCell ⟨w3.heap.size, 6, none⟩ (.slice none 0 0)) = W5 at *
  have a0 : W5.cell? ⟨w3.heap.size, 0, none⟩ = some (.int .i64 mi) := HS.out.1.cell 0
  have a1 : W5.cell? ⟨w3.heap.size, 1, none⟩ = some (.int .i64 ma) := HS.out.1.cell 1
  have a2 : W5.cell? ⟨w3.heap.size, 2, none⟩ = some (.int .i64 ra) := HS.out.1.cell 2
  have a3 : W5.cell? ⟨w3.heap.size, 3, none⟩ = some (.bool true) := HS.out.1.cell 3
  have a4 : W5.cell? ⟨w3.heap.size, 4, none⟩ = some (.int .i64 id) := HS.out.1.cell 4
  have a5 : W5.cell? ⟨w3.heap.size, 5, none⟩ = some (.int .i64 nx) := HS.out.1.cell 5
  have a6 : W5.cell? ⟨w3.heap.size, 6, none⟩ = some (.slice none 0 0) := HS.out.1.cell 6
  go_wp2_with (refine wpList_store_row rfl _ _ _ rfl (w.heap.size + 1) _ rfl rfl 26 _ HS.out.2.1 (by kernel_rfl) rfl (by simp [Value.oneCell']) ?_)
  exact bodyPost_ret (results_cell1 (t := 26) rfl _ _ (w.heap.size + 1) _ _ rfl (HS.out.2.1.setRow _) Try.underlying26 rfl (by kernel_rfl)) rfl ⟨below_setRow HS.out.2.2 (by omega) _, _, rfl, FlV.nil _ _⟩
set_option linter.unusedSimpArgs false in
set_option linter.unusedVariables false in
set_option maxRecDepth 100000 in
set_option maxHeartbeats 4000000 in
theorem Restore_any (mi ma ra : Int) (dn : Bool) (id nx : Int) (A : Option Addr) (m c : Nat) (l : List Ev) (now : Int) (w : World) (hR : Evs w A m l) (hm : m ≤ 4000) (hmc : m ≤ c) (hcm : c ≤ maxLen) (hlp : ∀ e ∈ l, e.p.length ≤ 100000) :
    Calls Try.prog 31 #[.agg (lkC mi ma ra dn id nx A m c), .int .i64 now] w (LinkW w (restM ⟨mi, ma, ra, dn, id, nx, l.map Ev.em⟩ now)) := by
  unfold lkC
  obtain ⟨R, hR0⟩ : ∃ R, restM ⟨mi, ma, ra, dn, id, nx, l.map Ev.em⟩ now = R := ⟨_, rfl⟩
  rw [hR0]
  unfold restM at hR0
  have HR := Lib.hid hR0
  clear hR0
  have hlen := hR.count
  have hb0 : Below w.heap.size w ((w.alloc (.cells #[.int .i64 mi, .int .i64 ma, .int .i64 ra, .bool dn, .int .i64 id, .int .i64 nx, .slice A m c] 26)).alloc (.cells #[.int .i64 0, .int .i64 0, .int .i64 0, .bool false, .int .i64 0, .int .i64 0, .slice none 0 0] 26)) := ((Below.refl _ _).alloc (Nat.le_refl _) _).alloc (by simp) _
  have g0 : Blk ((w.alloc (.cells #[.int .i64 mi, .int .i64 ma, .int .i64 ra, .bool dn, .int .i64 id, .int .i64 nx, .slice A m c] 26)).alloc (.cells #[.int .i64 0, .int .i64 0, .int .i64 0, .bool false, .int .i64 0, .int .i64 0, .slice none 0 0] 26)) w.heap.size 26 #[.int .i64 mi, .int .i64 ma, .int .i64 ra, .bool dn, .int .i64 id, .int .i64 nx, .slice A m c] := (Blk.new w 26 #[.int .i64 mi, .int .i64 ma, .int .i64 ra, .bool dn, .int .i64 id, .int .i64 nx, .slice A m c]).alloc _
  have g1 := Blk.new (w.alloc (.cells #[.int .i64 mi, .int .i64 ma, .int .i64 ra, .bool dn, .int .i64 id, .int .i64 nx, .slice A m c] 26)) 26 #[.int .i64 0, .int .i64 0, .int .i64 0, .bool false, .int .i64 0, .int .i64 0, .slice none 0 0]
  rw [World.size_alloc] at g1
  have hs0 : w.heap.size + 2 ≤ ((w.alloc (.cells #[.int .i64 mi, .int .i64 ma, .int .i64 ra, .bool dn, .int .i64 id, .int .i64 nx, .slice A m c] 26)).alloc (.cells #[.int .i64 0, .int .i64 0, .int .i64 0, .bool false, .int .i64 0, .int .i64 0, .slice none 0 0] 26)).heap.size := by simp
  have HX := Lib.hid (And.intro hR (And.intro hlen hlp))
  clear hR hlen hlp
  go_enter Try.func31, Try.ntmps31
  go_upto_region 1 with fail
  generalize ((w.alloc (.cells #[.int .i64 mi, .int .i64 ma, .int .i64 ra, .bool dn, .int .i64 id, .int .i64 nx, .slice A m c] 26)).alloc (.cells #[.int .i64 0, .int .i64 0, .int .i64 0, .bool false, .int .i64 0, .int .i64 0, .slice none 0 0] 26)) = V at *
  have c0 : V.cell? ⟨w.heap.size, 0, none⟩ = some (.int .i64 mi) := g0.cell 0
  have c1 : V.cell? ⟨w.heap.size, 1, none⟩ = some (.int .i64 ma) := g0.cell 1
  have c2 : V.cell? ⟨w.heap.size, 2, none⟩ = some (.int .i64 ra) := g0.cell 2
  have c3 : V.cell? ⟨w.heap.size, 3, none⟩ = some (.bool dn) := g0.cell 3
  have c4 : V.cell? ⟨w.heap.size, 4, none⟩ = some (.int .i64 id) := g0.cell 4
  have c5 : V.cell? ⟨w.heap.size, 5, none⟩ = some (.int .i64 nx) := g0.cell 5
  have c6 : V.cell? ⟨w.heap.size, 6, none⟩ = some (.slice A m c) := g0.cell 6
  go_wp2_with fail
  have hE := HX.out.1.up hb0
  refine (own_any mi ma ra dn id nx A m c l V hE (by omega) HX.out.2.2).mono ?_
  rintro e w3 ⟨hb3, v3, es, rfl, hE3, hm3, hN3⟩
  obtain ⟨B4, d4, rfl⟩ := hE3.form
  obtain ⟨m4, hm4⟩ : ∃ m4, es.length = m4 := ⟨_, rfl⟩
  rw [hm4] at hE3 ⊢
  have hs3 := hb3.size
  unfold lkV
  dsimp only
  have hF := FlV.of_own hE3 hN3
  rw [hm3] at hF
  have b3 : Below V.heap.size V (w3.alloc (.cells #[.int .i64 mi, .int .i64 ma, .int .i64 ra, .bool dn, .int .i64 id, .int .i64 nx, .slice B4 m4 d4] 26)) := hb3.alloc hb3.size _
  have bo3 := Blk.new w3 26 #[.int .i64 mi, .int .i64 ma, .int .i64 ra, .bool dn, .int .i64 id, .int .i64 nx, .slice B4 m4 d4]
  have HV3 := Lib.hid (And.intro (hb0.trans (b3.mono hb0.size)) (And.intro (g0.below b3 (by omega)) (And.intro (g1.below b3 (by omega)) (And.intro bo3 (hF.up ((Below.refl _ w3).alloc (Nat.le_refl _) (.cells #[.int .i64 mi, .int .i64 ma, .int .i64 ra, .bool dn, .int .i64 id, .int .i64 nx, .slice B4 m4 d4] 26)))))))
  have hz3 : w3.heap.size + 1 ≤ (w3.alloc (.cells #[.int .i64 mi, .int .i64 ma, .int .i64 ra, .bool dn, .int .i64 id, .int .i64 nx, .slice B4 m4 d4] 26)).heap.size := by simp
  have HM4 := Lib.hid (And.intro hm4 hm3)
  clear c0 c1 c2 c3 c4 c5 c6 g0 g1 hb0 hb3 hE3 hm3 hN3 b3 bo3 hE hm4 hF
  go_upto_region 2 with fail
  generalize (w3.alloc (.cells #[.int .i64 mi, .int .i64 ma, .int .i64 ra, .bool dn, .int .i64 id, .int .i64 nx, .slice B4 m4 d4] 26)) = W3 at *
  have c0 : W3.cell? ⟨w.heap.size, 0, none⟩ = some (.int .i64 mi) := HV3.out.2.1.cell 0
  have c1 : W3.cell? ⟨w.heap.size, 1, none⟩ = some (.int .i64 ma) := HV3.out.2.1.cell 1
  have c2 : W3.cell? ⟨w.heap.size, 2, none⟩ = some (.int .i64 ra) := HV3.out.2.1.cell 2
  have c3 : W3.cell? ⟨w.heap.size, 3, none⟩ = some (.bool dn) := HV3.out.2.1.cell 3
  have c4 : W3.cell? ⟨w.heap.size, 4, none⟩ = some (.int .i64 id) := HV3.out.2.1.cell 4
  have c5 : W3.cell? ⟨w.heap.size, 5, none⟩ = some (.int .i64 nx) := HV3.out.2.1.cell 5
  have c6 : W3.cell? ⟨w.heap.size, 6, none⟩ = some (.slice A m c) := HV3.out.2.1.cell 6
  go_wp2_with fail
  refine (Check_any mi ma ra dn id nx A m c l W3 (HX.out.1.up HV3.out.1) (by omega) hmc).mono ?_
  rintro e w4 ⟨rfl, hb4⟩
  have hs4 := hb4.size
  have H4 := Lib.hid (And.intro (HV3.out.1.trans (hb4.mono HV3.out.1.size)) (And.intro (HV3.out.2.1.below hb4 (by omega)) (And.intro (HV3.out.2.2.1.below hb4 (by omega)) (And.intro (HV3.out.2.2.2.1.below hb4 (by omega)) (HV3.out.2.2.2.2.up hb4)))))
  clear c0 c1 c2 c3 c4 c5 c6 hb4
  have HLOW : Hid (w.heap.size + 2 ≤ V.heap.size ∧ V.heap.size ≤ w3.heap.size ∧ w3.heap.size < w4.heap.size) := ⟨by omega, by omega, by omega⟩
  obtain ⟨r, hr⟩ : ∃ r, chkL ⟨mi, ma, ra, dn, id, nx, l.map Ev.em⟩ = r := ⟨_, rfl⟩
  rw [hr]
  have d3 : w4.cell? ⟨w.heap.size, 3, none⟩ = some (.bool dn) := H4.out.2.1.cell 3
  have a0 : w4.cell? ⟨w3.heap.size, 0, none⟩ = some (.int .i64 mi) := H4.out.2.2.2.1.cell 0
  have a1 : w4.cell? ⟨w3.heap.size, 1, none⟩ = some (.int .i64 ma) := H4.out.2.2.2.1.cell 1
  have a2 : w4.cell? ⟨w3.heap.size, 2, none⟩ = some (.int .i64 ra) := H4.out.2.2.2.1.cell 2
  have a3 : w4.cell? ⟨w3.heap.size, 3, none⟩ = some (.bool dn) := H4.out.2.2.2.1.cell 3
  have a4 : w4.cell? ⟨w3.heap.size, 4, none⟩ = some (.int .i64 id) := H4.out.2.2.2.1.cell 4
  have a5 : w4.cell? ⟨w3.heap.size, 5, none⟩ = some (.int .i64 nx) := H4.out.2.2.2.1.cell 5
  have a6 : w4.cell? ⟨w3.heap.size, 6, none⟩ = some (.slice B4 m4 d4) := H4.out.2.2.2.1.cell 6
  by_cases hr0 : r = 0
  rotate_left 1
  · have hr1 : ((r : Int) == 0) = false := by rw [beq_eq_false_iff_ne]; omega
    have hRR : R = ⟨mi, ma, ra, dn, id, nx, l.map Ev.em⟩ := by rw [← HR.out, if_pos (.inl (by rw [hr]; exact hr0))]
    subst hRR
    have HR0 := Lib.hid hr0
    clear hr0 HR hr
    go_wp2_with (refine wpList_store_row rfl _ _ _ rfl (w.heap.size + 1) _ rfl rfl 26 _ H4.out.2.2.1 (by kernel_rfl) rfl (by simp [Value.oneCell']) ?_)
    exact bodyPost_ret (results_cell1 (t := 26) rfl _ _ (w.heap.size + 1) _ _ rfl (H4.out.2.2.1.setRow _) Try.underlying26 rfl (by kernel_rfl)) rfl ⟨below_setRow H4.out.1 (by omega) _, _, rfl, (H4.out.2.2.2.2.keep (fun g hg _ => setRow_other _ _ _ _ (by have := HLOW.out; omega)) (by simp)).low (Nat.zero_le _)⟩
  subst hr0
  have HOK := Lib.hid (okL_of hr)
  cases dn with
  | false =>
    have hRR : R = ⟨mi, ma, ra, false, id, nx, l.map Ev.em⟩ := by rw [← HR.out, if_pos (.inr (.inl rfl))]
    subst hRR
    clear HR hr
    go_wp2_with (refine wpList_store_row rfl _ _ _ rfl (w.heap.size + 1) _ rfl rfl 26 _ H4.out.2.2.1 (by kernel_rfl) rfl (by simp [Value.oneCell']) ?_)
    exact bodyPost_ret (results_cell1 (t := 26) rfl _ _ (w.heap.size + 1) _ _ rfl (H4.out.2.2.1.setRow _) Try.underlying26 rfl (by kernel_rfl)) rfl ⟨below_setRow H4.out.1 (by omega) _, _, rfl, (H4.out.2.2.2.2.keep (fun g hg _ => setRow_other _ _ _ _ (by have := HLOW.out; omega)) (by simp)).low (Nat.zero_le _)⟩
  | true =>
    by_cases hnow : 0 ≤ now ∧ now ≤ 1073741824
    rotate_left 1
    · have hRR : R = ⟨mi, ma, ra, true, id, nx, l.map Ev.em⟩ := by rw [← HR.out, if_pos (by omega)]
      subst hRR
      have HN := Lib.hid hnow
      clear HR hr hnow
      go_wp2_with fail
      refine (betw_any _ _ _ (decide_eq_false HN.out) _).mono ?_
      rintro e w5 ⟨rfl, rfl⟩
      go_wp2_with (refine wpList_store_row rfl _ _ _ rfl (w.heap.size + 1) _ rfl rfl 26 _ H4.out.2.2.1 (by kernel_rfl) rfl (by simp [Value.oneCell']) ?_)
      exact bodyPost_ret (results_cell1 (t := 26) rfl _ _ (w.heap.size + 1) _ _ rfl (H4.out.2.2.1.setRow _) Try.underlying26 rfl (by kernel_rfl)) rfl ⟨below_setRow H4.out.1 (by omega) _, _, rfl, (H4.out.2.2.2.2.keep (fun g hg _ => setRow_other _ _ _ _ (by have := HLOW.out; omega)) (by simp)).low (Nat.zero_le _)⟩
    have hRR : R = ⟨mi, ma, ra, false, now, nx, l.map Ev.em⟩ := by rw [← HR.out, if_neg (by rw [hr]; simp; omega)]
    subst hRR
    have HN := Lib.hid hnow
    clear HR hr hnow
    go_wp2_with fail
    refine (betw_any _ _ _ (decide_eq_true HN.out) _).mono ?_
    rintro e w5 ⟨rfl, rfl⟩
    have f3 : w5.frozen? ⟨w3.heap.size, 3, none⟩ = false := H4.out.2.2.2.1.frozen 3
    have f4 : w5.frozen? ⟨w3.heap.size, 4, none⟩ = false := H4.out.2.2.2.1.frozen 4
    have s1 : Blk ((w5.setCell ⟨w3.heap.size, 3, none⟩ (.bool false)).setCell ⟨w3.heap.size, 4, none⟩ (.int .i64 now)) w3.heap.size 26 #[.int .i64 mi, .int .i64 ma, .int .i64 ra, .bool false, .int .i64 now, .int .i64 nx, .slice B4 m4 d4] := (H4.out.2.2.2.1.set_ 3 (.bool false)).set_ 4 (.int .i64 now)
    have s2 : Blk ((w5.setCell ⟨w3.heap.size, 3, none⟩ (.bool false)).setCell ⟨w3.heap.size, 4, none⟩ (.int .i64 now)) (w.heap.size + 1) 26 #[.int .i64 0, .int .i64 0, .int .i64 0, .bool false, .int .i64 0, .int .i64 0, .slice none 0 0] := (H4.out.2.2.1.far (p := ⟨w3.heap.size, 3, none⟩) (by have := HLOW.out; simp only; omega) _).far (p := ⟨w3.heap.size, 4, none⟩) (by have := HLOW.out; simp only; omega) _
    have hbw : Below w.heap.size w ((w5.setCell ⟨w3.heap.size, 3, none⟩ (.bool false)).setCell ⟨w3.heap.size, 4, none⟩ (.int .i64 now)) := (H4.out.1.setCell (by have := HLOW.out; simp only; omega) _).setCell (by have := HLOW.out; simp only; omega) _
    have hfl : l.map Ev.em = [] := HOK.out.dn rfl
    have hm40 : m4 = 0 := by rw [← HM4.out.1]; have h := congrArg List.length HM4.out.2; rw [List.length_map] at h; rw [h, hfl]; rfl
    have HF : Hid (FlV (((w5.setCell ⟨w3.heap.size, 3, none⟩ (.bool false)).setCell ⟨w3.heap.size, 4, none⟩ (.int .i64 now)).setRow (w.heap.size + 1) #[.int .i64 mi, .int .i64 ma, .int .i64 ra, .bool false, .int .i64 now, .int .i64 nx, .slice B4 m4 d4]) 0 (l.map Ev.em) (.slice B4 m4 d4)) := by
      obtain ⟨A9, c9, e9, h1, _, h3, h4, h5, _⟩ := H4.out.2.2.2.2.val
      have he : e9 = [] := by rw [hfl] at h3; simpa using h3
      subst he
      rw [hfl]
      injection h1 with q1 q2 q3
      subst q1 q2 q3
      exact ⟨_, _, [], rfl, ⟨⟨rfl, fun h => absurd h (by simp)⟩, nofun⟩, rfl, by simp, h5, fun ad h => absurd h (by simp), nofun⟩
    have HS := Lib.hid (And.intro s1 (And.intro s2 hbw))
    clear s1 s2 hbw hfl hm40
    go_upto_region 4 with fail
    clear a0 a1 a2 a3 a4 a5 a6 f3 f4
    generalize ((w5.setCell ⟨w3.heap.size, 3, none⟩ (.bool false)).setCell ⟨w3.heap.size, 4, none⟩ (.int .i64 now)) = W5 at *
    have a0 : W5.cell? ⟨w3.heap.size, 0, none⟩ = some (.int .i64 mi) := HS.out.1.cell 0
    have a1 : W5.cell? ⟨w3.heap.size, 1, none⟩ = some (.int .i64 ma) := HS.out.1.cell 1
    have a2 : W5.cell? ⟨w3.heap.size, 2, none⟩ = some (.int .i64 ra) := HS.out.1.cell 2
    have a3 : W5.cell? ⟨w3.heap.size, 3, none⟩ = some (.bool false) := HS.out.1.cell 3
    have a4 : W5.cell? ⟨w3.heap.size, 4, none⟩ = some (.int .i64 now) := HS.out.1.cell 4
    have a5 : W5.cell? ⟨w3.heap.size, 5, none⟩ = some (.int .i64 nx) := HS.out.1.cell 5
    have a6 : W5.cell? ⟨w3.heap.size, 6, none⟩ = some (.slice B4 m4 d4) := HS.out.1.cell 6
    go_wp2_with (refine wpList_store_row rfl _ _ _ rfl (w.heap.size + 1) _ rfl rfl 26 _ HS.out.2.1 (by kernel_rfl) rfl (by simp [Value.oneCell']) ?_)
    exact bodyPost_ret (results_cell1 (t := 26) rfl _ _ (w.heap.size + 1) _ _ rfl (HS.out.2.1.setRow _) Try.underlying26 rfl (by kernel_rfl)) rfl ⟨below_setRow HS.out.2.2 (by omega) _, _, rfl, HF.out⟩
set_option linter.unusedSimpArgs false in
set_option linter.unusedVariables false in
set_option maxRecDepth 100000 in
set_option maxHeartbeats 4000000 in
theorem refCut_any (mi ma ra : Int) (dn : Bool) (id nx : Int) (A : Option Addr) (m c : Nat) (l : List Ev) (w : World) (hR : Evs w A m l) (hm : m ≤ 4000) (hmc : m ≤ c) (hcm : c ≤ maxLen) (hlp : ∀ e ∈ l, e.p.length ≤ 100000) :
    Calls Try.prog 30 #[.agg (lkC mi ma ra dn id nx A m c)] w (LinkW w (cutM ⟨mi, ma, ra, dn, id, nx, l.map Ev.em⟩)) := by
  unfold lkC
  obtain ⟨R, hR0⟩ : ∃ R, cutM ⟨mi, ma, ra, dn, id, nx, l.map Ev.em⟩ = R := ⟨_, rfl⟩
  rw [hR0]
  unfold cutM at hR0
  have HR := Lib.hid hR0
  clear hR0
  have hlen := hR.count
  have hb0 : Below w.heap.size w ((w.alloc (.cells #[.int .i64 mi, .int .i64 ma, .int .i64 ra, .bool dn, .int .i64 id, .int .i64 nx, .slice A m c] 26)).alloc (.cells #[.int .i64 0, .int .i64 0, .int .i64 0, .bool false, .int .i64 0, .int .i64 0, .slice none 0 0] 26)) := ((Below.refl _ _).alloc (Nat.le_refl _) _).alloc (by simp) _
  have g0 : Blk ((w.alloc (.cells #[.int .i64 mi, .int .i64 ma, .int .i64 ra, .bool dn, .int .i64 id, .int .i64 nx, .slice A m c] 26)).alloc (.cells #[.int .i64 0, .int .i64 0, .int .i64 0, .bool false, .int .i64 0, .int .i64 0, .slice none 0 0] 26)) w.heap.size 26 #[.int .i64 mi, .int .i64 ma, .int .i64 ra, .bool dn, .int .i64 id, .int .i64 nx, .slice A m c] := (Blk.new w 26 #[.int .i64 mi, .int .i64 ma, .int .i64 ra, .bool dn, .int .i64 id, .int .i64 nx, .slice A m c]).alloc _
  have g1 := Blk.new (w.alloc (.cells #[.int .i64 mi, .int .i64 ma, .int .i64 ra, .bool dn, .int .i64 id, .int .i64 nx, .slice A m c] 26)) 26 #[.int .i64 0, .int .i64 0, .int .i64 0, .bool false, .int .i64 0, .int .i64 0, .slice none 0 0]
  rw [World.size_alloc] at g1
  have hs0 : w.heap.size + 2 ≤ ((w.alloc (.cells #[.int .i64 mi, .int .i64 ma, .int .i64 ra, .bool dn, .int .i64 id, .int .i64 nx, .slice A m c] 26)).alloc (.cells #[.int .i64 0, .int .i64 0, .int .i64 0, .bool false, .int .i64 0, .int .i64 0, .slice none 0 0] 26)).heap.size := by simp
  have HX := Lib.hid (And.intro hR (And.intro hlen hlp))
  clear hR hlen hlp
  go_enter Try.func30, Try.ntmps30
  go_upto_region 1 with fail
  generalize ((w.alloc (.cells #[.int .i64 mi, .int .i64 ma, .int .i64 ra, .bool dn, .int .i64 id, .int .i64 nx, .slice A m c] 26)).alloc (.cells #[.int .i64 0, .int .i64 0, .int .i64 0, .bool false, .int .i64 0, .int .i64 0, .slice none 0 0] 26)) = V at *
  have c0 : V.cell? ⟨w.heap.size, 0, none⟩ = some (.int .i64 mi) := g0.cell 0
  have c1 : V.cell? ⟨w.heap.size, 1, none⟩ = some (.int .i64 ma) := g0.cell 1
  have c2 : V.cell? ⟨w.heap.size, 2, none⟩ = some (.int .i64 ra) := g0.cell 2
  have c3 : V.cell? ⟨w.heap.size, 3, none⟩ = some (.bool dn) := g0.cell 3
  have c4 : V.cell? ⟨w.heap.size, 4, none⟩ = some (.int .i64 id) := g0.cell 4
  have c5 : V.cell? ⟨w.heap.size, 5, none⟩ = some (.int .i64 nx) := g0.cell 5
  have c6 : V.cell? ⟨w.heap.size, 6, none⟩ = some (.slice A m c) := g0.cell 6
  go_wp2_with fail
  refine (refCheck_any mi ma ra dn id nx A m c l V (HX.out.1.up hb0) (by omega)).mono ?_
  rintro e w1 ⟨rfl, hb1⟩
  have hs1 := hb1.size
  have HV := Lib.hid (And.intro (hb0.trans (hb1.mono hb0.size)) (And.intro (g0.below hb1 (by omega)) (g1.below hb1 (by omega))))
  clear c0 c1 c2 c3 c4 c5 c6 g0 g1 hb0 hb1
  have c0 : w1.cell? ⟨w.heap.size, 0, none⟩ = some (.int .i64 mi) := HV.out.2.1.cell 0
  have c1 : w1.cell? ⟨w.heap.size, 1, none⟩ = some (.int .i64 ma) := HV.out.2.1.cell 1
  have c2 : w1.cell? ⟨w.heap.size, 2, none⟩ = some (.int .i64 ra) := HV.out.2.1.cell 2
  have c3 : w1.cell? ⟨w.heap.size, 3, none⟩ = some (.bool dn) := HV.out.2.1.cell 3
  have c4 : w1.cell? ⟨w.heap.size, 4, none⟩ = some (.int .i64 id) := HV.out.2.1.cell 4
  have c5 : w1.cell? ⟨w.heap.size, 5, none⟩ = some (.int .i64 nx) := HV.out.2.1.cell 5
  have c6 : w1.cell? ⟨w.heap.size, 6, none⟩ = some (.slice A m c) := HV.out.2.1.cell 6
  obtain ⟨r, hr⟩ : ∃ r, chkL ⟨mi, ma, ra, dn, id, nx, l.map Ev.em⟩ = r := ⟨_, rfl⟩
  rw [hr]
  have HFL := Lib.hid (fun (W : World) (hW : Below w.heap.size w W) => FlV.of_evs (HX.out.1.up hW) hmc hcm)
  by_cases hr0 : r = 0
  rotate_left 1
  · have hr1 : ((r : Int) != 0) = true := by rw [bne_iff_ne]; omega
    have hRR : R = ⟨mi, ma, ra, dn, id, nx, l.map Ev.em⟩ := by rw [← HR.out, if_pos (by rw [hr]; exact hr0)]
    subst hRR
    have HR0 := Lib.hid hr0
    clear hr0 HR hr
    go_wp2_with (refine wpList_store_row rfl _ _ _ rfl (w.heap.size + 1) _ rfl rfl 26 _ HV.out.2.2 (by kernel_rfl) rfl (by simp [Value.oneCell']) ?_)
    exact bodyPost_ret (results_cell1 (t := 26) rfl _ _ (w.heap.size + 1) _ _ rfl (HV.out.2.2.setRow _) Try.underlying26 rfl (by kernel_rfl)) rfl ⟨below_setRow HV.out.1 (by omega) _, _, rfl, (HFL.out _ (below_setRow HV.out.1 (by omega) _))⟩
  subst hr0
  have hRR : R = ⟨mi, ma, ra, true, id, nx, []⟩ := by rw [← HR.out, if_neg (by rw [hr]; simp)]
  subst hRR
  clear HR hr
  have f3 : w1.frozen? ⟨w.heap.size, 3, none⟩ = false := HV.out.2.1.frozen 3
  have f6 : w1.frozen? ⟨w.heap.size, 6, none⟩ = false := HV.out.2.1.frozen 6
  have s1 : Blk (((w1.setCell ⟨w.heap.size, 3, none⟩ (.bool true)).setCell ⟨w.heap.size, 6, none⟩ (.slice none 0 0))) w.heap.size 26 #[.int .i64 mi, .int .i64 ma, .int .i64 ra, .bool true, .int .i64 id, .int .i64 nx, .slice none 0 0] := (HV.out.2.1.set_ 3 (.bool true)).set_ 6 (.slice none 0 0)
  have s2 : Blk (((w1.setCell ⟨w.heap.size, 3, none⟩ (.bool true)).setCell ⟨w.heap.size, 6, none⟩ (.slice none 0 0))) (w.heap.size + 1) 26 #[.int .i64 0, .int .i64 0, .int .i64 0, .bool false, .int .i64 0, .int .i64 0, .slice none 0 0] := (HV.out.2.2.far (p := ⟨w.heap.size, 3, none⟩) (by simp) _).far (p := ⟨w.heap.size, 6, none⟩) (by simp) _
  have hbw : Below w.heap.size w (((w1.setCell ⟨w.heap.size, 3, none⟩ (.bool true)).setCell ⟨w.heap.size, 6, none⟩ (.slice none 0 0))) := (HV.out.1.setCell (Nat.le_refl _) _).setCell (Nat.le_refl _) _
  have HS := Lib.hid (And.intro s1 (And.intro s2 hbw))
  clear s1 s2 hbw
  go_upto_region 4 with fail
  clear c0 c1 c2 c3 c4 c5 c6 f3 f6
  generalize (((w1.setCell ⟨w.heap.size, 3, none⟩ (.bool true)).setCell ⟨w.heap.size, 6, none⟩ (.slice none 0 0))) = W5 at *
  have a0 : W5.cell? ⟨w.heap.size, 0, none⟩ = some (.int .i64 mi) := HS.out.1.cell 0
  have a1 : W5.cell? ⟨w.heap.size, 1, none⟩ = some (.int .i64 ma) := HS.out.1.cell 1
  have a2 : W5.cell? ⟨w.heap.size, 2, none⟩ = some (.int .i64 ra) := HS.out.1.cell 2
  have a3 : W5.cell? ⟨w.heap.size, 3, none⟩ = some (.bool true) := HS.out.1.cell 3
  have a4 : W5.cell? ⟨w.heap.size, 4, none⟩ = some (.int .i64 id) := HS.out.1.cell 4
  have a5 : W5.cell? ⟨w.heap.size, 5, none⟩ = some (.int .i64 nx) := HS.out.1.cell 5
  have a6 : W5.cell? ⟨w.heap.size, 6, none⟩ = some (.slice none 0 0) := HS.out.1.cell 6
  go_wp2_with (refine wpList_store_row rfl _ _ _ rfl (w.heap.size + 1) _ rfl rfl 26 _ HS.out.2.1 (by kernel_rfl) rfl (by simp [Value.oneCell']) ?_)
  exact bodyPost_ret (results_cell1 (t := 26) rfl _ _ (w.heap.size + 1) _ _ rfl (HS.out.2.1.setRow _) Try.underlying26 rfl (by kernel_rfl)) rfl ⟨below_setRow HS.out.2.2 (by omega) _, _, rfl, FlV.nil _ _⟩
set_option linter.unusedSimpArgs false in
set_option linter.unusedVariables false in
set_option maxRecDepth 100000 in
set_option maxHeartbeats 4000000 in
theorem refRestore_any (mi ma ra : Int) (dn : Bool) (id nx : Int) (A : Option Addr) (m c : Nat) (l : List Ev) (now : Int) (w : World) (hR : Evs w A m l) (hm : m ≤ 4000) (hmc : m ≤ c) (hcm : c ≤ maxLen) (hlp : ∀ e ∈ l, e.p.length ≤ 100000) :
    Calls Try.prog 32 #[.agg (lkC mi ma ra dn id nx A m c), .int .i64 now] w (LinkW w (restM ⟨mi, ma, ra, dn, id, nx, l.map Ev.em⟩ now)) := by
  unfold lkC
  obtain ⟨R, hR0⟩ : ∃ R, restM ⟨mi, ma, ra, dn, id, nx, l.map Ev.em⟩ now = R := ⟨_, rfl⟩
  rw [hR0]
  unfold restM at hR0
  have HR := Lib.hid hR0
  clear hR0
  have hlen := hR.count
  have hb0 : Below w.heap.size w ((w.alloc (.cells #[.int .i64 mi, .int .i64 ma, .int .i64 ra, .bool dn, .int .i64 id, .int .i64 nx, .slice A m c] 26)).alloc (.cells #[.int .i64 0, .int .i64 0, .int .i64 0, .bool false, .int .i64 0, .int .i64 0, .slice none 0 0] 26)) := ((Below.refl _ _).alloc (Nat.le_refl _) _).alloc (by simp) _
  have g0 : Blk ((w.alloc (.cells #[.int .i64 mi, .int .i64 ma, .int .i64 ra, .bool dn, .int .i64 id, .int .i64 nx, .slice A m c] 26)).alloc (.cells #[.int .i64 0, .int .i64 0, .int .i64 0, .bool false, .int .i64 0, .int .i64 0, .slice none 0 0] 26)) w.heap.size 26 #[.int .i64 mi, .int .i64 ma, .int .i64 ra, .bool dn, .int .i64 id, .int .i64 nx, .slice A m c] := (Blk.new w 26 #[.int .i64 mi, .int .i64 ma, .int .i64 ra, .bool dn, .int .i64 id, .int .i64 nx, .slice A m c]).alloc _
  have g1 := Blk.new (w.alloc (.cells #[.int .i64 mi, .int .i64 ma, .int .i64 ra, .bool dn, .int .i64 id, .int .i64 nx, .slice A m c] 26)) 26 #[.int .i64 0, .int .i64 0, .int .i64 0, .bool false, .int .i64 0, .int .i64 0, .slice none 0 0]
  rw [World.size_alloc] at g1
  have hs0 : w.heap.size + 2 ≤ ((w.alloc (.cells #[.int .i64 mi, .int .i64 ma, .int .i64 ra, .bool dn, .int .i64 id, .int .i64 nx, .slice A m c] 26)).alloc (.cells #[.int .i64 0, .int .i64 0, .int .i64 0, .bool false, .int .i64 0, .int .i64 0, .slice none 0 0] 26)).heap.size := by simp
  have HX := Lib.hid (And.intro hR (And.intro hlen hlp))
  clear hR hlen hlp
  go_enter Try.func32, Try.ntmps32
  go_upto_region 1 with fail
  generalize ((w.alloc (.cells #[.int .i64 mi, .int .i64 ma, .int .i64 ra, .bool dn, .int .i64 id, .int .i64 nx, .slice A m c] 26)).alloc (.cells #[.int .i64 0, .int .i64 0, .int .i64 0, .bool false, .int .i64 0, .int .i64 0, .slice none 0 0] 26)) = V at *
  have c0 : V.cell? ⟨w.heap.size, 0, none⟩ = some (.int .i64 mi) := g0.cell 0
  have c1 : V.cell? ⟨w.heap.size, 1, none⟩ = some (.int .i64 ma) := g0.cell 1
  have c2 : V.cell? ⟨w.heap.size, 2, none⟩ = some (.int .i64 ra) := g0.cell 2
  have c3 : V.cell? ⟨w.heap.size, 3, none⟩ = some (.bool dn) := g0.cell 3
  have c4 : V.cell? ⟨w.heap.size, 4, none⟩ = some (.int .i64 id) := g0.cell 4
  have c5 : V.cell? ⟨w.heap.size, 5, none⟩ = some (.int .i64 nx) := g0.cell 5
  have c6 : V.cell? ⟨w.heap.size, 6, none⟩ = some (.slice A m c) := g0.cell 6
  go_wp2_with fail
  refine (refCheck_any mi ma ra dn id nx A m c l V (HX.out.1.up hb0) (by omega)).mono ?_
  rintro e w1 ⟨rfl, hb1⟩
  have hs1 := hb1.size
  have HV := Lib.hid (And.intro (hb0.trans (hb1.mono hb0.size)) (And.intro (g0.below hb1 (by omega)) (g1.below hb1 (by omega))))
  clear c0 c1 c2 c3 c4 c5 c6 g0 g1 hb0 hb1
  have c0 : w1.cell? ⟨w.heap.size, 0, none⟩ = some (.int .i64 mi) := HV.out.2.1.cell 0
  have c1 : w1.cell? ⟨w.heap.size, 1, none⟩ = some (.int .i64 ma) := HV.out.2.1.cell 1
  have c2 : w1.cell? ⟨w.heap.size, 2, none⟩ = some (.int .i64 ra) := HV.out.2.1.cell 2
  have c3 : w1.cell? ⟨w.heap.size, 3, none⟩ = some (.bool dn) := HV.out.2.1.cell 3
  have c4 : w1.cell? ⟨w.heap.size, 4, none⟩ = some (.int .i64 id) := HV.out.2.1.cell 4
  have c5 : w1.cell? ⟨w.heap.size, 5, none⟩ = some (.int .i64 nx) := HV.out.2.1.cell 5
  have c6 : w1.cell? ⟨w.heap.size, 6, none⟩ = some (.slice A m c) := HV.out.2.1.cell 6
  obtain ⟨r, hr⟩ : ∃ r, chkL ⟨mi, ma, ra, dn, id, nx, l.map Ev.em⟩ = r := ⟨_, rfl⟩
  rw [hr]
  have HFL := Lib.hid (fun (W : World) (hW : Below w.heap.size w W) => FlV.of_evs (HX.out.1.up hW) hmc hcm)
  by_cases hr0 : r = 0
  rotate_left 1
  · have hr1 : ((r : Int) != 0) = true := by rw [bne_iff_ne]; omega
    have hRR : R = ⟨mi, ma, ra, dn, id, nx, l.map Ev.em⟩ := by rw [← HR.out, if_pos (.inl (by rw [hr]; exact hr0))]
    subst hRR
    have HR0 := Lib.hid hr0
    clear hr0 HR hr
    go_wp2_with (refine wpList_store_row rfl _ _ _ rfl (w.heap.size + 1) _ rfl rfl 26 _ HV.out.2.2 (by kernel_rfl) rfl (by simp [Value.oneCell']) ?_)
    exact bodyPost_ret (results_cell1 (t := 26) rfl _ _ (w.heap.size + 1) _ _ rfl (HV.out.2.2.setRow _) Try.underlying26 rfl (by kernel_rfl)) rfl ⟨below_setRow HV.out.1 (by omega) _, _, rfl, (HFL.out _ (below_setRow HV.out.1 (by omega) _))⟩
  subst hr0
  cases dn with
  | false =>
    have hRR : R = ⟨mi, ma, ra, false, id, nx, l.map Ev.em⟩ := by rw [← HR.out, if_pos (.inr (.inl rfl))]
    subst hRR
    clear HR hr
    go_wp2_with (refine wpList_store_row rfl _ _ _ rfl (w.heap.size + 1) _ rfl rfl 26 _ HV.out.2.2 (by kernel_rfl) rfl (by simp [Value.oneCell']) ?_)
    exact bodyPost_ret (results_cell1 (t := 26) rfl _ _ (w.heap.size + 1) _ _ rfl (HV.out.2.2.setRow _) Try.underlying26 rfl (by kernel_rfl)) rfl ⟨below_setRow HV.out.1 (by omega) _, _, rfl, (HFL.out _ (below_setRow HV.out.1 (by omega) _))⟩
  | true =>
    by_cases hn1 : now < 0
    · have hRR : R = ⟨mi, ma, ra, true, id, nx, l.map Ev.em⟩ := by rw [← HR.out, if_pos (by omega)]
      subst hRR
      clear HR hr
      go_wp2_with (refine wpList_store_row rfl _ _ _ rfl (w.heap.size + 1) _ rfl rfl 26 _ HV.out.2.2 (by kernel_rfl) rfl (by simp [Value.oneCell']) ?_)
      exact bodyPost_ret (results_cell1 (t := 26) rfl _ _ (w.heap.size + 1) _ _ rfl (HV.out.2.2.setRow _) Try.underlying26 rfl (by kernel_rfl)) rfl ⟨below_setRow HV.out.1 (by omega) _, _, rfl, (HFL.out _ (below_setRow HV.out.1 (by omega) _))⟩
    by_cases hn2 : 1073741824 < now
    · have hRR : R = ⟨mi, ma, ra, true, id, nx, l.map Ev.em⟩ := by rw [← HR.out, if_pos (by omega)]
      subst hRR
      clear HR hr
      go_wp2_with (refine wpList_store_row rfl _ _ _ rfl (w.heap.size + 1) _ rfl rfl 26 _ HV.out.2.2 (by kernel_rfl) rfl (by simp [Value.oneCell']) ?_)
      exact bodyPost_ret (results_cell1 (t := 26) rfl _ _ (w.heap.size + 1) _ _ rfl (HV.out.2.2.setRow _) Try.underlying26 rfl (by kernel_rfl)) rfl ⟨below_setRow HV.out.1 (by omega) _, _, rfl, (HFL.out _ (below_setRow HV.out.1 (by omega) _))⟩
    have hRR : R = ⟨mi, ma, ra, false, now, nx, l.map Ev.em⟩ := by rw [← HR.out, if_neg (by rw [hr]; simp; omega)]
    subst hRR
    clear HR hr
    have f3 : w1.frozen? ⟨w.heap.size, 3, none⟩ = false := HV.out.2.1.frozen 3
    have f4 : w1.frozen? ⟨w.heap.size, 4, none⟩ = false := HV.out.2.1.frozen 4
    have s1 : Blk (((w1.setCell ⟨w.heap.size, 3, none⟩ (.bool false)).setCell ⟨w.heap.size, 4, none⟩ (.int .i64 now))) w.heap.size 26 #[.int .i64 mi, .int .i64 ma, .int .i64 ra, .bool false, .int .i64 now, .int .i64 nx, .slice A m c] := (HV.out.2.1.set_ 3 (.bool false)).set_ 4 (.int .i64 now)
    have s2 : Blk (((w1.setCell ⟨w.heap.size, 3, none⟩ (.bool false)).setCell ⟨w.heap.size, 4, none⟩ (.int .i64 now))) (w.heap.size + 1) 26 #[.int .i64 0, .int .i64 0, .int .i64 0, .bool false, .int .i64 0, .int .i64 0, .slice none 0 0] := (HV.out.2.2.far (p := ⟨w.heap.size, 3, none⟩) (by simp) _).far (p := ⟨w.heap.size, 4, none⟩) (by simp) _
    have hbw : Below w.heap.size w (((w1.setCell ⟨w.heap.size, 3, none⟩ (.bool false)).setCell ⟨w.heap.size, 4, none⟩ (.int .i64 now))) := (HV.out.1.setCell (Nat.le_refl _) _).setCell (Nat.le_refl _) _
    have HS := Lib.hid (And.intro s1 (And.intro s2 hbw))
    clear s1 s2 hbw
    go_upto_region 4 with fail
    clear c0 c1 c2 c3 c4 c5 c6 f3 f4
    generalize (((w1.setCell ⟨w.heap.size, 3, none⟩ (.bool false)).setCell ⟨w.heap.size, 4, none⟩ (.int .i64 now))) = W5 at *
    have a0 : W5.cell? ⟨w.heap.size, 0, none⟩ = some (.int .i64 mi) := HS.out.1.cell 0
    have a1 : W5.cell? ⟨w.heap.size, 1, none⟩ = some (.int .i64 ma) := HS.out.1.cell 1
    have a2 : W5.cell? ⟨w.heap.size, 2, none⟩ = some (.int .i64 ra) := HS.out.1.cell 2
    have a3 : W5.cell? ⟨w.heap.size, 3, none⟩ = some (.bool false) := HS.out.1.cell 3
    have a4 : W5.cell? ⟨w.heap.size, 4, none⟩ = some (.int .i64 now) := HS.out.1.cell 4
    have a5 : W5.cell? ⟨w.heap.size, 5, none⟩ = some (.int .i64 nx) := HS.out.1.cell 5
    have a6 : W5.cell? ⟨w.heap.size, 6, none⟩ = some (.slice A m c) := HS.out.1.cell 6
    go_wp2_with (refine wpList_store_row rfl _ _ _ rfl (w.heap.size + 1) _ rfl rfl 26 _ HS.out.2.1 (by kernel_rfl) rfl (by simp [Value.oneCell']) ?_)
    exact bodyPost_ret (results_cell1 (t := 26) rfl _ _ (w.heap.size + 1) _ _ rfl (HS.out.2.1.setRow _) Try.underlying26 rfl (by kernel_rfl)) rfl ⟨below_setRow HS.out.2.2 (by omega) _, _, rfl, (HFL.out _ (below_setRow HS.out.2.2 (by omega) _))⟩
end Go.Proofs.Ytjaoppopfeonhaa
