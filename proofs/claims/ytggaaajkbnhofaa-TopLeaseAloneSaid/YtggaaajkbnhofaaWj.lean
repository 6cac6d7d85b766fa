/- The walks of a site's Ask, Renew, GiveUp, Learn. Conditions: a lease in order, times of usual size. -/
import Derived.Test.YtggaaajkbnhofaaWi
namespace Go.Proofs.Ytggaaajkbnhofaa
open Go.RowKit
theorem results_one {P : Program} {fn : Func} {p : Tmp} {ty : TypeId} (h : fn.results = #[.cell p ty]) (tmps : Array Value) (w : World) (g : Nat) (t : TypeId) (cs : Array Value) (d : TypeDesc)
    (hp : tmps.getD p undef = .pointer (some ⟨g, 0, none⟩)) (hg : Blk w g t cs)
    (hu : P.underlying ty = some d) (hd : (match d with | .struct _ | .array _ _ => true | _ => false) = true) (hi : (P.info? ty).map (·.size) = some cs.size) :
    (results fn tmps).run P w = .ok (.agg cs) w := by
  have hp' : tmps[p]?.getD undef = .pointer (some ⟨g, 0, none⟩) := by simpa using hp
  simp [results, h, hp', asAddr, run_loadVar_row w g t ty cs (0, 0) d hg hu hd hi]
theorem results_two {P : Program} {fn : Func} {p q : Tmp} {ty ty2 : TypeId} (h : fn.results = #[.cell p ty, .cell q ty2]) (tmps : Array Value) (w : World) (g g2 : Nat) (t t2 : TypeId) (cs cs2 : Array Value) (d d2 : TypeDesc)
    (hp : tmps.getD p undef = .pointer (some ⟨g, 0, none⟩)) (hg : Blk w g t cs) (hu : P.underlying ty = some d) (hd : (match d with | .struct _ | .array _ _ => true | _ => false) = true) (hi : (P.info? ty).map (·.size) = some cs.size)
    (hq : tmps.getD q undef = .pointer (some ⟨g2, 0, none⟩)) (hg2 : Blk w g2 t2 cs2) (hu2 : P.underlying ty2 = some d2) (hd2 : (match d2 with | .struct _ | .array _ _ => true | _ => false) = true) (hi2 : (P.info? ty2).map (·.size) = some cs2.size) :
    (results fn tmps).run P w = .ok (.tuple #[.agg cs, .agg cs2]) w := by
  have hp' : tmps[p]?.getD undef = .pointer (some ⟨g, 0, none⟩) := by simpa using hp
  have hq' : tmps[q]?.getD undef = .pointer (some ⟨g2, 0, none⟩) := by simpa using hq
  simp [results, h, hp', hq', asAddr, run_loadVar_row w g t ty cs (0, 0) d hg hu hd hi, run_loadVar_row w g2 t2 ty2 cs2 (0, 0) d2 hg2 hu2 hd2 hi2]
set_option linter.unusedSimpArgs false in
set_option maxRecDepth 100000 in
set_option maxHeartbeats 4000000 in
theorem Ask_ok (s e u x : Int) (w : World) (h0 : 0 ≤ s ∧ s ≤ 3) (h1 : 0 ≤ e ∧ e ≤ 1073741824) (h2 : 0 ≤ u ∧ u ≤ 1073741824) (h3 : 1 ≤ x ∧ x ≤ 1073741824) (h4 : e ≤ x) :
    Calls Try.prog 8 #[.agg #[.int .i64 s, .int .i64 e, .int .i64 u], .int .i64 x] w fun y w' => y = .returned (.tuple #[.agg #[.int .i64 15, .int .i64 s, .int .i64 4, .int .i64 0, .int .i64 0, .int .i64 x, .slice none 0 0, .slice none 0 0], .int .i64 0]) ∧ Below w.heap.size w w' := by
  have k3 := bet_true h3
  have k4 : ¬ x < e := by omega
  have hb0 : Below w.heap.size w ((w.alloc (.cells #[.int .i64 s, .int .i64 e, .int .i64 u] 41)).alloc (.cells #[.int .i64 0, .int .i64 0, .int .i64 0, .int .i64 0, .int .i64 0, .int .i64 0, .slice none 0 0, .slice none 0 0] 49)) := (((Below.refl _ w).alloc (by simp <;> omega) _).alloc (by simp <;> omega) _)
  have g0 : Blk ((w.alloc (.cells #[.int .i64 s, .int .i64 e, .int .i64 u] 41)).alloc (.cells #[.int .i64 0, .int .i64 0, .int .i64 0, .int .i64 0, .int .i64 0, .int .i64 0, .slice none 0 0, .slice none 0 0] 49)) w.heap.size 41 #[.int .i64 s, .int .i64 e, .int .i64 u] := by simpa [Nat.add_assoc] using ((Blk.new w 41 #[.int .i64 s, .int .i64 e, .int .i64 u]).alloc (.cells #[.int .i64 0, .int .i64 0, .int .i64 0, .int .i64 0, .int .i64 0, .int .i64 0, .slice none 0 0, .slice none 0 0] 49))
  have g1 : Blk ((w.alloc (.cells #[.int .i64 s, .int .i64 e, .int .i64 u] 41)).alloc (.cells #[.int .i64 0, .int .i64 0, .int .i64 0, .int .i64 0, .int .i64 0, .int .i64 0, .slice none 0 0, .slice none 0 0] 49)) (w.heap.size + 1) 49 #[.int .i64 0, .int .i64 0, .int .i64 0, .int .i64 0, .int .i64 0, .int .i64 0, .slice none 0 0, .slice none 0 0] := by simpa [Nat.add_assoc] using (Blk.new (w.alloc (.cells #[.int .i64 s, .int .i64 e, .int .i64 u] 41)) 49 #[.int .i64 0, .int .i64 0, .int .i64 0, .int .i64 0, .int .i64 0, .int .i64 0, .slice none 0 0, .slice none 0 0])
  have hs0 : ((w.alloc (.cells #[.int .i64 s, .int .i64 e, .int .i64 u] 41)).alloc (.cells #[.int .i64 0, .int .i64 0, .int .i64 0, .int .i64 0, .int .i64 0, .int .i64 0, .slice none 0 0, .slice none 0 0] 49)).heap.size = w.heap.size + 2 := by simp
  go_enter Try.func8, Try.ntmps8
  go_upto_region 1 with fail
  generalize ((w.alloc (.cells #[.int .i64 s, .int .i64 e, .int .i64 u] 41)).alloc (.cells #[.int .i64 0, .int .i64 0, .int .i64 0, .int .i64 0, .int .i64 0, .int .i64 0, .slice none 0 0, .slice none 0 0] 49)) = V at *
  have c0 : V.cell? ⟨w.heap.size, 0, none⟩ = some (.int .i64 s) := g0.cell 0
  have c1 : V.cell? ⟨w.heap.size, 1, none⟩ = some (.int .i64 e) := g0.cell 1
  have c2 : V.cell? ⟨w.heap.size, 2, none⟩ = some (.int .i64 u) := g0.cell 2
  go_wp2_with fail
  refine (formed_ok s e u V h0 h1 h2).mono ?_
  rintro x w1 ⟨rfl, hb1⟩
  have hs1 := hb1.size
  have G0 := g0.below hb1 (by omega)
  have G1 := g1.below hb1 (by omega)
  have hbw := hb0.trans (hb1.mono hb0.size)
  clear c0 c1 c2 hb0 hb1 g0 g1
  have c0 : w1.cell? ⟨w.heap.size, 0, none⟩ = some (.int .i64 s) := G0.cell 0
  have c1 : w1.cell? ⟨w.heap.size, 1, none⟩ = some (.int .i64 e) := G0.cell 1
  have c2 : w1.cell? ⟨w.heap.size, 2, none⟩ = some (.int .i64 u) := G0.cell 2
  go_wp2_with fail
  refine (between_any x 1 1073741824 w1).mono ?_
  rintro y w2 ⟨rfl, rfl⟩
  rw [k3]
  go_wp2_with (refine wpList_store_row rfl _ _ _ rfl (w.heap.size + 1) _ rfl rfl 49 _ G1 (by kernel_rfl) rfl (by simp [Value.oneCell']) ?_)
  refine bodyPost_ret (results_cell_tmp rfl _ _ (w.heap.size + 1) _ _ _ rfl (G1.setRow _) Try.underlying49 rfl (by kernel_rfl)) rfl ⟨rfl, below_setRow hbw (by omega) _⟩
set_option linter.unusedSimpArgs false in
set_option maxRecDepth 100000 in
set_option maxHeartbeats 4000000 in
theorem Renew_none (s e : Int) (w : World) (h0 : 0 ≤ s ∧ s ≤ 3) (h1 : 0 ≤ e ∧ e ≤ 1073741824) :
    Calls Try.prog 10 #[.agg #[.int .i64 s, .int .i64 e, .int .i64 0]] w fun y w' => y = .returned (.tuple #[.agg #[.int .i64 0, .int .i64 0, .int .i64 0, .int .i64 0, .int .i64 0, .int .i64 0, .slice none 0 0, .slice none 0 0], .int .i64 12]) ∧ Below w.heap.size w w' := by
  have h2 : (0 : Int) ≤ 0 ∧ (0 : Int) ≤ 1073741824 := by omega
  have hb0 : Below w.heap.size w ((w.alloc (.cells #[.int .i64 s, .int .i64 e, .int .i64 0] 41)).alloc (.cells #[.int .i64 0, .int .i64 0, .int .i64 0, .int .i64 0, .int .i64 0, .int .i64 0, .slice none 0 0, .slice none 0 0] 49)) := (((Below.refl _ w).alloc (by simp <;> omega) _).alloc (by simp <;> omega) _)
  have g0 : Blk ((w.alloc (.cells #[.int .i64 s, .int .i64 e, .int .i64 0] 41)).alloc (.cells #[.int .i64 0, .int .i64 0, .int .i64 0, .int .i64 0, .int .i64 0, .int .i64 0, .slice none 0 0, .slice none 0 0] 49)) w.heap.size 41 #[.int .i64 s, .int .i64 e, .int .i64 0] := by simpa [Nat.add_assoc] using ((Blk.new w 41 #[.int .i64 s, .int .i64 e, .int .i64 0]).alloc (.cells #[.int .i64 0, .int .i64 0, .int .i64 0, .int .i64 0, .int .i64 0, .int .i64 0, .slice none 0 0, .slice none 0 0] 49))
  have g1 : Blk ((w.alloc (.cells #[.int .i64 s, .int .i64 e, .int .i64 0] 41)).alloc (.cells #[.int .i64 0, .int .i64 0, .int .i64 0, .int .i64 0, .int .i64 0, .int .i64 0, .slice none 0 0, .slice none 0 0] 49)) (w.heap.size + 1) 49 #[.int .i64 0, .int .i64 0, .int .i64 0, .int .i64 0, .int .i64 0, .int .i64 0, .slice none 0 0, .slice none 0 0] := by simpa [Nat.add_assoc] using (Blk.new (w.alloc (.cells #[.int .i64 s, .int .i64 e, .int .i64 0] 41)) 49 #[.int .i64 0, .int .i64 0, .int .i64 0, .int .i64 0, .int .i64 0, .int .i64 0, .slice none 0 0, .slice none 0 0])
  have hs0 : ((w.alloc (.cells #[.int .i64 s, .int .i64 e, .int .i64 0] 41)).alloc (.cells #[.int .i64 0, .int .i64 0, .int .i64 0, .int .i64 0, .int .i64 0, .int .i64 0, .slice none 0 0, .slice none 0 0] 49)).heap.size = w.heap.size + 2 := by simp
  go_enter Try.func10, Try.ntmps10
  go_upto_region 1 with fail
  generalize ((w.alloc (.cells #[.int .i64 s, .int .i64 e, .int .i64 0] 41)).alloc (.cells #[.int .i64 0, .int .i64 0, .int .i64 0, .int .i64 0, .int .i64 0, .int .i64 0, .slice none 0 0, .slice none 0 0] 49)) = V at *
  have c0 : V.cell? ⟨w.heap.size, 0, none⟩ = some (.int .i64 s) := g0.cell 0
  have c1 : V.cell? ⟨w.heap.size, 1, none⟩ = some (.int .i64 e) := g0.cell 1
  have c2 : V.cell? ⟨w.heap.size, 2, none⟩ = some (.int .i64 0) := g0.cell 2
  go_wp2_with fail
  refine (formed_ok s e 0 V h0 h1 h2).mono ?_
  rintro x w1 ⟨rfl, hb1⟩
  have hs1 := hb1.size
  have G0 := g0.below hb1 (by omega)
  have G1 := g1.below hb1 (by omega)
  have hbw := hb0.trans (hb1.mono hb0.size)
  clear c0 c1 c2 hb0 hb1 g0 g1
  have c0 : w1.cell? ⟨w.heap.size, 0, none⟩ = some (.int .i64 s) := G0.cell 0
  have c1 : w1.cell? ⟨w.heap.size, 1, none⟩ = some (.int .i64 e) := G0.cell 1
  have c2 : w1.cell? ⟨w.heap.size, 2, none⟩ = some (.int .i64 0) := G0.cell 2
  go_wp2_with (refine wpList_store_row rfl _ _ _ rfl (w.heap.size + 1) _ rfl rfl 49 _ G1 (by kernel_rfl) rfl (by simp [Value.oneCell']) ?_)
  refine bodyPost_ret (results_cell_tmp rfl _ _ (w.heap.size + 1) _ _ _ rfl (G1.setRow _) Try.underlying49 rfl (by kernel_rfl)) rfl ⟨rfl, below_setRow hbw (by omega) _⟩
set_option linter.unusedSimpArgs false in
set_option maxRecDepth 100000 in
set_option maxHeartbeats 4000000 in
theorem Renew_some (s e u : Int) (w : World) (h0 : 0 ≤ s ∧ s ≤ 3) (h1 : 0 ≤ e ∧ e ≤ 1073741824) (h2 : 0 ≤ u ∧ u ≤ 1073741824) (h3 : u ≠ 0) :
    Calls Try.prog 10 #[.agg #[.int .i64 s, .int .i64 e, .int .i64 u]] w fun y w' => y = .returned (.tuple #[.agg #[.int .i64 17, .int .i64 s, .int .i64 4, .int .i64 0, .int .i64 0, .int .i64 e, .slice none 0 0, .slice none 0 0], .int .i64 0]) ∧ Below w.heap.size w w' := by
  have k3 : (u == 0) = false := by rw [beq_eq_false_iff_ne]; exact h3
  have hb0 : Below w.heap.size w ((w.alloc (.cells #[.int .i64 s, .int .i64 e, .int .i64 u] 41)).alloc (.cells #[.int .i64 0, .int .i64 0, .int .i64 0, .int .i64 0, .int .i64 0, .int .i64 0, .slice none 0 0, .slice none 0 0] 49)) := (((Below.refl _ w).alloc (by simp <;> omega) _).alloc (by simp <;> omega) _)
  have g0 : Blk ((w.alloc (.cells #[.int .i64 s, .int .i64 e, .int .i64 u] 41)).alloc (.cells #[.int .i64 0, .int .i64 0, .int .i64 0, .int .i64 0, .int .i64 0, .int .i64 0, .slice none 0 0, .slice none 0 0] 49)) w.heap.size 41 #[.int .i64 s, .int .i64 e, .int .i64 u] := by simpa [Nat.add_assoc] using ((Blk.new w 41 #[.int .i64 s, .int .i64 e, .int .i64 u]).alloc (.cells #[.int .i64 0, .int .i64 0, .int .i64 0, .int .i64 0, .int .i64 0, .int .i64 0, .slice none 0 0, .slice none 0 0] 49))
  have g1 : Blk ((w.alloc (.cells #[.int .i64 s, .int .i64 e, .int .i64 u] 41)).alloc (.cells #[.int .i64 0, .int .i64 0, .int .i64 0, .int .i64 0, .int .i64 0, .int .i64 0, .slice none 0 0, .slice none 0 0] 49)) (w.heap.size + 1) 49 #[.int .i64 0, .int .i64 0, .int .i64 0, .int .i64 0, .int .i64 0, .int .i64 0, .slice none 0 0, .slice none 0 0] := by simpa [Nat.add_assoc] using (Blk.new (w.alloc (.cells #[.int .i64 s, .int .i64 e, .int .i64 u] 41)) 49 #[.int .i64 0, .int .i64 0, .int .i64 0, .int .i64 0, .int .i64 0, .int .i64 0, .slice none 0 0, .slice none 0 0])
  have hs0 : ((w.alloc (.cells #[.int .i64 s, .int .i64 e, .int .i64 u] 41)).alloc (.cells #[.int .i64 0, .int .i64 0, .int .i64 0, .int .i64 0, .int .i64 0, .int .i64 0, .slice none 0 0, .slice none 0 0] 49)).heap.size = w.heap.size + 2 := by simp
  go_enter Try.func10, Try.ntmps10
  go_upto_region 1 with fail
  generalize ((w.alloc (.cells #[.int .i64 s, .int .i64 e, .int .i64 u] 41)).alloc (.cells #[.int .i64 0, .int .i64 0, .int .i64 0, .int .i64 0, .int .i64 0, .int .i64 0, .slice none 0 0, .slice none 0 0] 49)) = V at *
  have c0 : V.cell? ⟨w.heap.size, 0, none⟩ = some (.int .i64 s) := g0.cell 0
  have c1 : V.cell? ⟨w.heap.size, 1, none⟩ = some (.int .i64 e) := g0.cell 1
  have c2 : V.cell? ⟨w.heap.size, 2, none⟩ = some (.int .i64 u) := g0.cell 2
  go_wp2_with fail
  refine (formed_ok s e u V h0 h1 h2).mono ?_
  rintro x w1 ⟨rfl, hb1⟩
  have hs1 := hb1.size
  have G0 := g0.below hb1 (by omega)
  have G1 := g1.below hb1 (by omega)
  have hbw := hb0.trans (hb1.mono hb0.size)
  clear c0 c1 c2 hb0 hb1 g0 g1
  have c0 : w1.cell? ⟨w.heap.size, 0, none⟩ = some (.int .i64 s) := G0.cell 0
  have c1 : w1.cell? ⟨w.heap.size, 1, none⟩ = some (.int .i64 e) := G0.cell 1
  have c2 : w1.cell? ⟨w.heap.size, 2, none⟩ = some (.int .i64 u) := G0.cell 2
  go_wp2_with (refine wpList_store_row rfl _ _ _ rfl (w.heap.size + 1) _ rfl rfl 49 _ G1 (by kernel_rfl) rfl (by simp [Value.oneCell']) ?_)
  refine bodyPost_ret (results_cell_tmp rfl _ _ (w.heap.size + 1) _ _ _ rfl (G1.setRow _) Try.underlying49 rfl (by kernel_rfl)) rfl ⟨rfl, below_setRow hbw (by omega) _⟩
set_option linter.unusedSimpArgs false in
set_option maxRecDepth 100000 in
set_option maxHeartbeats 4000000 in
theorem GiveUp_ok (s e u : Int) (w : World) (h0 : 0 ≤ s ∧ s ≤ 3) (h1 : 0 ≤ e ∧ e ≤ 1073741824) (h2 : 0 ≤ u ∧ u ≤ 1073741824) (h3 : e ≤ 1000000) :
    Calls Try.prog 11 #[.agg #[.int .i64 s, .int .i64 e, .int .i64 u]] w fun y w' => y = .returned (.tuple #[.agg #[.int .i64 s, .int .i64 (e + 1), .int .i64 0], .agg #[.int .i64 18, .int .i64 s, .int .i64 4, .int .i64 0, .int .i64 0, .int .i64 e, .slice none 0 0, .slice none 0 0]]) ∧ Below w.heap.size w w' := by
  have kw : IntKind.i64.wrap (e + 1) = e + 1 := IntWalk.i64_in _ (by omega)
  have km : e + 1 < 1073741824 := by omega
  have hb0 : Below w.heap.size w (((w.alloc (.cells #[.int .i64 s, .int .i64 e, .int .i64 u] 41)).alloc (.cells #[.int .i64 0, .int .i64 0, .int .i64 0] 41)).alloc (.cells #[.int .i64 0, .int .i64 0, .int .i64 0, .int .i64 0, .int .i64 0, .int .i64 0, .slice none 0 0, .slice none 0 0] 49)) := ((((Below.refl _ w).alloc (by simp <;> omega) _).alloc (by simp <;> omega) _).alloc (by simp <;> omega) _)
  have g0 : Blk (((w.alloc (.cells #[.int .i64 s, .int .i64 e, .int .i64 u] 41)).alloc (.cells #[.int .i64 0, .int .i64 0, .int .i64 0] 41)).alloc (.cells #[.int .i64 0, .int .i64 0, .int .i64 0, .int .i64 0, .int .i64 0, .int .i64 0, .slice none 0 0, .slice none 0 0] 49)) w.heap.size 41 #[.int .i64 s, .int .i64 e, .int .i64 u] := by simpa [Nat.add_assoc] using (((Blk.new w 41 #[.int .i64 s, .int .i64 e, .int .i64 u]).alloc (.cells #[.int .i64 0, .int .i64 0, .int .i64 0] 41)).alloc (.cells #[.int .i64 0, .int .i64 0, .int .i64 0, .int .i64 0, .int .i64 0, .int .i64 0, .slice none 0 0, .slice none 0 0] 49))
  have g1 : Blk (((w.alloc (.cells #[.int .i64 s, .int .i64 e, .int .i64 u] 41)).alloc (.cells #[.int .i64 0, .int .i64 0, .int .i64 0] 41)).alloc (.cells #[.int .i64 0, .int .i64 0, .int .i64 0, .int .i64 0, .int .i64 0, .int .i64 0, .slice none 0 0, .slice none 0 0] 49)) (w.heap.size + 1) 41 #[.int .i64 0, .int .i64 0, .int .i64 0] := by simpa [Nat.add_assoc] using ((Blk.new (w.alloc (.cells #[.int .i64 s, .int .i64 e, .int .i64 u] 41)) 41 #[.int .i64 0, .int .i64 0, .int .i64 0]).alloc (.cells #[.int .i64 0, .int .i64 0, .int .i64 0, .int .i64 0, .int .i64 0, .int .i64 0, .slice none 0 0, .slice none 0 0] 49))
  have g2 : Blk (((w.alloc (.cells #[.int .i64 s, .int .i64 e, .int .i64 u] 41)).alloc (.cells #[.int .i64 0, .int .i64 0, .int .i64 0] 41)).alloc (.cells #[.int .i64 0, .int .i64 0, .int .i64 0, .int .i64 0, .int .i64 0, .int .i64 0, .slice none 0 0, .slice none 0 0] 49)) (w.heap.size + 2) 49 #[.int .i64 0, .int .i64 0, .int .i64 0, .int .i64 0, .int .i64 0, .int .i64 0, .slice none 0 0, .slice none 0 0] := by simpa [Nat.add_assoc] using (Blk.new ((w.alloc (.cells #[.int .i64 s, .int .i64 e, .int .i64 u] 41)).alloc (.cells #[.int .i64 0, .int .i64 0, .int .i64 0] 41)) 49 #[.int .i64 0, .int .i64 0, .int .i64 0, .int .i64 0, .int .i64 0, .int .i64 0, .slice none 0 0, .slice none 0 0])
  have hs0 : (((w.alloc (.cells #[.int .i64 s, .int .i64 e, .int .i64 u] 41)).alloc (.cells #[.int .i64 0, .int .i64 0, .int .i64 0] 41)).alloc (.cells #[.int .i64 0, .int .i64 0, .int .i64 0, .int .i64 0, .int .i64 0, .int .i64 0, .slice none 0 0, .slice none 0 0] 49)).heap.size = w.heap.size + 3 := by simp
  go_enter Try.func11, Try.ntmps11
  go_upto_region 1 with fail
  generalize (((w.alloc (.cells #[.int .i64 s, .int .i64 e, .int .i64 u] 41)).alloc (.cells #[.int .i64 0, .int .i64 0, .int .i64 0] 41)).alloc (.cells #[.int .i64 0, .int .i64 0, .int .i64 0, .int .i64 0, .int .i64 0, .int .i64 0, .slice none 0 0, .slice none 0 0] 49)) = V at *
  have c0 : V.cell? ⟨w.heap.size, 0, none⟩ = some (.int .i64 s) := g0.cell 0
  have c1 : V.cell? ⟨w.heap.size, 1, none⟩ = some (.int .i64 e) := g0.cell 1
  have c2 : V.cell? ⟨w.heap.size, 2, none⟩ = some (.int .i64 u) := g0.cell 2
  go_wp2_with fail
  refine (formed_ok s e u V h0 h1 h2).mono ?_
  rintro x w1 ⟨rfl, hb1⟩
  have hs1 := hb1.size
  have G0 := (g0.below hb1 (by omega)).alloc (.cells #[.int .i64 18, .int .i64 s, .int .i64 4, .int .i64 0, .int .i64 0, .int .i64 e, .slice none 0 0, .slice none 0 0] 49)
  have G1 := (g1.below hb1 (by omega)).alloc (.cells #[.int .i64 18, .int .i64 s, .int .i64 4, .int .i64 0, .int .i64 0, .int .i64 e, .slice none 0 0, .slice none 0 0] 49)
  have G2 := (g2.below hb1 (by omega)).alloc (.cells #[.int .i64 18, .int .i64 s, .int .i64 4, .int .i64 0, .int .i64 0, .int .i64 e, .slice none 0 0, .slice none 0 0] 49)
  have G3 := Blk.new w1 49 #[.int .i64 18, .int .i64 s, .int .i64 4, .int .i64 0, .int .i64 0, .int .i64 e, .slice none 0 0, .slice none 0 0]
  have hbw := (hb0.trans (hb1.mono hb0.size)).alloc (by omega) (.cells #[.int .i64 18, .int .i64 s, .int .i64 4, .int .i64 0, .int .i64 0, .int .i64 e, .slice none 0 0, .slice none 0 0] 49)
  have c0 : w1.cell? ⟨w.heap.size, 0, none⟩ = some (.int .i64 s) := (g0.below hb1 (by omega)).cell 0
  have c1 : w1.cell? ⟨w.heap.size, 1, none⟩ = some (.int .i64 e) := (g0.below hb1 (by omega)).cell 1
  have hs4 : (w1.alloc (.cells #[.int .i64 18, .int .i64 s, .int .i64 4, .int .i64 0, .int .i64 0, .int .i64 e, .slice none 0 0, .slice none 0 0] 49)).heap.size = w1.heap.size + 1 := by simp
  obtain ⟨gm, hgm⟩ : ∃ gm, w1.heap.size = gm := ⟨_, rfl⟩
  clear hb0 hb1 g0 g1 g2
  go_upto_region 4 with fail
  clear c0 c1
  generalize (w1.alloc (.cells #[.int .i64 18, .int .i64 s, .int .i64 4, .int .i64 0, .int .i64 0, .int .i64 e, .slice none 0 0, .slice none 0 0] 49)) = V4 at *
  rw [hgm] at hs1 hs4 G3
  clear hgm
  have c1 : V4.cell? ⟨w.heap.size, 1, none⟩ = some (.int .i64 e) := G0.cell 1
  have c2 : V4.cell? ⟨w.heap.size, 2, none⟩ = some (.int .i64 u) := G0.cell 2
  have f1 : V4.frozen? ⟨w.heap.size, 1, none⟩ = false := G0.frozen 1
  have f2 : V4.frozen? ⟨w.heap.size, 2, none⟩ = false := G0.frozen 2
  have HS4 := Lib.hid hs4
  have hs4' : gm < V4.heap.size := by omega
  clear hs4
  go_upto_region 5 with fail
  have B0 : Blk ((V4.setCell ⟨w.heap.size, 1, none⟩ (.int .i64 (e + 1))).setCell ⟨w.heap.size, 2, none⟩ (.int .i64 0)) w.heap.size 41 #[.int .i64 s, .int .i64 (e + 1), .int .i64 0] := (G0.set_ 1 _).set_ 2 _
  have B1 : Blk ((V4.setCell ⟨w.heap.size, 1, none⟩ (.int .i64 (e + 1))).setCell ⟨w.heap.size, 2, none⟩ (.int .i64 0)) (w.heap.size + 1) 41 #[.int .i64 0, .int .i64 0, .int .i64 0] := (G1.far (by show w.heap.size + 1 ≠ w.heap.size; omega) _).far (by show w.heap.size + 1 ≠ w.heap.size; omega) _
  have B2 : Blk ((V4.setCell ⟨w.heap.size, 1, none⟩ (.int .i64 (e + 1))).setCell ⟨w.heap.size, 2, none⟩ (.int .i64 0)) (w.heap.size + 2) 49 #[.int .i64 0, .int .i64 0, .int .i64 0, .int .i64 0, .int .i64 0, .int .i64 0, .slice none 0 0, .slice none 0 0] := (G2.far (by show w.heap.size + 2 ≠ w.heap.size; omega) _).far (by show w.heap.size + 2 ≠ w.heap.size; omega) _
  have B3 : Blk ((V4.setCell ⟨w.heap.size, 1, none⟩ (.int .i64 (e + 1))).setCell ⟨w.heap.size, 2, none⟩ (.int .i64 0)) gm 49 #[.int .i64 18, .int .i64 s, .int .i64 4, .int .i64 0, .int .i64 0, .int .i64 e, .slice none 0 0, .slice none 0 0] := (G3.far (by show gm ≠ w.heap.size; omega) _).far (by show gm ≠ w.heap.size; omega) _
  have hbv := (hbw.setCell (p := ⟨w.heap.size, 1, none⟩) (Nat.le_refl _) (.int .i64 (e + 1))).setCell (p := ⟨w.heap.size, 2, none⟩) (Nat.le_refl _) (.int .i64 0)
  clear G0 G1 G2 G3 hbw c1 c2 f1 f2
  generalize ((V4.setCell ⟨w.heap.size, 1, none⟩ (.int .i64 (e + 1))).setCell ⟨w.heap.size, 2, none⟩ (.int .i64 0)) = V5 at *
  have D0 : Blk V5.drew w.heap.size 41 #[.int .i64 s, .int .i64 (e + 1), .int .i64 0] := B0
  have D1 : Blk V5.drew (w.heap.size + 1) 41 #[.int .i64 0, .int .i64 0, .int .i64 0] := B1
  have D2 : Blk V5.drew (w.heap.size + 2) 49 #[.int .i64 0, .int .i64 0, .int .i64 0, .int .i64 0, .int .i64 0, .int .i64 0, .slice none 0 0, .slice none 0 0] := B2
  have D3 : Blk V5.drew gm 49 #[.int .i64 18, .int .i64 s, .int .i64 4, .int .i64 0, .int .i64 0, .int .i64 e, .slice none 0 0, .slice none 0 0] := B3
  have E0 : Blk (V5.drew.setRow (w.heap.size + 1) #[.int .i64 s, .int .i64 (e + 1), .int .i64 0]) w.heap.size 41 #[.int .i64 s, .int .i64 (e + 1), .int .i64 0] := (setRow_other _ _ _ _ (by omega)).trans D0
  have E1 : Blk (V5.drew.setRow (w.heap.size + 1) #[.int .i64 s, .int .i64 (e + 1), .int .i64 0]) (w.heap.size + 1) 41 #[.int .i64 s, .int .i64 (e + 1), .int .i64 0] := D1.setRow _
  have E2 : Blk (V5.drew.setRow (w.heap.size + 1) #[.int .i64 s, .int .i64 (e + 1), .int .i64 0]) (w.heap.size + 2) 49 #[.int .i64 0, .int .i64 0, .int .i64 0, .int .i64 0, .int .i64 0, .int .i64 0, .slice none 0 0, .slice none 0 0] := (setRow_other _ _ _ _ (by omega)).trans D2
  have E3 : Blk (V5.drew.setRow (w.heap.size + 1) #[.int .i64 s, .int .i64 (e + 1), .int .i64 0]) gm 49 #[.int .i64 18, .int .i64 s, .int .i64 4, .int .i64 0, .int .i64 0, .int .i64 e, .slice none 0 0, .slice none 0 0] := (setRow_other _ _ _ _ (by omega)).trans D3
  have F0 : Blk ((V5.drew.setRow (w.heap.size + 1) #[.int .i64 s, .int .i64 (e + 1), .int .i64 0]).setRow (w.heap.size + 2) #[.int .i64 18, .int .i64 s, .int .i64 4, .int .i64 0, .int .i64 0, .int .i64 e, .slice none 0 0, .slice none 0 0]) w.heap.size 41 #[.int .i64 s, .int .i64 (e + 1), .int .i64 0] := (setRow_other _ _ _ _ (by omega)).trans E0
  have F1 : Blk ((V5.drew.setRow (w.heap.size + 1) #[.int .i64 s, .int .i64 (e + 1), .int .i64 0]).setRow (w.heap.size + 2) #[.int .i64 18, .int .i64 s, .int .i64 4, .int .i64 0, .int .i64 0, .int .i64 e, .slice none 0 0, .slice none 0 0]) (w.heap.size + 1) 41 #[.int .i64 s, .int .i64 (e + 1), .int .i64 0] := (setRow_other _ _ _ _ (by omega)).trans E1
  have F2 : Blk ((V5.drew.setRow (w.heap.size + 1) #[.int .i64 s, .int .i64 (e + 1), .int .i64 0]).setRow (w.heap.size + 2) #[.int .i64 18, .int .i64 s, .int .i64 4, .int .i64 0, .int .i64 0, .int .i64 e, .slice none 0 0, .slice none 0 0]) (w.heap.size + 2) 49 #[.int .i64 18, .int .i64 s, .int .i64 4, .int .i64 0, .int .i64 0, .int .i64 e, .slice none 0 0, .slice none 0 0] := E2.setRow _
  have F3 : Blk ((V5.drew.setRow (w.heap.size + 1) #[.int .i64 s, .int .i64 (e + 1), .int .i64 0]).setRow (w.heap.size + 2) #[.int .i64 18, .int .i64 s, .int .i64 4, .int .i64 0, .int .i64 0, .int .i64 e, .slice none 0 0, .slice none 0 0]) gm 49 #[.int .i64 18, .int .i64 s, .int .i64 4, .int .i64 0, .int .i64 0, .int .i64 e, .slice none 0 0, .slice none 0 0] := (setRow_other _ _ _ _ (by omega)).trans E3
  refine wp_pan (Pc := fun _ _ _ => False) (fun _ _ _ h => h.elim) ?_
  refine wp_region_tail_lit (S := fun V => V.cell? ⟨w.heap.size, 0, none⟩ = some (.int .i64 s) ∧ V.cell? ⟨w.heap.size, 1, none⟩ = some (.int .i64 (e + 1)) ∧ V.cell? ⟨w.heap.size, 2, none⟩ = some (.int .i64 0) ∧ V.cell? ⟨gm, 0, none⟩ = some (.int .i64 18) ∧ V.cell? ⟨gm, 1, none⟩ = some (.int .i64 s) ∧ V.cell? ⟨gm, 2, none⟩ = some (.int .i64 4) ∧ V.cell? ⟨gm, 3, none⟩ = some (.int .i64 0) ∧ V.cell? ⟨gm, 4, none⟩ = some (.int .i64 0) ∧ V.cell? ⟨gm, 5, none⟩ = some (.int .i64 e) ∧ V.cell? ⟨gm, 6, none⟩ = some (.slice none 0 0) ∧ V.cell? ⟨gm, 7, none⟩ = some (.slice none 0 0)) 4 (by kernel_rfl) (by kernel_rfl) ⟨D0.cell 0, D0.cell 1, D0.cell 2, D3.cell 0, D3.cell 1, D3.cell 2, D3.cell 3, D3.cell 4, D3.cell 5, D3.cell 6, D3.cell 7⟩ (fun hHeld => ?_)
  simp only [List.take, List.drop]
  refine wpAnyH_take (i := 0) (oi := _) (v := ?_) rfl (by kernel_rfl) (by kernel_rfl) (by kernel_rfl) (fun _ _ _ h => h) (Or.inl ⟨by rfl, ?_⟩) (by assumption) ?_
  rotate_left 1
  · (intro w9 hS9; (try dsimp only at hS9); go_simp <;> with_reducible rfl)
  try simp only [List.getElem_toArray, List.getElem_cons_succ, List.getElem_cons_zero, Act.put, List.setIfInBounds_toArray, List.set_cons_zero, List.set_cons_succ]
  refine wpAnyH_take (i := 1) (oi := _) (v := ?_) rfl (by kernel_rfl) (by kernel_rfl) (by kernel_rfl) (fun _ _ _ h => h) (Or.inl ⟨by rfl, ?_⟩) (by assumption) ?_
  rotate_left 1
  · (intro w9 hS9; (try dsimp only at hS9); go_simp <;> with_reducible rfl)
  try simp only [List.getElem_toArray, List.getElem_cons_succ, List.getElem_cons_zero, Act.put, List.setIfInBounds_toArray, List.set_cons_zero, List.set_cons_succ]
  refine wpAnyH_ready (rs := [2]) (by kernel_rfl) (by simp) ?_
  refine AllReadyH.cons (o := _) rfl (fun K hK => ?_) AllReadyH.nil
  try simp only [List.getElem_toArray, List.getElem_cons_succ, List.getElem_cons_zero]
  try rw [if_pos (show Region.wanted _ _ = true from rfl)]
  refine wp_store_row 41 _ _ (by rfl) (w.heap.size + 1) #[.int .i64 s, .int .i64 (e + 1), .int .i64 0] (by rfl) (by rfl) 41 _ D1 (by kernel_rfl) rfl (by simp [Value.oneCell']) ?_
  refine hK.out _ _ ⟨E0.cell 0, E0.cell 1, E0.cell 2, E3.cell 0, E3.cell 1, E3.cell 2, E3.cell 3, E3.cell 4, E3.cell 5, E3.cell 6, E3.cell 7⟩ (fun hHeld => ?_)
  clear hK K
  try simp only [List.getElem_toArray, List.getElem_cons_succ, List.getElem_cons_zero, Act.put, List.setIfInBounds_toArray, List.set_cons_zero, List.set_cons_succ]
  refine wpAnyH_ready (rs := [3]) (by kernel_rfl) (by simp) ?_
  refine AllReadyH.cons (o := _) rfl (fun K hK => ?_) AllReadyH.nil
  try simp only [List.getElem_toArray, List.getElem_cons_succ, List.getElem_cons_zero]
  try rw [if_pos (show Region.wanted _ _ = true from rfl)]
  refine wp_store_row 49 _ _ (by rfl) (w.heap.size + 2) #[.int .i64 18, .int .i64 s, .int .i64 4, .int .i64 0, .int .i64 0, .int .i64 e, .slice none 0 0, .slice none 0 0] (by rfl) (by rfl) 49 _ E2 (by kernel_rfl) rfl (by simp [Value.oneCell']) ?_
  refine hK.out _ _ ⟨F0.cell 0, F0.cell 1, F0.cell 2, F3.cell 0, F3.cell 1, F3.cell 2, F3.cell 3, F3.cell 4, F3.cell 5, F3.cell 6, F3.cell 7⟩ (fun hHeld => ?_)
  clear hK K
  try simp only [List.getElem_toArray, List.getElem_cons_succ, List.getElem_cons_zero, Act.put, List.setIfInBounds_toArray, List.set_cons_zero, List.set_cons_succ]
  refine wpAnyH_done (by kernel_rfl) ?_ _
  refine tailQ_nil (panQ_normal ?_)
  try go_wp2_with fail
  exact bodyPost_ret (results_two rfl _ _ (w.heap.size + 1) (w.heap.size + 2) 41 49 _ _ _ _ rfl F1 Try.underlying41 rfl (by kernel_rfl) rfl F2 Try.underlying49 rfl (by kernel_rfl)) rfl ⟨rfl, below_setRow (below_setRow hbv.drew (by omega) _) (by omega) _⟩
def lgE (e ep : Int) : Int := if e < ep then ep else e
def lgU (e u ep U : Int) : Int := if e < ep then U else if ep = e then max u U else u
def lrU (e u ep : Int) : Int := if e < ep then 0 else u
set_option linter.unusedSimpArgs false in
set_option maxRecDepth 100000 in
set_option maxHeartbeats 4000000 in
theorem Learn_grant (s e u sent tm mg fr nm ep : Int) (w : World) (h0 : 0 ≤ s ∧ s ≤ 3) (h1 : 0 ≤ e ∧ e ≤ 1073741824) (h2 : 0 ≤ u ∧ u ≤ 1073741824) (h3 : 0 ≤ sent ∧ sent ≤ 1000000) (h4 : 1 ≤ tm ∧ tm ≤ 100) (h5 : 0 ≤ mg ∧ mg ≤ 100) (h6 : 0 ≤ ep ∧ ep ≤ 1073741824) :
    Calls Try.prog 25 #[.agg #[.int .i64 s, .int .i64 e, .int .i64 u], .int .i64 sent, .int .i64 tm, .int .i64 mg, .agg #[.int .i64 16, .int .i64 fr, .int .i64 s, .int .i64 nm, .int .i64 tm, .int .i64 ep, .slice none 0 0, .slice none 0 0]] w fun y w' => y = .returned (.agg #[.int .i64 s, .int .i64 (lgE e ep), .int .i64 (lgU e u ep (max (sent + tm - mg) 0))]) ∧ Below w.heap.size w w' := by
  have k3 : betB sent 0 1073741824 = true := bet_true (by omega)
  have k4 : betB tm 0 1073741824 = true := bet_true (by omega)
  have k5 : betB mg 0 1073741824 = true := bet_true (by omega)
  have k6 : betB ep 0 1073741824 = true := bet_true h6
  have hb0 : Below w.heap.size w (((w.alloc (.cells #[.int .i64 s, .int .i64 e, .int .i64 u] 41)).alloc (.cells #[.int .i64 16, .int .i64 fr, .int .i64 s, .int .i64 nm, .int .i64 tm, .int .i64 ep, .slice none 0 0, .slice none 0 0] 49)).alloc (.cells #[.int .i64 0, .int .i64 0, .int .i64 0] 41)) := ((((Below.refl _ w).alloc (by simp <;> omega) _).alloc (by simp <;> omega) _).alloc (by simp <;> omega) _)
  have g0 : Blk (((w.alloc (.cells #[.int .i64 s, .int .i64 e, .int .i64 u] 41)).alloc (.cells #[.int .i64 16, .int .i64 fr, .int .i64 s, .int .i64 nm, .int .i64 tm, .int .i64 ep, .slice none 0 0, .slice none 0 0] 49)).alloc (.cells #[.int .i64 0, .int .i64 0, .int .i64 0] 41)) w.heap.size 41 #[.int .i64 s, .int .i64 e, .int .i64 u] := by simpa [Nat.add_assoc] using (((Blk.new w 41 #[.int .i64 s, .int .i64 e, .int .i64 u]).alloc (.cells #[.int .i64 16, .int .i64 fr, .int .i64 s, .int .i64 nm, .int .i64 tm, .int .i64 ep, .slice none 0 0, .slice none 0 0] 49)).alloc (.cells #[.int .i64 0, .int .i64 0, .int .i64 0] 41))
  have g1 : Blk (((w.alloc (.cells #[.int .i64 s, .int .i64 e, .int .i64 u] 41)).alloc (.cells #[.int .i64 16, .int .i64 fr, .int .i64 s, .int .i64 nm, .int .i64 tm, .int .i64 ep, .slice none 0 0, .slice none 0 0] 49)).alloc (.cells #[.int .i64 0, .int .i64 0, .int .i64 0] 41)) (w.heap.size + 1) 49 #[.int .i64 16, .int .i64 fr, .int .i64 s, .int .i64 nm, .int .i64 tm, .int .i64 ep, .slice none 0 0, .slice none 0 0] := by simpa [Nat.add_assoc] using ((Blk.new (w.alloc (.cells #[.int .i64 s, .int .i64 e, .int .i64 u] 41)) 49 #[.int .i64 16, .int .i64 fr, .int .i64 s, .int .i64 nm, .int .i64 tm, .int .i64 ep, .slice none 0 0, .slice none 0 0]).alloc (.cells #[.int .i64 0, .int .i64 0, .int .i64 0] 41))
  have g2 : Blk (((w.alloc (.cells #[.int .i64 s, .int .i64 e, .int .i64 u] 41)).alloc (.cells #[.int .i64 16, .int .i64 fr, .int .i64 s, .int .i64 nm, .int .i64 tm, .int .i64 ep, .slice none 0 0, .slice none 0 0] 49)).alloc (.cells #[.int .i64 0, .int .i64 0, .int .i64 0] 41)) (w.heap.size + 2) 41 #[.int .i64 0, .int .i64 0, .int .i64 0] := by simpa [Nat.add_assoc] using (Blk.new ((w.alloc (.cells #[.int .i64 s, .int .i64 e, .int .i64 u] 41)).alloc (.cells #[.int .i64 16, .int .i64 fr, .int .i64 s, .int .i64 nm, .int .i64 tm, .int .i64 ep, .slice none 0 0, .slice none 0 0] 49)) 41 #[.int .i64 0, .int .i64 0, .int .i64 0])
  have hs0 : (((w.alloc (.cells #[.int .i64 s, .int .i64 e, .int .i64 u] 41)).alloc (.cells #[.int .i64 16, .int .i64 fr, .int .i64 s, .int .i64 nm, .int .i64 tm, .int .i64 ep, .slice none 0 0, .slice none 0 0] 49)).alloc (.cells #[.int .i64 0, .int .i64 0, .int .i64 0] 41)).heap.size = w.heap.size + 3 := by simp
  go_enter Try.func25, Try.ntmps25
  go_upto_region 1 with fail
  generalize (((w.alloc (.cells #[.int .i64 s, .int .i64 e, .int .i64 u] 41)).alloc (.cells #[.int .i64 16, .int .i64 fr, .int .i64 s, .int .i64 nm, .int .i64 tm, .int .i64 ep, .slice none 0 0, .slice none 0 0] 49)).alloc (.cells #[.int .i64 0, .int .i64 0, .int .i64 0] 41)) = V at *
  have c0 : V.cell? ⟨w.heap.size, 0, none⟩ = some (.int .i64 s) := g0.cell 0
  have c1 : V.cell? ⟨w.heap.size, 1, none⟩ = some (.int .i64 e) := g0.cell 1
  have c2 : V.cell? ⟨w.heap.size, 2, none⟩ = some (.int .i64 u) := g0.cell 2
  go_wp2_with fail
  refine (formed_ok s e u V h0 h1 h2).mono ?_
  rintro x w1 ⟨rfl, hb1⟩
  have hs1 := hb1.size
  have G0 := g0.below hb1 (by omega)
  have G1 := g1.below hb1 (by omega)
  have G2 := g2.below hb1 (by omega)
  have hbw := hb0.trans (hb1.mono hb0.size)
  clear c0 c1 c2 hb0 hb1 g0 g1 g2
  have c0 : w1.cell? ⟨w.heap.size, 0, none⟩ = some (.int .i64 s) := G0.cell 0
  have c1 : w1.cell? ⟨w.heap.size, 1, none⟩ = some (.int .i64 e) := G0.cell 1
  have c2 : w1.cell? ⟨w.heap.size, 2, none⟩ = some (.int .i64 u) := G0.cell 2
  have m0 : w1.cell? ⟨w.heap.size + 1, 0, none⟩ = some (.int .i64 (16)) := G1.cell 0
  have m1 : w1.cell? ⟨w.heap.size + 1, 1, none⟩ = some (.int .i64 (fr)) := G1.cell 1
  have m2 : w1.cell? ⟨w.heap.size + 1, 2, none⟩ = some (.int .i64 (s)) := G1.cell 2
  have m3 : w1.cell? ⟨w.heap.size + 1, 3, none⟩ = some (.int .i64 (nm)) := G1.cell 3
  have m4 : w1.cell? ⟨w.heap.size + 1, 4, none⟩ = some (.int .i64 (tm)) := G1.cell 4
  have m5 : w1.cell? ⟨w.heap.size + 1, 5, none⟩ = some (.int .i64 (ep)) := G1.cell 5
  go_wp2_with fail
  refine (wtime_any sent w1).mono ?_
  rintro x w1' ⟨rfl, rfl⟩
  rw [k3]
  go_wp2_with fail
  refine (wtime_any tm w1).mono ?_
  rintro x w1' ⟨rfl, rfl⟩
  rw [k4]
  go_wp2_with fail
  refine (wtime_any mg w1).mono ?_
  rintro x w1' ⟨rfl, rfl⟩
  rw [k5]
  go_wp2_with fail
  refine (wtime_any ep w1).mono ?_
  rintro x w1' ⟨rfl, rfl⟩
  rw [k6]
  have kw1 : IntKind.i64.wrap (sent + tm) = sent + tm := IntWalk.i64_in _ (by omega)
  have kw2 : IntKind.i64.wrap (sent + tm - mg) = sent + tm - mg := IntWalk.i64_in _ (by omega)
  obtain ⟨X, hX⟩ : ∃ X, sent + tm - mg = X := ⟨_, rfl⟩
  obtain ⟨U, hU⟩ : ∃ U, max X 0 = U := ⟨_, rfl⟩
  have hXb : X ≤ 2000000 := by omega
  have HU := Lib.hid (And.intro hX hU)
  have kt : 0 < tm := by omega
  go_upto_region 4 with fail
  go_upto_if 56 with (fail)
  go_cut [13] from 55 to 72 (fun s13 wx => s13 = .int .i64 U ∧ wx = w1)
  case first =>
    rw [hX] at kw2
    rcases Int.lt_trichotomy X 0 with hlt | hlt | hlt
    · have hv : U = 0 := by rw [← hU, Int.max_eq_right (by omega)]
      clear hU HU
      go_wp2_with fail
      go_meet
      exact ⟨by rw [hv], rfl⟩
    · have hv : U = 0 := by rw [← hU, Int.max_eq_right (by omega)]
      clear hU HU
      go_wp2_with fail
      go_meet
      exact ⟨by rw [hv], rfl⟩
    · have hv : U = X := by rw [← hU, Int.max_eq_left (by omega)]
      have hlt9 : X < 1073741824 := by omega
      clear hU HU
      go_wp2_with fail
      go_meet
      exact ⟨by rw [hv], rfl⟩
  case rest =>
    obtain ⟨rfl, hwx⟩ := hcut
    subst wc
    clear kw1 kw2 hX hU hXb
    have f1 : w1.frozen? ⟨w.heap.size, 1, none⟩ = false := G0.frozen 1
    have f2 : w1.frozen? ⟨w.heap.size, 2, none⟩ = false := G0.frozen 2
    rcases Int.lt_trichotomy e ep with hlt | hlt | hlt
    · have hE : lgE e ep = ep := by unfold lgE; rw [if_pos hlt]
      have hV : lgU e u ep U = U := by unfold lgU; rw [if_pos hlt]
      have HEV := Lib.hid (And.intro hE hV)
      clear hE hV
      go_wp2_with (refine wpList_store_row rfl _ _ _ rfl (w.heap.size + 2) _ rfl rfl 41 _ ((G2.far (p := ⟨w.heap.size, 1, none⟩) (by show w.heap.size + 2 ≠ w.heap.size; omega) (.int .i64 ep)).far (p := ⟨w.heap.size, 2, none⟩) (by show w.heap.size + 2 ≠ w.heap.size; omega) (.int .i64 U)) (by kernel_rfl) rfl (by simp [Value.oneCell']) ?_)
      refine bodyPost_ret (results_one rfl _ _ (w.heap.size + 2) _ _ _ rfl (((G2.far (p := ⟨w.heap.size, 1, none⟩) (by show w.heap.size + 2 ≠ w.heap.size; omega) (.int .i64 ep)).far (p := ⟨w.heap.size, 2, none⟩) (by show w.heap.size + 2 ≠ w.heap.size; omega) (.int .i64 U)).setRow _) Try.underlying41 rfl (by kernel_rfl)) rfl ⟨?_, below_setRow ((hbw.setCell (p := ⟨w.heap.size, 1, none⟩) (Nat.le_refl _) (.int .i64 ep)).setCell (p := ⟨w.heap.size, 2, none⟩) (Nat.le_refl _) (.int .i64 U)) (by omega) _⟩
      rw [HEV.out.1, HU.out.1, HU.out.2, HEV.out.2]
    · have hE : lgE e ep = e := by unfold lgE; rw [if_neg (by omega)]
      have hV : lgU e u ep U = max u U := by unfold lgU; rw [if_neg (by omega), if_pos hlt.symm]
      have HEV := Lib.hid (And.intro hE hV)
      clear hE hV
      subst hlt
      have kn : ¬ e < e := by omega
      rcases Int.lt_trichotomy u U with h9 | h9 | h9
      · have hm : max u U = U := Int.max_eq_right (by omega)
        have HM := Lib.hid hm
        clear hm
        go_wp2_with (refine wpList_store_row rfl _ _ _ rfl (w.heap.size + 2) _ rfl rfl 41 _ (G2.far (p := ⟨w.heap.size, 2, none⟩) (by show w.heap.size + 2 ≠ w.heap.size; omega) (.int .i64 U)) (by kernel_rfl) rfl (by simp [Value.oneCell']) ?_)
        refine bodyPost_ret (results_one rfl _ _ (w.heap.size + 2) _ _ _ rfl ((G2.far (p := ⟨w.heap.size, 2, none⟩) (by show w.heap.size + 2 ≠ w.heap.size; omega) (.int .i64 U)).setRow _) Try.underlying41 rfl (by kernel_rfl)) rfl ⟨?_, below_setRow (hbw.setCell (p := ⟨w.heap.size, 2, none⟩) (Nat.le_refl _) (.int .i64 U)) (by omega) _⟩
        rw [HEV.out.1, HU.out.1, HU.out.2, HEV.out.2, HM.out]
      · have hm : max u U = U := Int.max_eq_right (by omega)
        have HM := Lib.hid hm
        clear hm
        subst h9
        go_wp2_with (refine wpList_store_row rfl _ _ _ rfl (w.heap.size + 2) _ rfl rfl 41 _ (G2.far (p := ⟨w.heap.size, 2, none⟩) (by show w.heap.size + 2 ≠ w.heap.size; omega) (.int .i64 u)) (by kernel_rfl) rfl (by simp [Value.oneCell']) ?_)
        refine bodyPost_ret (results_one rfl _ _ (w.heap.size + 2) _ _ _ rfl ((G2.far (p := ⟨w.heap.size, 2, none⟩) (by show w.heap.size + 2 ≠ w.heap.size; omega) (.int .i64 u)).setRow _) Try.underlying41 rfl (by kernel_rfl)) rfl ⟨?_, below_setRow (hbw.setCell (p := ⟨w.heap.size, 2, none⟩) (Nat.le_refl _) (.int .i64 u)) (by omega) _⟩
        rw [HEV.out.1, HU.out.1, HU.out.2, HEV.out.2, HM.out]
      · have hm : max u U = u := Int.max_eq_left (by omega)
        have HM := Lib.hid hm
        clear hm
        go_wp2_with (refine wpList_store_row rfl _ _ _ rfl (w.heap.size + 2) _ rfl rfl 41 _ (G2.far (p := ⟨w.heap.size, 2, none⟩) (by show w.heap.size + 2 ≠ w.heap.size; omega) (.int .i64 u)) (by kernel_rfl) rfl (by simp [Value.oneCell']) ?_)
        refine bodyPost_ret (results_one rfl _ _ (w.heap.size + 2) _ _ _ rfl ((G2.far (p := ⟨w.heap.size, 2, none⟩) (by show w.heap.size + 2 ≠ w.heap.size; omega) (.int .i64 u)).setRow _) Try.underlying41 rfl (by kernel_rfl)) rfl ⟨?_, below_setRow (hbw.setCell (p := ⟨w.heap.size, 2, none⟩) (Nat.le_refl _) (.int .i64 u)) (by omega) _⟩
        rw [HEV.out.1, HU.out.1, HU.out.2, HEV.out.2, HM.out]
    · have hE : lgE e ep = e := by unfold lgE; rw [if_neg (by omega)]
      have hV : lgU e u ep U = u := by unfold lgU; rw [if_neg (by omega), if_neg (by omega)]
      have HEV := Lib.hid (And.intro hE hV)
      clear hE hV
      have kq : (ep == e) = false := by rw [beq_eq_false_iff_ne]; omega
      go_wp2_with (refine wpList_store_row rfl _ _ _ rfl (w.heap.size + 2) _ rfl rfl 41 _ G2 (by kernel_rfl) rfl (by simp [Value.oneCell']) ?_)
      refine bodyPost_ret (results_one rfl _ _ (w.heap.size + 2) _ _ _ rfl (G2.setRow _) Try.underlying41 rfl (by kernel_rfl)) rfl ⟨?_, below_setRow hbw (by omega) _⟩
      rw [HEV.out.1, HU.out.1, HU.out.2, HEV.out.2]
set_option linter.unusedSimpArgs false in
set_option maxRecDepth 100000 in
set_option maxHeartbeats 4000000 in
theorem Learn_refuse (s e u sent tm mg fr nm ep : Int) (w : World) (h0 : 0 ≤ s ∧ s ≤ 3) (h1 : 0 ≤ e ∧ e ≤ 1073741824) (h2 : 0 ≤ u ∧ u ≤ 1073741824) (h3 : 0 ≤ sent ∧ sent ≤ 1000000) (h4 : 1 ≤ tm ∧ tm ≤ 100) (h5 : 0 ≤ mg ∧ mg ≤ 100) (h6 : 0 ≤ ep ∧ ep ≤ 1073741824) :
    Calls Try.prog 25 #[.agg #[.int .i64 s, .int .i64 e, .int .i64 u], .int .i64 sent, .int .i64 tm, .int .i64 mg, .agg #[.int .i64 12, .int .i64 fr, .int .i64 s, .int .i64 nm, .int .i64 0, .int .i64 ep, .slice none 0 0, .slice none 0 0]] w fun y w' => y = .returned (.agg #[.int .i64 s, .int .i64 e, .int .i64 (lrU e u ep)]) ∧ Below w.heap.size w w' := by
  have k3 : betB sent 0 1073741824 = true := bet_true (by omega)
  have k4 : betB tm 0 1073741824 = true := bet_true (by omega)
  have k5 : betB mg 0 1073741824 = true := bet_true (by omega)
  have k6 : betB ep 0 1073741824 = true := bet_true h6
  have hb0 : Below w.heap.size w (((w.alloc (.cells #[.int .i64 s, .int .i64 e, .int .i64 u] 41)).alloc (.cells #[.int .i64 12, .int .i64 fr, .int .i64 s, .int .i64 nm, .int .i64 0, .int .i64 ep, .slice none 0 0, .slice none 0 0] 49)).alloc (.cells #[.int .i64 0, .int .i64 0, .int .i64 0] 41)) := ((((Below.refl _ w).alloc (by simp <;> omega) _).alloc (by simp <;> omega) _).alloc (by simp <;> omega) _)
  have g0 : Blk (((w.alloc (.cells #[.int .i64 s, .int .i64 e, .int .i64 u] 41)).alloc (.cells #[.int .i64 12, .int .i64 fr, .int .i64 s, .int .i64 nm, .int .i64 0, .int .i64 ep, .slice none 0 0, .slice none 0 0] 49)).alloc (.cells #[.int .i64 0, .int .i64 0, .int .i64 0] 41)) w.heap.size 41 #[.int .i64 s, .int .i64 e, .int .i64 u] := by simpa [Nat.add_assoc] using (((Blk.new w 41 #[.int .i64 s, .int .i64 e, .int .i64 u]).alloc (.cells #[.int .i64 12, .int .i64 fr, .int .i64 s, .int .i64 nm, .int .i64 0, .int .i64 ep, .slice none 0 0, .slice none 0 0] 49)).alloc (.cells #[.int .i64 0, .int .i64 0, .int .i64 0] 41))
  have g1 : Blk (((w.alloc (.cells #[.int .i64 s, .int .i64 e, .int .i64 u] 41)).alloc (.cells #[.int .i64 12, .int .i64 fr, .int .i64 s, .int .i64 nm, .int .i64 0, .int .i64 ep, .slice none 0 0, .slice none 0 0] 49)).alloc (.cells #[.int .i64 0, .int .i64 0, .int .i64 0] 41)) (w.heap.size + 1) 49 #[.int .i64 12, .int .i64 fr, .int .i64 s, .int .i64 nm, .int .i64 0, .int .i64 ep, .slice none 0 0, .slice none 0 0] := by simpa [Nat.add_assoc] using ((Blk.new (w.alloc (.cells #[.int .i64 s, .int .i64 e, .int .i64 u] 41)) 49 #[.int .i64 12, .int .i64 fr, .int .i64 s, .int .i64 nm, .int .i64 0, .int .i64 ep, .slice none 0 0, .slice none 0 0]).alloc (.cells #[.int .i64 0, .int .i64 0, .int .i64 0] 41))
  have g2 : Blk (((w.alloc (.cells #[.int .i64 s, .int .i64 e, .int .i64 u] 41)).alloc (.cells #[.int .i64 12, .int .i64 fr, .int .i64 s, .int .i64 nm, .int .i64 0, .int .i64 ep, .slice none 0 0, .slice none 0 0] 49)).alloc (.cells #[.int .i64 0, .int .i64 0, .int .i64 0] 41)) (w.heap.size + 2) 41 #[.int .i64 0, .int .i64 0, .int .i64 0] := by simpa [Nat.add_assoc] using (Blk.new ((w.alloc (.cells #[.int .i64 s, .int .i64 e, .int .i64 u] 41)).alloc (.cells #[.int .i64 12, .int .i64 fr, .int .i64 s, .int .i64 nm, .int .i64 0, .int .i64 ep, .slice none 0 0, .slice none 0 0] 49)) 41 #[.int .i64 0, .int .i64 0, .int .i64 0])
  have hs0 : (((w.alloc (.cells #[.int .i64 s, .int .i64 e, .int .i64 u] 41)).alloc (.cells #[.int .i64 12, .int .i64 fr, .int .i64 s, .int .i64 nm, .int .i64 0, .int .i64 ep, .slice none 0 0, .slice none 0 0] 49)).alloc (.cells #[.int .i64 0, .int .i64 0, .int .i64 0] 41)).heap.size = w.heap.size + 3 := by simp
  go_enter Try.func25, Try.ntmps25
  go_upto_region 1 with fail
  generalize (((w.alloc (.cells #[.int .i64 s, .int .i64 e, .int .i64 u] 41)).alloc (.cells #[.int .i64 12, .int .i64 fr, .int .i64 s, .int .i64 nm, .int .i64 0, .int .i64 ep, .slice none 0 0, .slice none 0 0] 49)).alloc (.cells #[.int .i64 0, .int .i64 0, .int .i64 0] 41)) = V at *
  have c0 : V.cell? ⟨w.heap.size, 0, none⟩ = some (.int .i64 s) := g0.cell 0
  have c1 : V.cell? ⟨w.heap.size, 1, none⟩ = some (.int .i64 e) := g0.cell 1
  have c2 : V.cell? ⟨w.heap.size, 2, none⟩ = some (.int .i64 u) := g0.cell 2
  go_wp2_with fail
  refine (formed_ok s e u V h0 h1 h2).mono ?_
  rintro x w1 ⟨rfl, hb1⟩
  have hs1 := hb1.size
  have G0 := g0.below hb1 (by omega)
  have G1 := g1.below hb1 (by omega)
  have G2 := g2.below hb1 (by omega)
  have hbw := hb0.trans (hb1.mono hb0.size)
  clear c0 c1 c2 hb0 hb1 g0 g1 g2
  have c0 : w1.cell? ⟨w.heap.size, 0, none⟩ = some (.int .i64 s) := G0.cell 0
  have c1 : w1.cell? ⟨w.heap.size, 1, none⟩ = some (.int .i64 e) := G0.cell 1
  have c2 : w1.cell? ⟨w.heap.size, 2, none⟩ = some (.int .i64 u) := G0.cell 2
  have m0 : w1.cell? ⟨w.heap.size + 1, 0, none⟩ = some (.int .i64 (12)) := G1.cell 0
  have m1 : w1.cell? ⟨w.heap.size + 1, 1, none⟩ = some (.int .i64 (fr)) := G1.cell 1
  have m2 : w1.cell? ⟨w.heap.size + 1, 2, none⟩ = some (.int .i64 (s)) := G1.cell 2
  have m3 : w1.cell? ⟨w.heap.size + 1, 3, none⟩ = some (.int .i64 (nm)) := G1.cell 3
  have m4 : w1.cell? ⟨w.heap.size + 1, 4, none⟩ = some (.int .i64 (0)) := G1.cell 4
  have m5 : w1.cell? ⟨w.heap.size + 1, 5, none⟩ = some (.int .i64 (ep)) := G1.cell 5
  go_wp2_with fail
  refine (wtime_any sent w1).mono ?_
  rintro x w1' ⟨rfl, rfl⟩
  rw [k3]
  go_wp2_with fail
  refine (wtime_any tm w1).mono ?_
  rintro x w1' ⟨rfl, rfl⟩
  rw [k4]
  go_wp2_with fail
  refine (wtime_any mg w1).mono ?_
  rintro x w1' ⟨rfl, rfl⟩
  rw [k5]
  go_wp2_with fail
  refine (wtime_any ep w1).mono ?_
  rintro x w1' ⟨rfl, rfl⟩
  rw [k6]
  have kw1 : IntKind.i64.wrap (sent - mg) = sent - mg := IntWalk.i64_in _ (by omega)
  have kw0 : IntKind.i64.wrap sent = sent := IntWalk.i64_in _ (by omega)
  obtain ⟨X, hX⟩ : ∃ X, sent - mg = X := ⟨_, rfl⟩
  have hXb : X ≤ 2000000 := by omega
  have kt : 0 < tm := by omega
  go_upto_region 4 with fail
  go_upto_if 56 with (fail)
  go_cut [13] from 55 to 72 (fun s13 wx => ∃ U, s13 = .int .i64 U ∧ wx = w1)
  case first =>
    rw [hX] at kw1
    rcases Int.lt_trichotomy X 0 with hlt | hlt | hlt
    · go_wp2_with fail
      go_meet
      exact ⟨_, rfl, rfl⟩
    · go_wp2_with fail
      go_meet
      exact ⟨_, rfl, rfl⟩
    · go_wp2_with fail
      go_meet
      exact ⟨_, rfl, rfl⟩
  case rest =>
    obtain ⟨U, rfl, hwx⟩ := hcut
    subst wc
    clear kw1 hX hXb
    have f2 : w1.frozen? ⟨w.heap.size, 2, none⟩ = false := G0.frozen 2
    by_cases hlt : e < ep
    · have hV : lrU e u ep = 0 := by unfold lrU; rw [if_pos hlt]
      have HEV := Lib.hid hV
      clear hV
      go_wp2_with (refine wpList_store_row rfl _ _ _ rfl (w.heap.size + 2) _ rfl rfl 41 _ (G2.far (p := ⟨w.heap.size, 2, none⟩) (by show w.heap.size + 2 ≠ w.heap.size; omega) (.int .i64 0)) (by kernel_rfl) rfl (by simp [Value.oneCell']) ?_)
      refine bodyPost_ret (results_one rfl _ _ (w.heap.size + 2) _ _ _ rfl ((G2.far (p := ⟨w.heap.size, 2, none⟩) (by show w.heap.size + 2 ≠ w.heap.size; omega) (.int .i64 0)).setRow _) Try.underlying41 rfl (by kernel_rfl)) rfl ⟨by rw [HEV.out], below_setRow (hbw.setCell (p := ⟨w.heap.size, 2, none⟩) (Nat.le_refl _) (.int .i64 0)) (by omega) _⟩
    · have hV : lrU e u ep = u := by unfold lrU; rw [if_neg hlt]
      have HEV := Lib.hid hV
      clear hV
      go_wp2_with (refine wpList_store_row rfl _ _ _ rfl (w.heap.size + 2) _ rfl rfl 41 _ G2 (by kernel_rfl) rfl (by simp [Value.oneCell']) ?_)
      refine bodyPost_ret (results_one rfl _ _ (w.heap.size + 2) _ _ _ rfl (G2.setRow _) Try.underlying41 rfl (by kernel_rfl)) rfl ⟨by rw [HEV.out], below_setRow hbw (by omega) _⟩
end Go.Proofs.Ytggaaajkbnhofaa
