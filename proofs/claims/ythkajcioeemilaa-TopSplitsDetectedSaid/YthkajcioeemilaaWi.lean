/- The walks of Isolate and Promote. Conditions: a site in order, the operation allowed. -/
import Derived.Test.YthkajcioeemilaaWh
import Derived.Test.YthkajcioeemilaaLibU
namespace Go.Proofs.Ythkajcioeemilaa
open Go.RowKit
set_option linter.unusedSimpArgs false in
set_option maxRecDepth 100000 in
set_option maxHeartbeats 8000000 in
theorem Isolate_ok (s : Si) (A : Option Addr) (c : Nat) (w : World) (hR : SiR w A s) (h : SiOk s) (hr : s.role = 2) : Calls Try.prog 9 #[.agg (siV s A c)] w (SiRet w { s with role := 3, src := -1 }) := by
  obtain ⟨num, role, ep, ap, l, src, al, co⟩ := s
  dsimp only at hr
  subst hr
  have g1 : Blk ((w.alloc (.cells #[.int .i64 num, .int .i64 2, .int .i64 ep, .int .i64 ap, .slice A l.length c, .int .i64 src, .bool al, .bool co] 34)).alloc (.cells #[.int .i64 0, .int .i64 0, .int .i64 0, .int .i64 0, .slice none 0 0, .int .i64 0, .bool false, .bool false] 34)) w.heap.size 34 #[.int .i64 num, .int .i64 2, .int .i64 ep, .int .i64 ap, .slice A l.length c, .int .i64 src, .bool al, .bool co] := (Blk.new w 34 #[.int .i64 num, .int .i64 2, .int .i64 ep, .int .i64 ap, .slice A l.length c, .int .i64 src, .bool al, .bool co]).alloc _
  have g2 := Blk.new (w.alloc (.cells #[.int .i64 num, .int .i64 2, .int .i64 ep, .int .i64 ap, .slice A l.length c, .int .i64 src, .bool al, .bool co] 34)) 34 #[.int .i64 0, .int .i64 0, .int .i64 0, .int .i64 0, .slice none 0 0, .int .i64 0, .bool false, .bool false]
  rw [World.size_alloc] at g2
  have hbV : Below w.heap.size w ((w.alloc (.cells #[.int .i64 num, .int .i64 2, .int .i64 ep, .int .i64 ap, .slice A l.length c, .int .i64 src, .bool al, .bool co] 34)).alloc (.cells #[.int .i64 0, .int .i64 0, .int .i64 0, .int .i64 0, .slice none 0 0, .int .i64 0, .bool false, .bool false] 34)) := ((Below.refl _ w).alloc (Nat.le_refl _) _).alloc (by simp) _
  have hsV : ((w.alloc (.cells #[.int .i64 num, .int .i64 2, .int .i64 ep, .int .i64 ap, .slice A l.length c, .int .i64 src, .bool al, .bool co] 34)).alloc (.cells #[.int .i64 0, .int .i64 0, .int .i64 0, .int .i64 0, .slice none 0 0, .int .i64 0, .bool false, .bool false] 34)).heap.size = w.heap.size + 2 := by simp
  have HX := Lib.hid (And.intro hR h)
  have HV := Lib.hid (And.intro g1 (And.intro g2 (And.intro hbV hsV)))
  clear hR h g1 g2 hbV hsV
  unfold siV
  dsimp only
  go_enter Try.func9, Try.ntmps9
  go_upto_region 1 with fail
  generalize ((w.alloc (.cells #[.int .i64 num, .int .i64 2, .int .i64 ep, .int .i64 ap, .slice A l.length c, .int .i64 src, .bool al, .bool co] 34)).alloc (.cells #[.int .i64 0, .int .i64 0, .int .i64 0, .int .i64 0, .slice none 0 0, .int .i64 0, .bool false, .bool false] 34)) = V at *
  have hB1 := HV.out.1
  have x0 : V.cell? ⟨w.heap.size, 0, none⟩ = some (.int .i64 num) := hB1.cell 0
  have x1 : V.cell? ⟨w.heap.size, 1, none⟩ = some (.int .i64 2) := hB1.cell 1
  have x2 : V.cell? ⟨w.heap.size, 2, none⟩ = some (.int .i64 ep) := hB1.cell 2
  have x3 : V.cell? ⟨w.heap.size, 3, none⟩ = some (.int .i64 ap) := hB1.cell 3
  have x4 : V.cell? ⟨w.heap.size, 4, none⟩ = some (.slice A l.length c) := hB1.cell 4
  have x5 : V.cell? ⟨w.heap.size, 5, none⟩ = some (.int .i64 src) := hB1.cell 5
  have x6 : V.cell? ⟨w.heap.size, 6, none⟩ = some (.bool al) := hB1.cell 6
  have x7 : V.cell? ⟨w.heap.size, 7, none⟩ = some (.bool co) := hB1.cell 7
  clear hB1
  have hl1 := HV.out.1.lt
  have hl2 := HV.out.2.1.lt
  go_wp2_with fail
  refine (begin_ok ⟨num, 2, ep, ap, l, src, al, co⟩ A c V (HX.out.1.up HV.out.2.2.1) HX.out.2).mono ?_
  rintro z w1 ⟨tb, rfl, hT⟩
  have hB1 := HV.out.1.below hT.bel hl1
  have HT := Lib.hid hT
  clear hT x0 x1 x2 x3 x4 x5 x6 x7
  have x0 : w1.cell? ⟨w.heap.size, 0, none⟩ = some (.int .i64 num) := hB1.cell 0
  have x1 : w1.cell? ⟨w.heap.size, 1, none⟩ = some (.int .i64 2) := hB1.cell 1
  have x2 : w1.cell? ⟨w.heap.size, 2, none⟩ = some (.int .i64 ep) := hB1.cell 2
  have x3 : w1.cell? ⟨w.heap.size, 3, none⟩ = some (.int .i64 ap) := hB1.cell 3
  have x4 : w1.cell? ⟨w.heap.size, 4, none⟩ = some (.slice A l.length c) := hB1.cell 4
  have x5 : w1.cell? ⟨w.heap.size, 5, none⟩ = some (.int .i64 src) := hB1.cell 5
  have x6 : w1.cell? ⟨w.heap.size, 6, none⟩ = some (.bool al) := hB1.cell 6
  have x7 : w1.cell? ⟨w.heap.size, 7, none⟩ = some (.bool co) := hB1.cell 7
  clear hB1
  go_wp2_with fail
  refine (demand_ok tb 18 w1).mono ?_
  rintro _ _ ⟨rfl, rfl⟩
  go_wp2_with fail
  refine (become_ok V w1 tb ⟨num, 2, ep, ap, l, src, al, co⟩ 3 ep (-1) HT.out).mono ?_
  rintro z w2 ⟨rfl, hT⟩
  clear HT
  have hB1 := HV.out.1.below hT.bel hl1
  have HT := Lib.hid hT
  clear hT x0 x1 x2 x3 x4 x5 x6 x7
  have x0 : w2.cell? ⟨w.heap.size, 0, none⟩ = some (.int .i64 num) := hB1.cell 0
  have x1 : w2.cell? ⟨w.heap.size, 1, none⟩ = some (.int .i64 2) := hB1.cell 1
  have x2 : w2.cell? ⟨w.heap.size, 2, none⟩ = some (.int .i64 ep) := hB1.cell 2
  have x3 : w2.cell? ⟨w.heap.size, 3, none⟩ = some (.int .i64 ap) := hB1.cell 3
  have x4 : w2.cell? ⟨w.heap.size, 4, none⟩ = some (.slice A l.length c) := hB1.cell 4
  have x5 : w2.cell? ⟨w.heap.size, 5, none⟩ = some (.int .i64 src) := hB1.cell 5
  have x6 : w2.cell? ⟨w.heap.size, 6, none⟩ = some (.bool al) := hB1.cell 6
  have x7 : w2.cell? ⟨w.heap.size, 7, none⟩ = some (.bool co) := hB1.cell 7
  clear hB1
  go_wp2_with fail
  refine (end_ok V w2 tb _ HT.out).mono ?_
  rintro z w9 ⟨⟨A9, c9, rfl, hR9, hN9⟩, hb9⟩
  unfold siV
  dsimp only
  have hG := HV.out.2.1.below hb9 hl2
  have HE := Lib.hid (And.intro hR9 (And.intro hN9 (And.intro hb9 hG)))
  clear hR9 hN9 hb9 hG x0 x1 x2 x3 x4 x5 x6 x7
  have y0 : w9.cell? ⟨w.heap.size + 1, 0, none⟩ = some (.int .i64 0) := HE.out.2.2.2.cell 0
  have z0 : w9.frozen? ⟨w.heap.size + 1, 0, none⟩ = false := HE.out.2.2.2.frozen 0
  have y1 : w9.cell? ⟨w.heap.size + 1, 1, none⟩ = some (.int .i64 0) := HE.out.2.2.2.cell 1
  have z1 : w9.frozen? ⟨w.heap.size + 1, 1, none⟩ = false := HE.out.2.2.2.frozen 1
  have y2 : w9.cell? ⟨w.heap.size + 1, 2, none⟩ = some (.int .i64 0) := HE.out.2.2.2.cell 2
  have z2 : w9.frozen? ⟨w.heap.size + 1, 2, none⟩ = false := HE.out.2.2.2.frozen 2
  have y3 : w9.cell? ⟨w.heap.size + 1, 3, none⟩ = some (.int .i64 0) := HE.out.2.2.2.cell 3
  have z3 : w9.frozen? ⟨w.heap.size + 1, 3, none⟩ = false := HE.out.2.2.2.frozen 3
  have y4 : w9.cell? ⟨w.heap.size + 1, 4, none⟩ = some (.slice none 0 0) := HE.out.2.2.2.cell 4
  have z4 : w9.frozen? ⟨w.heap.size + 1, 4, none⟩ = false := HE.out.2.2.2.frozen 4
  have y5 : w9.cell? ⟨w.heap.size + 1, 5, none⟩ = some (.int .i64 0) := HE.out.2.2.2.cell 5
  have z5 : w9.frozen? ⟨w.heap.size + 1, 5, none⟩ = false := HE.out.2.2.2.frozen 5
  have y6 : w9.cell? ⟨w.heap.size + 1, 6, none⟩ = some (.bool false) := HE.out.2.2.2.cell 6
  have z6 : w9.frozen? ⟨w.heap.size + 1, 6, none⟩ = false := HE.out.2.2.2.frozen 6
  have y7 : w9.cell? ⟨w.heap.size + 1, 7, none⟩ = some (.bool false) := HE.out.2.2.2.cell 7
  have z7 : w9.frozen? ⟨w.heap.size + 1, 7, none⟩ = false := HE.out.2.2.2.frozen 7
  have hfar : ∀ ad, A9 = some ad → ad.block ≠ w.heap.size + 1 := fun ad h9 => by
    have := HE.out.2.1 ad h9
    have := HV.out.2.2.2
    omega
  have hF := Lib.hid (show ∀ u0 u1 u2 u3 u4 u5 u6 u7 : Value, Below w.heap.size w ((((((((w9.setCell ⟨w.heap.size + 1, 0, none⟩ u0).setCell ⟨w.heap.size + 1, 1, none⟩ u1).setCell ⟨w.heap.size + 1, 2, none⟩ u2).setCell ⟨w.heap.size + 1, 3, none⟩ u3).setCell ⟨w.heap.size + 1, 4, none⟩ u4).setCell ⟨w.heap.size + 1, 5, none⟩ u5).setCell ⟨w.heap.size + 1, 6, none⟩ u6).setCell ⟨w.heap.size + 1, 7, none⟩ u7) from fun u0 u1 u2 u3 u4 u5 u6 u7 => (((((((((HV.out.2.2.1.trans (HE.out.2.2.1.mono HV.out.2.2.1.size)).setCell (Nat.le_succ _) _).setCell (Nat.le_succ _) _).setCell (Nat.le_succ _) _).setCell (Nat.le_succ _) _).setCell (Nat.le_succ _) _).setCell (Nat.le_succ _) _).setCell (Nat.le_succ _) _).setCell (Nat.le_succ _) _))
  have hQ := Lib.hid (show ∀ u0 u1 u2 u3 u4 u5 u6 u7 : Value, Reads ((((((((w9.setCell ⟨w.heap.size + 1, 0, none⟩ u0).setCell ⟨w.heap.size + 1, 1, none⟩ u1).setCell ⟨w.heap.size + 1, 2, none⟩ u2).setCell ⟨w.heap.size + 1, 3, none⟩ u3).setCell ⟨w.heap.size + 1, 4, none⟩ u4).setCell ⟨w.heap.size + 1, 5, none⟩ u5).setCell ⟨w.heap.size + 1, 6, none⟩ u6).setCell ⟨w.heap.size + 1, 7, none⟩ u7) w9.heap.size 3 A9 _ _ from fun u0 u1 u2 u3 u4 u5 u6 u7 => (Reads.far (Reads.far (Reads.far (Reads.far (Reads.far (Reads.far (Reads.far (Reads.far HE.out.1 (p := ⟨w.heap.size + 1, 0, none⟩) hfar u0) (p := ⟨w.heap.size + 1, 1, none⟩) hfar u1) (p := ⟨w.heap.size + 1, 2, none⟩) hfar u2) (p := ⟨w.heap.size + 1, 3, none⟩) hfar u3) (p := ⟨w.heap.size + 1, 4, none⟩) hfar u4) (p := ⟨w.heap.size + 1, 5, none⟩) hfar u5) (p := ⟨w.heap.size + 1, 6, none⟩) hfar u6) (p := ⟨w.heap.size + 1, 7, none⟩) hfar u7))
  have hl9 := HE.out.2.2.2.lt
  go_wp2_with fail
  refine bodyPost_ret (results_cell_tmp rfl _ _ _ _ _ _ rfl ((((((((HE.out.2.2.2.set_ 0 _).set_ 1 _).set_ 2 _).set_ 3 _).set_ 4 _).set_ 5 _).set_ 6 _).set_ 7 _) Try.underlying34 rfl info34) rfl ⟨⟨A9, c9, rfl, ?_, fun ad h9 => ?_⟩, hF.out _ _ _ _ _ _ _ _⟩
  · exact Reads.more (hQ.out _ _ _ _ _ _ _ _) (by simp)
  · have := HE.out.2.1 ad h9
    have := HV.out.2.2.2
    omega
end Go.Proofs.Ythkajcioeemilaa
