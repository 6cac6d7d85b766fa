/- The walk of diverged. Conditions: two primaries, in order, of two epochs. -/
import Derived.Test.YthkajcioeemilaaWl
namespace Go.Proofs.Ythkajcioeemilaa
open Go.RowKit
set_option linter.unusedSimpArgs false in
set_option maxRecDepth 100000 in
set_option maxHeartbeats 4000000 in
theorem diverged_ok (x y : Si) (A B : Option Addr) (c d : Nat) (w : World) (hA : SiR w A x) (hB : SiR w B y) (hx : SiOk x) (hy : SiOk y) (h1 : x.role = 1) (h2 : y.role = 1) (hne : x.ep ≠ y.ep) : Calls Try.prog 14 #[.agg (siV x A c), .agg (siV y B d)] w fun e w' => e = .returned (.bool (forkB x.l y.l)) ∧ Below w.heap.size w w' := by
  obtain ⟨xnum, xrole, xep, xap, xl, xsrc, xal, xco⟩ := x
  obtain ⟨ynum, yrole, yep, yap, yl, ysrc, yal, yco⟩ := y
  dsimp only at h1 h2 hne ⊢
  subst h1 h2
  have hl1 := hx.len
  have hl2 := hy.len
  dsimp only at hl1 hl2
  have HX := Lib.hid (And.intro hA (And.intro hB (And.intro hx.cor hy.cor)))
  clear hA hB hx hy
  have g1 : Blk ((w.alloc (.cells #[.int .i64 xnum, .int .i64 1, .int .i64 xep, .int .i64 xap, .slice A xl.length c, .int .i64 xsrc, .bool xal, .bool xco] 34)).alloc (.cells #[.int .i64 ynum, .int .i64 1, .int .i64 yep, .int .i64 yap, .slice B yl.length d, .int .i64 ysrc, .bool yal, .bool yco] 34)) w.heap.size 34 #[.int .i64 xnum, .int .i64 1, .int .i64 xep, .int .i64 xap, .slice A xl.length c, .int .i64 xsrc, .bool xal, .bool xco] := (Blk.new w 34 #[.int .i64 xnum, .int .i64 1, .int .i64 xep, .int .i64 xap, .slice A xl.length c, .int .i64 xsrc, .bool xal, .bool xco]).alloc _
  have g2 := Blk.new (w.alloc (.cells #[.int .i64 xnum, .int .i64 1, .int .i64 xep, .int .i64 xap, .slice A xl.length c, .int .i64 xsrc, .bool xal, .bool xco] 34)) 34 #[.int .i64 ynum, .int .i64 1, .int .i64 yep, .int .i64 yap, .slice B yl.length d, .int .i64 ysrc, .bool yal, .bool yco]
  rw [World.size_alloc] at g2
  have hbV : Below w.heap.size w ((w.alloc (.cells #[.int .i64 xnum, .int .i64 1, .int .i64 xep, .int .i64 xap, .slice A xl.length c, .int .i64 xsrc, .bool xal, .bool xco] 34)).alloc (.cells #[.int .i64 ynum, .int .i64 1, .int .i64 yep, .int .i64 yap, .slice B yl.length d, .int .i64 ysrc, .bool yal, .bool yco] 34)) := ((Below.refl _ w).alloc (Nat.le_refl _) _).alloc (by simp) _
  have HV := Lib.hid (And.intro g1 (And.intro g2 hbV))
  clear g1 g2 hbV
  have kne : (xep == yep) = false := by rw [beq_eq_false_iff_ne]; exact hne
  unfold siV
  dsimp only
  go_enter Try.func14, Try.ntmps14
  go_upto_region 1 with fail
  generalize ((w.alloc (.cells #[.int .i64 xnum, .int .i64 1, .int .i64 xep, .int .i64 xap, .slice A xl.length c, .int .i64 xsrc, .bool xal, .bool xco] 34)).alloc (.cells #[.int .i64 ynum, .int .i64 1, .int .i64 yep, .int .i64 yap, .slice B yl.length d, .int .i64 ysrc, .bool yal, .bool yco] 34)) = V at *
  have x0 : V.cell? ⟨w.heap.size, 0, none⟩ = some (.int .i64 xnum) := HV.out.1.cell 0
  have x1 : V.cell? ⟨w.heap.size, 1, none⟩ = some (.int .i64 1) := HV.out.1.cell 1
  have x2 : V.cell? ⟨w.heap.size, 2, none⟩ = some (.int .i64 xep) := HV.out.1.cell 2
  have x3 : V.cell? ⟨w.heap.size, 3, none⟩ = some (.int .i64 xap) := HV.out.1.cell 3
  have x4 : V.cell? ⟨w.heap.size, 4, none⟩ = some (.slice A xl.length c) := HV.out.1.cell 4
  have x5 : V.cell? ⟨w.heap.size, 5, none⟩ = some (.int .i64 xsrc) := HV.out.1.cell 5
  have x6 : V.cell? ⟨w.heap.size, 6, none⟩ = some (.bool xal) := HV.out.1.cell 6
  have x7 : V.cell? ⟨w.heap.size, 7, none⟩ = some (.bool xco) := HV.out.1.cell 7
  have y0 : V.cell? ⟨w.heap.size + 1, 0, none⟩ = some (.int .i64 ynum) := HV.out.2.1.cell 0
  have y1 : V.cell? ⟨w.heap.size + 1, 1, none⟩ = some (.int .i64 1) := HV.out.2.1.cell 1
  have y2 : V.cell? ⟨w.heap.size + 1, 2, none⟩ = some (.int .i64 yep) := HV.out.2.1.cell 2
  have y3 : V.cell? ⟨w.heap.size + 1, 3, none⟩ = some (.int .i64 yap) := HV.out.2.1.cell 3
  have y4 : V.cell? ⟨w.heap.size + 1, 4, none⟩ = some (.slice B yl.length d) := HV.out.2.1.cell 4
  have y5 : V.cell? ⟨w.heap.size + 1, 5, none⟩ = some (.int .i64 ysrc) := HV.out.2.1.cell 5
  have y6 : V.cell? ⟨w.heap.size + 1, 6, none⟩ = some (.bool yal) := HV.out.2.1.cell 6
  have y7 : V.cell? ⟨w.heap.size + 1, 7, none⟩ = some (.bool yco) := HV.out.2.1.cell 7
  go_wp2_with fail
  refine (Fork_ok V A B c d xl yl (Reads.up HX.out.1 HV.out.2.2) (Reads.up HX.out.2.1 HV.out.2.2) (by omega) (by omega) HX.out.2.2.1 HX.out.2.2.2).mono ?_
  rintro z w1 ⟨rfl, hb1⟩
  have G1 := HV.out.1.below hb1 HV.out.1.lt
  have G2 := HV.out.2.1.below hb1 HV.out.2.1.lt
  have HG := Lib.hid (And.intro G1 G2)
  have HB := Lib.hid (HV.out.2.2.trans (hb1.mono HV.out.2.2.size))
  clear G1 G2 hb1 x0 y0 x1 y1 x2 y2 x3 y3 x4 y4 x5 y5 x6 y6 x7 y7
  have x0 : w1.cell? ⟨w.heap.size, 0, none⟩ = some (.int .i64 xnum) := HG.out.1.cell 0
  have x1 : w1.cell? ⟨w.heap.size, 1, none⟩ = some (.int .i64 1) := HG.out.1.cell 1
  have x2 : w1.cell? ⟨w.heap.size, 2, none⟩ = some (.int .i64 xep) := HG.out.1.cell 2
  have x3 : w1.cell? ⟨w.heap.size, 3, none⟩ = some (.int .i64 xap) := HG.out.1.cell 3
  have x4 : w1.cell? ⟨w.heap.size, 4, none⟩ = some (.slice A xl.length c) := HG.out.1.cell 4
  have x5 : w1.cell? ⟨w.heap.size, 5, none⟩ = some (.int .i64 xsrc) := HG.out.1.cell 5
  have x6 : w1.cell? ⟨w.heap.size, 6, none⟩ = some (.bool xal) := HG.out.1.cell 6
  have x7 : w1.cell? ⟨w.heap.size, 7, none⟩ = some (.bool xco) := HG.out.1.cell 7
  have y0 : w1.cell? ⟨w.heap.size + 1, 0, none⟩ = some (.int .i64 ynum) := HG.out.2.cell 0
  have y1 : w1.cell? ⟨w.heap.size + 1, 1, none⟩ = some (.int .i64 1) := HG.out.2.cell 1
  have y2 : w1.cell? ⟨w.heap.size + 1, 2, none⟩ = some (.int .i64 yep) := HG.out.2.cell 2
  have y3 : w1.cell? ⟨w.heap.size + 1, 3, none⟩ = some (.int .i64 yap) := HG.out.2.cell 3
  have y4 : w1.cell? ⟨w.heap.size + 1, 4, none⟩ = some (.slice B yl.length d) := HG.out.2.cell 4
  have y5 : w1.cell? ⟨w.heap.size + 1, 5, none⟩ = some (.int .i64 ysrc) := HG.out.2.cell 5
  have y6 : w1.cell? ⟨w.heap.size + 1, 6, none⟩ = some (.bool yal) := HG.out.2.cell 6
  have y7 : w1.cell? ⟨w.heap.size + 1, 7, none⟩ = some (.bool yco) := HG.out.2.cell 7
  cases hf : forkB xl yl with
  | true =>
    have HF := Lib.hid hf
    clear hf
    go_wp2_with fail
    go_ret
    exact ⟨by simp [HF.out], HB.out⟩
  | false =>
    have HF := Lib.hid hf
    clear hf
    go_wp2_with fail
    go_ret
    exact ⟨by simp [HF.out], HB.out⟩
end Go.Proofs.Ythkajcioeemilaa
