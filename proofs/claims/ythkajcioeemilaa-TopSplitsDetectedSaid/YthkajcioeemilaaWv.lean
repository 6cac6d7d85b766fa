/- The walk of trySplitAwake: it answers true. No condition. -/
import Derived.Test.YthkajcioeemilaaWu
namespace Go.Proofs.Ythkajcioeemilaa
open Go.RowKit
theorem split41 (w : World) : Calls Try.prog 4 #[.int .i64 4, .int .i64 3, .int .i64 0, .int .i64 1] w (SitesR (sA 4) (sC 3 1) w) := trySplit_ok 4 3 0 1 (by omega) (by omega) (by omega) (by omega) w
theorem fork41 : forkB (lin1 4) (lin2 3 1) = true := by decide
set_option linter.unusedSimpArgs false in
set_option maxRecDepth 100000 in
set_option maxHeartbeats 4000000 in
theorem awake_ok (w : World) : Calls Try.prog 7 #[] w fun e w' => e = .returned (.bool true) ∧ Below w.heap.size w w' := by
  go_enter Try.func7, Try.ntmps7
  go_wp2_with fail
  refine (split41 w).mono ?_
  rintro e w1 ⟨⟨A, c, xA, xc, yA, yc, rfl, hR, hxr, hyr⟩, hb1⟩
  have HX := Lib.hid (And.intro hR (And.intro hxr (And.intro hyr hb1)))
  clear hR hxr hyr hb1
  go_wp2_with fail
  refine (Diverged_ok w1 A c ⟨sA 4, xA, xc⟩ ⟨sC 3 1, yA, yc⟩ HX.out.1 ⟨HX.out.2.1, sA_ok 4 (by omega)⟩ ⟨HX.out.2.2.1, sC_ok 3 1 (by omega) (by omega)⟩ rfl rfl (by simp [sA, sC])).mono ?_
  rintro e w2 ⟨⟨V, rfl, hV⟩, hb2⟩
  have hV2 : DivV true w2 V := by rw [← fork41]; exact hV
  rcases hV2 with ⟨h, _⟩ | ⟨_, p, q, c2, rfl, hp⟩
  · cases h
  have HY := Lib.hid (And.intro hp hb2)
  clear hV hp hb2
  go_wp2_with fail
  refine (Resolve_ok w2 A c xA yA xc yc (HX.out.1.up HY.out.2) (HX.out.2.1.up HY.out.2) (HX.out.2.2.1.up HY.out.2)).mono ?_
  rintro e w3 ⟨⟨A3, c3, F, d, rfl, h5, hF⟩, hb3⟩
  have hp3 := HY.out.1.below hb3
  have hk1 := Blk.new w3 3 #[.int .i64 0, .int .i64 1]
  have hk2 := Blk.new (w3.alloc (.cells #[.int .i64 0, .int .i64 1] 3)) 46 #[.slice (some ⟨w3.heap.size, 0, none⟩) 2 2]
  rw [World.size_alloc] at hk2
  have hbA : Below w3.heap.size w3 ((w3.alloc (.cells #[.int .i64 0, .int .i64 1] 3)).alloc (.cells #[.slice (some ⟨w3.heap.size, 0, none⟩) 2 2] 46)) := ((Below.refl _ w3).alloc (Nat.le_refl _) _).alloc (by simp) _
  have hpr : PairR ((w3.alloc (.cells #[.int .i64 0, .int .i64 1] 3)).alloc (.cells #[.slice (some ⟨w3.heap.size, 0, none⟩) 2 2] 46)) (w3.heap.size + 1) w3.heap.size 2 := ⟨by simp, by simp; omega, hk2.cell 0, (hk1.alloc _).cell 0, (hk1.alloc _).cell 1⟩
  have l3 : A3 < w3.heap.size := by
    have := Array.getElem?_eq_none (xs := w3.heap) (i := A3)
    rcases Nat.lt_or_ge A3 w3.heap.size with h | h
    · exact h
    · have h9 := this h
      simp [World.cell?, h9] at h5
  have HZ := Lib.hid (And.intro hp3 (And.intro hbA (And.intro hpr (And.intro hF hb3))))
  have HC := Lib.hid h5
  clear hp3 hk1 hk2 hbA hpr hF hb3 h5
  go_wp2_with fail
  refine (SamePairs_ok _ p q _ c2 (w3.heap.size + 1) w3.heap.size _ 1 (HZ.out.1.below HZ.out.2.1) HZ.out.2.2.1).mono ?_
  rintro e w4 ⟨rfl, hb4⟩
  have hbB : Below w3.heap.size w3 w4 := HZ.out.2.1.trans (hb4.mono HZ.out.2.1.size)
  have hk3 := Blk.new w4 3 #[.int .i64 0]
  have hbC : Below w4.heap.size w4 (w4.alloc (.cells #[.int .i64 0] 3)) := (Below.refl _ w4).alloc (Nat.le_refl _) _
  have hs4 := hbB.size
  have HB := Lib.hid (And.intro hbB (And.intro hk3 hbC))
  clear hbB hk3 hbC hb4
  go_wp2_with fail
  refine (SameInts_true F (some ⟨w4.heap.size, 0, none⟩) 1 d 1 [0] _ ((HZ.out.2.2.2.1.up HB.out.1).up HB.out.2.2) (HB.out.2.1.reads_take (size := 1) (n := 1) (by simp)) (by omega)).mono ?_
  rintro e w5 ⟨rfl, hb5⟩
  have hbD : Below w3.heap.size w3 w5 := (HB.out.1.trans (HB.out.2.2.mono hs4)).trans (hb5.mono (by rw [World.size_alloc]; omega))
  have h5 : w5.cell? ⟨A3, 1, none⟩ = some (.int .i64 5) := (hbD.cell (p := ⟨A3, 1, none⟩) l3).trans HC.out
  have hbE := HX.out.2.2.2.trans (((HY.out.2.trans (HZ.out.2.2.2.2.mono HY.out.2.size)).trans (hbD.mono (Nat.le_trans HY.out.2.size HZ.out.2.2.2.2.size))).mono HX.out.2.2.2.size)
  have HE := Lib.hid hbE
  clear hbD hbE hb5
  go_wp2_with fail
  go_ret
  exact ⟨rfl, HE.out⟩
end Go.Proofs.Ythkajcioeemilaa
