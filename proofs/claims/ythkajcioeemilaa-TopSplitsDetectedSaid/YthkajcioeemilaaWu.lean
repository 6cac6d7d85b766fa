/- The walk of Resolve at the one list of the law's example. No condition. -/
import Derived.Test.YthkajcioeemilaaWt
import Derived.Test.YthkajcioeemilaaWo
import Derived.Test.YthkajcioeemilaaWr
namespace Go.Proofs.Ythkajcioeemilaa
open Go.RowKit
theorem info34b : (Try.prog.info? 34).map (fun i => (i.zero, i.size, i.bytes)) = some (some (.agg #[.int .i64 0, .int .i64 0, .int .i64 0, .int .i64 0, .slice none 0 0, .int .i64 0, .bool false, .bool false]), 8, 72) := by kernel_rfl
theorem info3b : (Try.prog.info? 3).map (fun i => (i.zero, i.size, i.bytes)) = some (some (.int .i64 0), 1, 8) := by kernel_rfl
/-- rows of two types lie apart -/
theorem tag_ne_own {W : World} {low low' : Nat} {e e' : TypeId} {size size' : Nat} {v v' : Value} {n n' : Nat} {xs xs' : List Value} (h : W.ownsRow low e size v n xs) (h' : W.ownsRow low' e' size' v' n' xs') (hne : e ≠ e') : ∀ g, v.ownBlock = some g → v'.ownBlock ≠ some g := by
  intro g hg hg'
  rcases h'.2 with ⟨rfl, _⟩ | ⟨g2, cap, cur, rfl, _, hb, _⟩
  · simp [Value.ownBlock] at hg'
  · simp [Value.ownBlock] at hg'
    subst hg'
    exact tag_ne h hb hne _ hg rfl
/-- the answer of Resolve -/
structure ResR (w : World) (e : Ending) (w' : World) : Prop where
  ret : ∃ A c F d, e = .returned (.tuple #[.slice (some ⟨A, 0, none⟩) 2 c, .slice F 1 d, .int .i64 0]) ∧ w'.cell? ⟨A, 1, none⟩ = some (.int .i64 5) ∧ Reads w' w'.heap.size 1 F 1 (i64s [0])
  bel : Below w.heap.size w w'
/-- what the rounds have made -/
structure ReI (w1 : World) (gb : Nat) (k : Nat) (u v : Value) (W : World) : Prop where
  bel : Below w1.heap.size w1 W
  best : ∃ A c, Blk W gb 34 (siV (sC 3 1) A c)
  size : gb < W.heap.size
  nil : k = 0 → u = .slice none 0 0 ∧ v = .slice none 0 0
  out : ∃ xs, W.ownsRow (gb + 1) 34 8 u k xs ∧ (1 ≤ k → xs[1]? = some (.int .i64 5))
  fen : W.ownsRow (gb + 1) 3 1 v (min k 1) (if k = 0 then [] else [.int .i64 0])
set_option linter.unusedSimpArgs false in
set_option maxRecDepth 100000 in
set_option maxHeartbeats 8000000 in
theorem Resolve_ok (w : World) (A : Option Addr) (c : Nat) (xA yA : Option Addr) (xc yc : Nat) (hR : Reads w w.heap.size 8 A 2 ([⟨sA 4, xA, xc⟩, ⟨sC 3 1, yA, yc⟩].flatMap encSv)) (hx : SiR w xA (sA 4)) (hy : SiR w yA (sC 3 1)) : Calls Try.prog 17 #[.slice A 2 c, .int .i64 1] w (ResR w) := by
  have HX := Lib.hid (And.intro hR (And.intro hx hy))
  clear hR hx hy
  go_enter Try.func17, Try.ntmps17
  go_wp2_with fail
  refine (check_ok w A c [⟨sA 4, xA, xc⟩, ⟨sC 3 1, yA, yc⟩] HX.out.1 (by simp) (fun v hv => by
    rcases List.mem_cons.1 hv with rfl | hv
    · exact ⟨HX.out.2.1, sA_ok 4 (by omega)⟩
    · rcases List.mem_cons.1 hv with rfl | hv
      · exact ⟨HX.out.2.2, sC_ok 3 1 (by omega) (by omega)⟩
      · cases hv)).mono ?_
  rintro z w1 ⟨rfl, hb1⟩
  obtain ⟨bb, off, rfl, hbb, hcc⟩ := (HX.out.1.up hb1).elems (E := encSv) (fun _ => rfl) (by decide) (by decide)
  have x0 : w1.cell? ⟨bb, off, none⟩ = some (.int .i64 0) := hcc 0 (by simp) 0 _ rfl
  have x1 : w1.cell? ⟨bb, off + 1, none⟩ = some (.int .i64 1) := hcc 0 (by simp) 1 _ rfl
  have x2 : w1.cell? ⟨bb, off + 2, none⟩ = some (.int .i64 1) := hcc 0 (by simp) 2 _ rfl
  have x3 : w1.cell? ⟨bb, off + 3, none⟩ = some (.int .i64 4) := hcc 0 (by simp) 3 _ rfl
  have x4 : w1.cell? ⟨bb, off + 4, none⟩ = some (.slice xA 1 xc) := hcc 0 (by simp) 4 _ rfl
  have x5 : w1.cell? ⟨bb, off + 5, none⟩ = some (.int .i64 (-1)) := hcc 0 (by simp) 5 _ rfl
  have x6 : w1.cell? ⟨bb, off + 6, none⟩ = some (.bool true) := hcc 0 (by simp) 6 _ rfl
  have x7 : w1.cell? ⟨bb, off + 7, none⟩ = some (.bool true) := hcc 0 (by simp) 7 _ rfl
  have y0 : w1.cell? ⟨bb, off + 8, none⟩ = some (.int .i64 1) := hcc 1 (by simp) 0 _ rfl
  have y1 : w1.cell? ⟨bb, off + 8 + 1, none⟩ = some (.int .i64 1) := hcc 1 (by simp) 1 _ rfl
  have y2 : w1.cell? ⟨bb, off + 8 + 2, none⟩ = some (.int .i64 2) := hcc 1 (by simp) 2 _ rfl
  have y3 : w1.cell? ⟨bb, off + 8 + 3, none⟩ = some (.int .i64 4) := hcc 1 (by simp) 3 _ rfl
  have y4 : w1.cell? ⟨bb, off + 8 + 4, none⟩ = some (.slice yA 2 yc) := hcc 1 (by simp) 4 _ rfl
  have y5 : w1.cell? ⟨bb, off + 8 + 5, none⟩ = some (.int .i64 (-1)) := hcc 1 (by simp) 5 _ rfl
  have y6 : w1.cell? ⟨bb, off + 8 + 6, none⟩ = some (.bool true) := hcc 1 (by simp) 6 _ rfl
  have y7 : w1.cell? ⟨bb, off + 8 + 7, none⟩ = some (.bool true) := hcc 1 (by simp) 7 _ rfl
  clear hcc
  have HB1 := Lib.hid hb1
  clear hb1
  have hI0 : ReI w1 w1.heap.size 0 (.slice none 0 0) (.slice none 0 0) (w1.alloc (.cells #[.int .i64 1, .int .i64 1, .int .i64 2, .int .i64 4, .slice yA 2 yc, .int .i64 (-1), .bool true, .bool true] 34)) :=
    ⟨(Below.refl _ w1).alloc (Nat.le_refl _) _, ⟨yA, yc, Blk.new w1 34 #[.int .i64 1, .int .i64 1, .int .i64 2, .int .i64 4, .slice yA 2 yc, .int .i64 (-1), .bool true, .bool true]⟩, by simp, fun _ => ⟨rfl, rfl⟩, ⟨[], World.ownsRow_nil _ _ 34 8, fun h => absurd h (by omega)⟩, World.ownsRow_nil _ _ 3 1⟩
  have HI0 := Lib.hid hI0
  clear hI0
  obtain ⟨i1, hi0, hz0, hz1, hz2⟩ := info_parts info34b
  have H34 := Lib.hid (And.intro hi0 (And.intro hz0 (And.intro hz1 hz2)))
  clear hi0 hz0 hz1 hz2
  obtain ⟨i2, hi0, hz0, hz1, hz2⟩ := info_parts info3b
  have H3 := Lib.hid (And.intro hi0 (And.intro hz0 (And.intro hz1 hz2)))
  clear hi0 hz0 hz1 hz2
  go_wp2_with fail
  go_loopw [9, 10, 45] (fun u9 u10 u45 W => ∃ k : Nat, k ≤ 2 ∧ u45 = .int .i64 (k : Nat) ∧ ReI w1 w1.heap.size k u9 u10 W) (fun _ _ u45 _ => 2 - (intOf u45).toNat)
  case atStart => exact ⟨0, by omega, rfl, HI0.out⟩
  case round =>
    obtain ⟨k, hk, rfl, hI⟩ := hrel
    clear HI0
    have hbr := hI.bel
    rcases (show k = 0 ∨ k = 1 ∨ k = 2 by omega) with rfl | rfl | rfl
    · obtain ⟨rfl, rfl⟩ := hI.nil rfl
      have hs := hI.size
      have hbA := hbr.alloc hbr.size (.cells #[.int .i64 0, .int .i64 1, .int .i64 1, .int .i64 4, .slice xA 1 xc, .int .i64 (-1), .bool true, .bool true] 34)
      have hkA := Blk.new wr 34 #[.int .i64 0, .int .i64 1, .int .i64 1, .int .i64 4, .slice xA 1 xc, .int .i64 (-1), .bool true, .bool true]
      obtain ⟨Ab, cb, hkb⟩ := hI.best
      have dx0 := (hbr.cell (p := ⟨bb, off, none⟩) (hbb)).trans x0
      have dx1 := (hbr.cell (p := ⟨bb, off + 1, none⟩) (hbb)).trans x1
      have dx2 := (hbr.cell (p := ⟨bb, off + 2, none⟩) (hbb)).trans x2
      have dx3 := (hbr.cell (p := ⟨bb, off + 3, none⟩) (hbb)).trans x3
      have dx4 := (hbr.cell (p := ⟨bb, off + 4, none⟩) (hbb)).trans x4
      have dx5 := (hbr.cell (p := ⟨bb, off + 5, none⟩) (hbb)).trans x5
      have dx6 := (hbr.cell (p := ⟨bb, off + 6, none⟩) (hbb)).trans x6
      have dx7 := (hbr.cell (p := ⟨bb, off + 7, none⟩) (hbb)).trans x7
      have hcl := Clone_ok xA xc (lin1 4) (wr.alloc (.cells #[.int .i64 0, .int .i64 1, .int .i64 1, .int .i64 4, .slice xA 1 xc, .int .i64 (-1), .bool true, .bool true] 34)) ((HX.out.2.1.up HB1.out).up hbA) (by decide)
      have HC := Lib.hid hcl
      have HR := Lib.hid (And.intro hI (And.intro hkA (And.intro hbA hkb)))
      clear hcl hI hkA hbA hbr hkb
      go_wp2_with fail
      refine HC.out.mono ?_
      clear HC
      rintro e w2 ⟨⟨v2, rfl, hown2⟩, hb2⟩
      obtain ⟨A2, c2, rfl, _, _, _⟩ := own_slice hown2
      have hkA2 := (HR.out.2.1.below hb2 (by simp)).set_ 4 (.slice A2 (lin1 4).length c2)
      have hkb2 := (HR.out.2.2.2.alloc (.cells #[.int .i64 0, .int .i64 1, .int .i64 1, .int .i64 4, .slice xA 1 xc, .int .i64 (-1), .bool true, .bool true] 34)).below hb2 (by simp; omega)
      have hfA := (HR.out.2.1.below hb2 (by simp)).frozen 4
      have hcA := (HR.out.2.1.below hb2 (by simp)).cell 4
      have hlA := (HR.out.2.1.below hb2 (by simp)).lt
      have hbV : Below w1.heap.size w1 (w2.setCell ⟨wr.heap.size, 4, none⟩ (.slice A2 (lin1 4).length c2)) := (HR.out.2.2.1.trans (hb2.mono HR.out.2.2.1.size)).setCell (p := ⟨wr.heap.size, 4, none⟩) (by dsimp only; omega) _
      have hkb3 := hkb2.far (p := ⟨wr.heap.size, 4, none⟩) (by dsimp only; omega) (.slice A2 (lin1 4).length c2)
      have HV := Lib.hid (And.intro hkA2 (And.intro hkb3 hbV))
      clear hkA2 hkb2 hkb3 hbV hown2 hb2
      go_upto_region 15 with fail
      generalize (w2.setCell ⟨wr.heap.size, 4, none⟩ (.slice A2 (lin1 4).length c2)) = V at *
      have s0 : V.cell? ⟨wr.heap.size, 0, none⟩ = some (.int .i64 0) := HV.out.1.cell 0
      have s1 : V.cell? ⟨wr.heap.size, 1, none⟩ = some (.int .i64 1) := HV.out.1.cell 1
      have s2 : V.cell? ⟨wr.heap.size, 2, none⟩ = some (.int .i64 1) := HV.out.1.cell 2
      have s3 : V.cell? ⟨wr.heap.size, 3, none⟩ = some (.int .i64 4) := HV.out.1.cell 3
      have s4 : V.cell? ⟨wr.heap.size, 4, none⟩ = some (.slice A2 (lin1 4).length c2) := HV.out.1.cell 4
      have s5 : V.cell? ⟨wr.heap.size, 5, none⟩ = some (.int .i64 (-1)) := HV.out.1.cell 5
      have s6 : V.cell? ⟨wr.heap.size, 6, none⟩ = some (.bool true) := HV.out.1.cell 6
      have s7 : V.cell? ⟨wr.heap.size, 7, none⟩ = some (.bool true) := HV.out.1.cell 7
      have z1 := HV.out.1.frozen 1
      have z2 := HV.out.1.frozen 2
      have z5 := HV.out.1.frozen 5
      have b1 : V.cell? ⟨w1.heap.size, 1, none⟩ = some (.int .i64 1) := HV.out.2.1.cell 1
      have b2 : V.cell? ⟨w1.heap.size, 2, none⟩ = some (.int .i64 2) := HV.out.2.1.cell 2
      have lv := HV.out.1.lt
      have lb := HV.out.2.1.lt
      have hmax := max_run 1 2 2 rfl
      clear hfA hcA
      go_upto_region 17 with fail
      go_region
      have hk2 : Blk (((V.setCell ⟨wr.heap.size, 1, none⟩ (.int .i64 5)).setCell ⟨wr.heap.size, 5, none⟩ (.int .i64 (-1))).setCell ⟨wr.heap.size, 2, none⟩ (.int .i64 2)).drew wr.heap.size 34 #[.int .i64 0, .int .i64 5, .int .i64 2, .int .i64 4, .slice A2 (lin1 4).length c2, .int .i64 (-1), .bool true, .bool true] := (((HV.out.1.set_ 1 _).set_ 5 _).set_ 2 _).drew
      have hkb4 := (((HV.out.2.1.far (p := ⟨wr.heap.size, 1, none⟩) (by dsimp only; omega) (.int .i64 5)).far (p := ⟨wr.heap.size, 5, none⟩) (by dsimp only; omega) (.int .i64 (-1))).far (p := ⟨wr.heap.size, 2, none⟩) (by dsimp only; omega) (.int .i64 2)).drew
      have hbV2 := (((HV.out.2.2.setCell (p := ⟨wr.heap.size, 1, none⟩) (by dsimp only; omega) (.int .i64 5)).setCell (p := ⟨wr.heap.size, 5, none⟩) (by dsimp only; omega) (.int .i64 (-1))).setCell (p := ⟨wr.heap.size, 2, none⟩) (by dsimp only; omega) (.int .i64 2)).drew
      generalize (((V.setCell ⟨wr.heap.size, 1, none⟩ (.int .i64 5)).setCell ⟨wr.heap.size, 5, none⟩ (.int .i64 (-1))).setCell ⟨wr.heap.size, 2, none⟩ (.int .i64 2)).drew = V2 at *
      have HW := Lib.hid (And.intro hk2 (And.intro hkb4 hbV2))
      have l2 := hk2.lt
      clear hk2 hkb4 hbV2 s0 s1 s2 s3 s4 s5 s6 s7 b1 b2 z1 z2 z5 hmax
      have HA := Lib.hid (And.intro (HW.out.1.alloc (.cells #[.int .i64 0] 3)) (HW.out.2.1.alloc (.cells #[.int .i64 0] 3)))
      go_upto_region 18 with (at_builtin; refine wpList_append_own _ rfl (.tmp 75) (.tmp 77) _ rfl (w1.heap.size + 1) 3 i2 _ 1 8 Try.underlying46 H3.out.1 H3.out.2.1 H3.out.2.2.1 H3.out.2.2.2 rfl (by omega) (.slice none 0 0) 0 [] rfl (World.ownsRow_nil _ _ 3 1) ⟨V2.heap.size, 0, none⟩ 1 1 [.int .i64 0] rfl rfl (elem_cells #[.int .i64 0] 3 rfl) (by simp [Value.oneCell']) (by unfold maxLen; omega) (by omega) (by simp only [World.size_alloc]; omega) ?_; intro v3 w3 hown3 hgr3 _; have HG := Lib.hid (And.intro hown3 (And.intro hgr3 (And.intro (HA.out.1.grown hgr3 (fun q => by cases q)) (HA.out.2.grown hgr3 (fun q => by cases q))))); obtain ⟨A3, c3, rfl, _, _, _⟩ := own_slice hown3; clear hown3 hgr3)
      have e0 := HG.out.2.2.1.cell 0
      have e1 := HG.out.2.2.1.cell 1
      have e2 := HG.out.2.2.1.cell 2
      have e3 := HG.out.2.2.1.cell 3
      have e4 := HG.out.2.2.1.cell 4
      have e5 := HG.out.2.2.1.cell 5
      have e6 := HG.out.2.2.1.cell 6
      have e7 := HG.out.2.2.1.cell 7
      simp only [List.getElem?_toArray, List.getElem?_cons_zero, List.getElem?_cons_succ] at e0 e1 e2 e3 e4 e5 e6 e7
      have hs3 := HG.out.2.1.size
      rw [World.size_alloc] at hs3
      have l3 := HG.out.2.2.1.lt
      go_wp2_with (at_builtin; refine wpList_append_own _ rfl (.tmp 79) (.tmp 81) _ rfl (w1.heap.size + 1) 34 i1 _ 8 72 Try.underlying23 H34.out.1 H34.out.2.1 H34.out.2.2.1 H34.out.2.2.2 rfl (by omega) (.slice none 0 0) 0 [] rfl (World.ownsRow_nil _ _ 34 8) ⟨w3.heap.size, 0, none⟩ 1 1 [.int .i64 0, .int .i64 5, .int .i64 2, .int .i64 4, .slice A2 (lin1 4).length c2, .int .i64 (-1), .bool true, .bool true] rfl rfl (elem_cells #[.int .i64 0, .int .i64 5, .int .i64 2, .int .i64 4, .slice A2 (lin1 4).length c2, .int .i64 (-1), .bool true, .bool true] 34 rfl) (by simp [Value.oneCell']) (by unfold maxLen; omega) (by omega) (by simp only [World.size_alloc]; omega) ?_; intro v4 w4 hown4 hgr4 _; have HG4 := Lib.hid (And.intro hown4 hgr4); obtain ⟨A4, c4, rfl, _, _, _⟩ := own_slice hown4; clear hown4 hgr4)
      go_roundw
      case rel =>
        have hsz4 := HG4.out.2.size
        rw [World.size_alloc] at hsz4
        have hb34 : Below w1.heap.size w1 w4 := (((HW.out.2.2.alloc (by omega) _).grown HG.out.2.1 (by rw [World.size_alloc]; omega) (fun r q => by cases q)).alloc (by omega) _).grown HG4.out.2 (by rw [World.size_alloc]; omega) (fun r q => by cases q)
        have hfen : w4.ownsRow (w1.heap.size + 1) 3 1 (.slice A3 1 c3) (0 + 1) ([] ++ [.int .i64 0]) := own_keep (own_alloc HG.out.1 _) (fun g hg => HG4.out.2.block g (by rw [World.size_alloc]; have := own_lt HG.out.1 g hg; omega) (fun q => by cases q))
        exact ⟨1, by omega, by go_num, hb34, ⟨_, _, (HG.out.2.2.2.alloc _).grown HG4.out.2 (fun q => by cases q)⟩, by omega, fun h => by omega, ⟨_, HG4.out.1, fun _ => rfl⟩, hfen⟩
      case measure => simp [intOf]
    · obtain ⟨xs, hown, hx5⟩ := hI.out
      have hs := hI.size
      have h5 := hx5 (by omega)
      obtain ⟨A9, c9, rfl, _, _, _⟩ := own_slice hown
      obtain ⟨A8, c8, rfl, _, _, _⟩ := own_slice hI.fen
      have hbA := hbr.alloc hbr.size (.cells #[.int .i64 1, .int .i64 1, .int .i64 2, .int .i64 4, .slice yA 2 yc, .int .i64 (-1), .bool true, .bool true] 34)
      have hkA := Blk.new wr 34 #[.int .i64 1, .int .i64 1, .int .i64 2, .int .i64 4, .slice yA 2 yc, .int .i64 (-1), .bool true, .bool true]
      obtain ⟨Ab, cb, hkb⟩ := hI.best
      have dy0 := (hbr.cell (p := ⟨bb, off + 8, none⟩) (hbb)).trans y0
      have dy1 := (hbr.cell (p := ⟨bb, off + 8 + 1, none⟩) (hbb)).trans y1
      have dy2 := (hbr.cell (p := ⟨bb, off + 8 + 2, none⟩) (hbb)).trans y2
      have dy3 := (hbr.cell (p := ⟨bb, off + 8 + 3, none⟩) (hbb)).trans y3
      have dy4 := (hbr.cell (p := ⟨bb, off + 8 + 4, none⟩) (hbb)).trans y4
      have dy5 := (hbr.cell (p := ⟨bb, off + 8 + 5, none⟩) (hbb)).trans y5
      have dy6 := (hbr.cell (p := ⟨bb, off + 8 + 6, none⟩) (hbb)).trans y6
      have dy7 := (hbr.cell (p := ⟨bb, off + 8 + 7, none⟩) (hbb)).trans y7
      have hcl := Clone_ok yA yc (lin2 3 1) (wr.alloc (.cells #[.int .i64 1, .int .i64 1, .int .i64 2, .int .i64 4, .slice yA 2 yc, .int .i64 (-1), .bool true, .bool true] 34)) ((HX.out.2.2.up HB1.out).up hbA) (by decide)
      have HC := Lib.hid hcl
      have HR := Lib.hid (And.intro hI (And.intro hkA (And.intro hbA (And.intro hkb (And.intro hown h5)))))
      clear hcl hI hkA hbA hbr hkb hown hx5 h5
      go_wp2_with fail
      refine HC.out.mono ?_
      clear HC
      rintro e w2 ⟨⟨v2, rfl, hown2⟩, hb2⟩
      obtain ⟨A2, c2, rfl, _, _, _⟩ := own_slice hown2
      have hkA2 := (HR.out.2.1.below hb2 (by simp)).set_ 4 (.slice A2 (lin2 3 1).length c2)
      have hkb2 := (HR.out.2.2.2.1.alloc (.cells #[.int .i64 1, .int .i64 1, .int .i64 2, .int .i64 4, .slice yA 2 yc, .int .i64 (-1), .bool true, .bool true] 34)).below hb2 (by simp; omega)
      have hfA := (HR.out.2.1.below hb2 (by simp)).frozen 4
      have hcA := (HR.out.2.1.below hb2 (by simp)).cell 4
      have hlA := (HR.out.2.1.below hb2 (by simp)).lt
      have hbr2 : Below wr.heap.size wr (w2.setCell ⟨wr.heap.size, 4, none⟩ (.slice A2 (lin2 3 1).length c2)) := ((((Below.refl _ wr).alloc (Nat.le_refl _) _).trans (hb2.mono (by simp)))).setCell (p := ⟨wr.heap.size, 4, none⟩) (Nat.le_refl _) _
      have hkb3 := hkb2.far (p := ⟨wr.heap.size, 4, none⟩) (by dsimp only; omega) (.slice A2 (lin2 3 1).length c2)
      have HV := Lib.hid (And.intro hkA2 (And.intro hkb3 hbr2))
      clear hkA2 hkb2 hkb3 hbr2 hown2 hb2
      go_upto_region 15 with fail
      generalize (w2.setCell ⟨wr.heap.size, 4, none⟩ (.slice A2 (lin2 3 1).length c2)) = V at *
      have e0 : V.cell? ⟨wr.heap.size, 0, none⟩ = some (.int .i64 1) := HV.out.1.cell 0
      have e1 : V.cell? ⟨wr.heap.size, 1, none⟩ = some (.int .i64 1) := HV.out.1.cell 1
      have e2 : V.cell? ⟨wr.heap.size, 2, none⟩ = some (.int .i64 2) := HV.out.1.cell 2
      have e3 : V.cell? ⟨wr.heap.size, 3, none⟩ = some (.int .i64 4) := HV.out.1.cell 3
      have e4 : V.cell? ⟨wr.heap.size, 4, none⟩ = some (.slice A2 (lin2 3 1).length c2) := HV.out.1.cell 4
      have e5 : V.cell? ⟨wr.heap.size, 5, none⟩ = some (.int .i64 (-1)) := HV.out.1.cell 5
      have e6 : V.cell? ⟨wr.heap.size, 6, none⟩ = some (.bool true) := HV.out.1.cell 6
      have e7 : V.cell? ⟨wr.heap.size, 7, none⟩ = some (.bool true) := HV.out.1.cell 7
      have lv := HV.out.1.lt
      have hown9 := own_below HR.out.2.2.2.2.1 HV.out.2.2
      have hfen9 := own_below HR.out.1.fen HV.out.2.2
      have HW := Lib.hid (And.intro hown9 hfen9)
      have HOA := Lib.hid (own_alloc hown9 (.cells #[.int .i64 1, .int .i64 1, .int .i64 2, .int .i64 4, .slice A2 (lin2 3 1).length c2, .int .i64 (-1), .bool true, .bool true] 34))
      clear hown9 hfen9 hfA hcA
      go_wp2_with (at_builtin; refine wpList_append_own _ rfl (.tmp 79) (.tmp 81) _ rfl (w1.heap.size + 1) 34 i1 _ 8 72 Try.underlying23 H34.out.1 H34.out.2.1 H34.out.2.2.1 H34.out.2.2.2 rfl (by omega) (.slice A9 1 c9) 1 xs rfl HOA.out ⟨V.heap.size, 0, none⟩ 1 1 [.int .i64 1, .int .i64 1, .int .i64 2, .int .i64 4, .slice A2 (lin2 3 1).length c2, .int .i64 (-1), .bool true, .bool true] rfl rfl (elem_cells #[.int .i64 1, .int .i64 1, .int .i64 2, .int .i64 4, .slice A2 (lin2 3 1).length c2, .int .i64 (-1), .bool true, .bool true] 34 rfl) (by simp [Value.oneCell']) (by unfold maxLen; omega) (by omega) (by simp only [World.size_alloc]; omega) ?_; intro v4 w4 hown4 hgr4 _; have HG4 := Lib.hid (And.intro hown4 hgr4); obtain ⟨A4, c4, rfl, _, _, _⟩ := own_slice hown4; clear hown4 hgr4)
      go_roundw
      case rel =>
        have hsz4 := HG4.out.2.size
        rw [World.size_alloc] at hsz4
        have hb34 : Below w1.heap.size w1 w4 := ((HR.out.1.bel.trans (HV.out.2.2.mono (by omega))).alloc (by omega) _).grown HG4.out.2 (by rw [World.size_alloc]; omega) (fun r q => by have := own_block_ge HW.out.1 r q; omega)
        have hbk := HV.out.2.1.alloc (.cells #[.int .i64 1, .int .i64 1, .int .i64 2, .int .i64 4, .slice A2 (lin2 3 1).length c2, .int .i64 (-1), .bool true, .bool true] 34)
        have hfr := tag_ne_own HW.out.1 HW.out.2 (by decide)
        have hfen : w4.ownsRow (w1.heap.size + 1) 3 1 (.slice A8 (min 1 1) c8) (min 1 1) (if (1 : Nat) = 0 then [] else [.int .i64 0]) := own_keep (own_alloc HW.out.2 _) (fun g hg => HG4.out.2.block g (by rw [World.size_alloc]; have := own_lt HW.out.2 g hg; omega) (fun q => hfr g q.symm hg))
        refine ⟨2, by omega, by go_num, hb34, ⟨_, _, hbk.grown HG4.out.2 (fun q => by have := own_block_ge HW.out.1 _ q.symm; omega)⟩, by omega, fun h => by omega, ⟨_, HG4.out.1, fun _ => ?_⟩, hfen⟩
        have hl := HW.out.1.1
        rw [List.getElem?_append_left (by omega)]
        exact HR.out.2.2.2.2.2
      case measure => simp [intOf]
    · obtain ⟨xs, hown, hx5⟩ := hI.out
      obtain ⟨g9, c9, cur9, rfl, hg9, hk9, h91, h92, h93, h94⟩ := own_blk hown (by omega)
      obtain ⟨A8, c8, rfl, _, _, hr8⟩ := own_slice hI.fen
      have h5 := hx5 (by omega)
      have HF := Lib.hid (And.intro hk9 (And.intro h94 (And.intro hr8 (And.intro hI.bel h5))))
      clear hk9 h91 h92 h93 h94 hr8 hI hown hx5 h5
      go_wp2_with fail
      go_ret3
      refine ⟨⟨_, _, _, _, rfl, ?_, HF.out.2.2.1⟩, HB1.out.trans (HF.out.2.2.2.1.mono HB1.out.size)⟩
      have h := HF.out.2.2.2.2
      rw [← HF.out.2.1, List.getElem?_take] at h
      exact (HF.out.1.cell 1).trans (by simpa using h)
end Go.Proofs.Ythkajcioeemilaa
