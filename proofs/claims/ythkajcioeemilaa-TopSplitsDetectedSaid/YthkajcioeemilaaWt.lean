/- The walk of trySplit. Conditions: small numbers. -/
import Derived.Test.YthkajcioeemilaaWs
import Derived.Test.YthkajcioeemilaaWi
namespace Go.Proofs.Ythkajcioeemilaa
open Go.RowKit
def sI (m : Int) : Si := ⟨1, 3, 1, m, lin1 m, -1, true, true⟩
def sC (m c : Int) : Si := ⟨1, 1, 2, m + c, lin2 m c, -1, true, true⟩
theorem sI_ok (n : Int) (h : 0 ≤ n ∧ n ≤ 100) : SiOk (sI n) := by
  obtain ⟨h1, h2, h3, h4⟩ := lin1_ok n h
  exact ⟨by simp [sI], by simp [sI], by simp [sI], by simp [sI]; omega, by simp [sI], by simp [sI]; omega, h1, h2, h3, by simp [sI, recvB]⟩
theorem sC_ok (m c : Int) (h : 0 ≤ m ∧ m ≤ 100) (h' : 0 ≤ c ∧ c ≤ 100) : SiOk (sC m c) := by
  obtain ⟨h1, h2, h3, h4⟩ := lin2_ok m c h h'
  exact ⟨by simp [sC], by simp [sC], by simp [sC], by simp [sC]; omega, by simp [sC], by simp [sC]; omega, h1, h2, h3, by simp [sC, recvB]⟩
theorem lin2_zero (m : Int) : lin2 m 0 = lin1 m := by simp [lin2]
/-- a site in a block g; its lineage lies neither there nor at g' -/
def SiN (W : World) (g g' : Nat) (s : Si) : Prop := ∃ A c, Blk W g 34 (siV s A c) ∧ SiR W A s ∧ (0 < s.l.length → ∀ ad, A = some ad → ad.block ≠ g ∧ ad.block ≠ g')
theorem SiN.below {W W' : World} {g g' : Nat} {s : Si} (h : SiN W g g' s) (hb : Below W.heap.size W W') : SiN W' g g' s := by
  obtain ⟨A, c, h1, h2, h3⟩ := h
  exact ⟨A, c, h1.below hb h1.lt, h2.up hb, h3⟩
theorem SiN.put {W : World} {g g' : Nat} {s s' : Si} {A A' : Option Addr} {c c' : Nat} (h : Blk W g 34 (siV s A c)) (hr : SiR W A' s') (hA : 0 < s'.l.length → ∀ ad, A' = some ad → ad.block ≠ g ∧ ad.block ≠ g') :
    SiN ((((((((W.setCell ⟨g, 0, none⟩ (.int .i64 s'.num)).setCell ⟨g, 1, none⟩ (.int .i64 s'.role)).setCell ⟨g, 2, none⟩ (.int .i64 s'.ep)).setCell ⟨g, 3, none⟩ (.int .i64 s'.ap)).setCell ⟨g, 4, none⟩ (.slice A' s'.l.length c')).setCell ⟨g, 5, none⟩ (.int .i64 s'.src)).setCell ⟨g, 6, none⟩ (.bool s'.al)).setCell ⟨g, 7, none⟩ (.bool s'.co)) g g' s' := by
  have hB := (((((((h.set_ 0 (.int .i64 s'.num)).set_ 1 (.int .i64 s'.role)).set_ 2 (.int .i64 s'.ep)).set_ 3 (.int .i64 s'.ap)).set_ 4 (.slice A' s'.l.length c')).set_ 5 (.int .i64 s'.src)).set_ 6 (.bool s'.al)).set_ 7 (.bool s'.co)
  simp only [siV, List.setIfInBounds_toArray, List.set_cons_zero, List.set_cons_succ] at hB
  exact ⟨A', c', hB, hr.far8 (fun h0 ad e => (hA h0 ad e).1) _ _ _ _ _ _ _ _, hA⟩
theorem SiR.lt {W : World} {A : Option Addr} {s : Si} (h : SiR W A s) (h0 : 0 < s.l.length) : ∀ ad, A = some ad → ad.block < W.heap.size := by
  intro ad e
  obtain ⟨ad2, e2, h2, _⟩ := h.2 h0
  rw [e] at e2
  injection e2 with e2
  subst e2
  exact h2
theorem SiN.other {W : World} {g g' : Nat} {s : Si} (h : SiN W g g' s) (hne : g ≠ g') (v0 v1 v2 v3 v4 v5 v6 v7 : Value) :
    SiN ((((((((W.setCell ⟨g', 0, none⟩ (v0)).setCell ⟨g', 1, none⟩ (v1)).setCell ⟨g', 2, none⟩ (v2)).setCell ⟨g', 3, none⟩ (v3)).setCell ⟨g', 4, none⟩ (v4)).setCell ⟨g', 5, none⟩ (v5)).setCell ⟨g', 6, none⟩ (v6)).setCell ⟨g', 7, none⟩ (v7)) g g' s := by
  obtain ⟨A, c, h1, h2, h3⟩ := h
  exact ⟨A, c, (((((((h1.far (p := ⟨g', 0, none⟩) hne _).far (p := ⟨g', 1, none⟩) hne _).far (p := ⟨g', 2, none⟩) hne _).far (p := ⟨g', 3, none⟩) hne _).far (p := ⟨g', 4, none⟩) hne _).far (p := ⟨g', 5, none⟩) hne _).far (p := ⟨g', 6, none⟩) hne _).far (p := ⟨g', 7, none⟩) hne _, h2.far8 (fun h0 ad e => (h3 h0 ad e).2) _ _ _ _ _ _ _ _, h3⟩
set_option linter.unusedSimpArgs false in
set_option maxRecDepth 100000 in
set_option maxHeartbeats 8000000 in
theorem trySplit_ok (n m o q : Nat) (hm : m ≤ n) (hn : n ≤ 8) (ho : o ≤ 8) (hq : q ≤ 8) (w : World) : Calls Try.prog 4 #[.int .i64 n, .int .i64 m, .int .i64 o, .int .i64 q] w (SitesR (sA (n + o)) (sC m q) w) := by
  go_enter Try.func4, Try.ntmps4
  go_wp2_with fail
  refine (trySites_ok n m hm hn w).mono ?_
  rintro e w1 ⟨⟨A, c, xA, xc, yA, yc, rfl, hR, hxr, hyr⟩, hb1⟩
  obtain ⟨bb, off, rfl, hbb, hcc⟩ := hR.elems (E := encSv) (fun _ => rfl) (by decide) (by decide)
  have x0 : w1.cell? ⟨bb, off, none⟩ = some (.int .i64 0) := hcc 0 (by simp) 0 _ rfl
  have x1 : w1.cell? ⟨bb, off + 1, none⟩ = some (.int .i64 1) := hcc 0 (by simp) 1 _ rfl
  have x2 : w1.cell? ⟨bb, off + 2, none⟩ = some (.int .i64 1) := hcc 0 (by simp) 2 _ rfl
  have x3 : w1.cell? ⟨bb, off + 3, none⟩ = some (.int .i64 (n : Nat)) := hcc 0 (by simp) 3 _ rfl
  have x4 : w1.cell? ⟨bb, off + 4, none⟩ = some (.slice xA (lin1 n).length xc) := hcc 0 (by simp) 4 _ rfl
  have x5 : w1.cell? ⟨bb, off + 5, none⟩ = some (.int .i64 (-1)) := hcc 0 (by simp) 5 _ rfl
  have x6 : w1.cell? ⟨bb, off + 6, none⟩ = some (.bool true) := hcc 0 (by simp) 6 _ rfl
  have x7 : w1.cell? ⟨bb, off + 7, none⟩ = some (.bool true) := hcc 0 (by simp) 7 _ rfl
  have y0 : w1.cell? ⟨bb, off + 8, none⟩ = some (.int .i64 1) := hcc 1 (by simp) 0 _ rfl
  have y1 : w1.cell? ⟨bb, off + 8 + 1, none⟩ = some (.int .i64 2) := hcc 1 (by simp) 1 _ rfl
  have y2 : w1.cell? ⟨bb, off + 8 + 2, none⟩ = some (.int .i64 1) := hcc 1 (by simp) 2 _ rfl
  have y3 : w1.cell? ⟨bb, off + 8 + 3, none⟩ = some (.int .i64 (m : Nat)) := hcc 1 (by simp) 3 _ rfl
  have y4 : w1.cell? ⟨bb, off + 8 + 4, none⟩ = some (.slice yA (lin1 m).length yc) := hcc 1 (by simp) 4 _ rfl
  have y5 : w1.cell? ⟨bb, off + 8 + 5, none⟩ = some (.int .i64 0) := hcc 1 (by simp) 5 _ rfl
  have y6 : w1.cell? ⟨bb, off + 8 + 6, none⟩ = some (.bool true) := hcc 1 (by simp) 6 _ rfl
  have y7 : w1.cell? ⟨bb, off + 8 + 7, none⟩ = some (.bool true) := hcc 1 (by simp) 7 _ rfl
  clear hcc
  have hcall := Isolate_ok (sB m) yA yc w1 hyr (sB_ok m (by omega)) rfl
  simp only [siV, sB] at hcall
  have HC := Lib.hid hcall
  have HX := Lib.hid (And.intro hxr (And.intro hyr hb1))
  clear hcall hxr hyr hb1 hR
  go_wp2_with fail
  refine HC.out.mono ?_
  clear HC
  rintro e w2 ⟨⟨A2, c2, rfl, hr2, hf2⟩, hb2⟩
  unfold siV
  dsimp only
  have hbw2 := HX.out.2.2.trans (hb2.mono HX.out.2.2.size)
  have hkB := Blk.new w2 34 (siV (sI m) A2 c2)
  have hbn : Below w2.heap.size w2 (w2.alloc (.cells (siV (sI m) A2 c2) 34)) := (Below.refl _ w2).alloc (Nat.le_refl _) _
  have hs2 := hb2.size
  have hcall := Promote_ok (sI m) A2 c2 2 (w2.alloc (.cells (siV (sI m) A2 c2) 34)) ((show SiR w2 A2 (sI m) from hr2).up hbn) (sI_ok m (by omega)) rfl (.inr rfl) (by simp [sI]) (by omega)
  simp only [siV, sI] at hcall
  have HC := Lib.hid hcall
  have dx0 := (hb2.cell (p := ⟨bb, off, none⟩) hbb).trans x0
  have dx1 := (hb2.cell (p := ⟨bb, off + 1, none⟩) hbb).trans x1
  have dx2 := (hb2.cell (p := ⟨bb, off + 2, none⟩) hbb).trans x2
  have dx3 := (hb2.cell (p := ⟨bb, off + 3, none⟩) hbb).trans x3
  have dx4 := (hb2.cell (p := ⟨bb, off + 4, none⟩) hbb).trans x4
  have dx5 := (hb2.cell (p := ⟨bb, off + 5, none⟩) hbb).trans x5
  have dx6 := (hb2.cell (p := ⟨bb, off + 6, none⟩) hbb).trans x6
  have dx7 := (hb2.cell (p := ⟨bb, off + 7, none⟩) hbb).trans x7
  have dy0 := (hb2.cell (p := ⟨bb, off + 8, none⟩) hbb).trans y0
  have dy1 := (hb2.cell (p := ⟨bb, off + 8 + 1, none⟩) hbb).trans y1
  have dy2 := (hb2.cell (p := ⟨bb, off + 8 + 2, none⟩) hbb).trans y2
  have dy3 := (hb2.cell (p := ⟨bb, off + 8 + 3, none⟩) hbb).trans y3
  have dy4 := (hb2.cell (p := ⟨bb, off + 8 + 4, none⟩) hbb).trans y4
  have dy5 := (hb2.cell (p := ⟨bb, off + 8 + 5, none⟩) hbb).trans y5
  have dy6 := (hb2.cell (p := ⟨bb, off + 8 + 6, none⟩) hbb).trans y6
  have dy7 := (hb2.cell (p := ⟨bb, off + 8 + 7, none⟩) hbb).trans y7
  clear x0 x1 x2 x3 x4 x5 x6 x7 y0 y1 y2 y3 y4 y5 y6 y7
  have HB := Lib.hid (And.intro hb2 (And.intro hr2 (And.intro hf2 (And.intro hbw2 (And.intro hkB hbn)))))
  clear hb2 hr2 hf2 hbw2 hkB hbn hcall
  go_wp2_with fail
  refine HC.out.mono ?_
  clear HC
  rintro e w3 ⟨⟨A3, c3, rfl, hr3, hf3⟩, hb3⟩
  have hl0 := HB.out.2.2.2.2.1.lt
  rw [World.size_alloc] at hl0
  have hk3 : Blk w3 w2.heap.size 34 (siV (sI m) A2 c2) := HB.out.2.2.2.2.1.below hb3 (by rw [World.size_alloc]; omega)
  have hs3 := hb3.size
  rw [World.size_alloc] at hs3
  have x0 : w3.cell? ⟨w2.heap.size, 0, none⟩ = some (.int .i64 1) := hk3.cell 0
  have x1 : w3.cell? ⟨w2.heap.size, 1, none⟩ = some (.int .i64 3) := hk3.cell 1
  have x2 : w3.cell? ⟨w2.heap.size, 2, none⟩ = some (.int .i64 1) := hk3.cell 2
  have x3 : w3.cell? ⟨w2.heap.size, 3, none⟩ = some (.int .i64 (m : Nat)) := hk3.cell 3
  have x4 : w3.cell? ⟨w2.heap.size, 4, none⟩ = some (.slice A2 (lin1 m).length c2) := hk3.cell 4
  have x5 : w3.cell? ⟨w2.heap.size, 5, none⟩ = some (.int .i64 (-1)) := hk3.cell 5
  have x6 : w3.cell? ⟨w2.heap.size, 6, none⟩ = some (.bool true) := hk3.cell 6
  have x7 : w3.cell? ⟨w2.heap.size, 7, none⟩ = some (.bool true) := hk3.cell 7
  have z0 := hk3.frozen 0
  have z1 := hk3.frozen 1
  have z2 := hk3.frozen 2
  have z3 := hk3.frozen 3
  have z4 := hk3.frozen 4
  have z5 := hk3.frozen 5
  have z6 := hk3.frozen 6
  have z7 := hk3.frozen 7
  have hb23 : Below w2.heap.size w2 w3 := HB.out.2.2.2.2.2.trans (hb3.mono (by rw [World.size_alloc]; omega))
  have hl3 := hk3.lt
  have HN := Lib.hid (And.intro (SiN.put (g' := w3.heap.size) (s' := ⟨1, 1, 2, m, lin1 m, -1, true, true⟩) (c' := c3) hk3 hr3 (fun h0 ad e => ⟨by have := hf3 ad e; rw [World.size_alloc] at this; omega, by have := SiR.lt hr3 h0 ad e; omega⟩)) (And.intro (below8 (hb23.mono (Nat.le_refl _)) (Nat.le_refl w2.heap.size) (.int .i64 1) (.int .i64 1) (.int .i64 2) (.int .i64 (m : Nat)) (.slice A3 (lin1 m).length c3) (.int .i64 (-1)) (.bool true) (.bool true)) hf3))
  unfold siV
  dsimp only
  go_upto_region 7 with fail
  generalize hV : ((((((((w3.setCell ⟨w2.heap.size, 0, none⟩ (.int .i64 1)).setCell ⟨w2.heap.size, 1, none⟩ (.int .i64 1)).setCell ⟨w2.heap.size, 2, none⟩ (.int .i64 2)).setCell ⟨w2.heap.size, 3, none⟩ (.int .i64 (m : Nat))).setCell ⟨w2.heap.size, 4, none⟩ (.slice A3 (lin1 m).length c3)).setCell ⟨w2.heap.size, 5, none⟩ (.int .i64 (-1))).setCell ⟨w2.heap.size, 6, none⟩ (.bool true)).setCell ⟨w2.heap.size, 7, none⟩ (.bool true)) = V at *
  have hsV : V.heap.size = w3.heap.size := by rw [← hV]; simp only [World.size_setCell]
  have hrx : SiR V xA (sA n) := by
    rw [← hV]
    refine SiR.far8 ((HX.out.1.up HB.out.1).up hb23) (fun h0 ad e => ?_) _ _ _ _ _ _ _ _
    have := SiR.lt HX.out.1 h0 ad e
    omega
  have hax : ∀ ad, 0 < (sA n).l.length → xA = some ad → ad.block < w1.heap.size := fun ad h0 e => SiR.lt HX.out.1 h0 ad e
  clear hV x0 x1 x2 x3 x4 x5 x6 x7 z0 z1 z2 z3 z4 z5 z6 z7
  have x0 := (HN.out.2.1.cell (p := ⟨bb, off, none⟩) (by dsimp only; omega)).trans dx0
  have x1 := (HN.out.2.1.cell (p := ⟨bb, off + 1, none⟩) (by dsimp only; omega)).trans dx1
  have x2 := (HN.out.2.1.cell (p := ⟨bb, off + 2, none⟩) (by dsimp only; omega)).trans dx2
  have x3 := (HN.out.2.1.cell (p := ⟨bb, off + 3, none⟩) (by dsimp only; omega)).trans dx3
  have x4 := (HN.out.2.1.cell (p := ⟨bb, off + 4, none⟩) (by dsimp only; omega)).trans dx4
  have x5 := (HN.out.2.1.cell (p := ⟨bb, off + 5, none⟩) (by dsimp only; omega)).trans dx5
  have x6 := (HN.out.2.1.cell (p := ⟨bb, off + 6, none⟩) (by dsimp only; omega)).trans dx6
  have x7 := (HN.out.2.1.cell (p := ⟨bb, off + 7, none⟩) (by dsimp only; omega)).trans dx7
  clear dx0 dy0 dx1 dy1 dx2 dy2 dx3 dy3 dx4 dy4 dx5 dy5 dx6 dy6 dx7 dy7
  have hA0 : SiN (V.alloc (.cells (siV (sA n) xA xc) 34)) w3.heap.size w2.heap.size (sA n) := by
    have h := Blk.new V 34 (siV (sA n) xA xc)
    rw [hsV] at h
    exact ⟨xA, xc, h, hrx.up ((Below.refl _ V).alloc (Nat.le_refl _) _), fun h0 ad e => by have := hax ad h0 e; omega⟩
  have hB0 : SiN (V.alloc (.cells (siV (sA n) xA xc) 34)) w2.heap.size w3.heap.size (sC m 0) := by
    have h := HN.out.1.below ((Below.refl _ V).alloc (Nat.le_refl _) (.cells (siV (sA n) xA xc) 34))
    have e : sC m 0 = ⟨1, 1, 2, m, lin1 m, -1, true, true⟩ := by simp [sC, lin2]
    rw [e]
    exact h
  have hbW := (HB.out.2.2.2.1.trans (HN.out.2.1.mono HB.out.2.2.2.1.size)).alloc (by have := HB.out.2.2.2.1.size; omega) (.cells (siV (sA n) xA xc) 34)
  simp only [siV, sA] at hA0 hB0 hbW
  have HS := Lib.hid (And.intro hA0 (And.intro hB0 hbW))
  clear hA0 hB0 hbW hrx hax hb23 hk3 hr3 hf3 hb3
  have hww2 := HB.out.2.2.2.1.size
  go_wp2_with fail
  go_loopw [13, 15] (fun u13 u15 W => ∃ k : Nat, k ≤ o ∧ u15 = .int .i64 (k : Nat) ∧ u13 = .int .i64 0 ∧ SiN W w3.heap.size w2.heap.size (sA ((n : Int) + k)) ∧ SiN W w2.heap.size w3.heap.size (sC m 0) ∧ Below w.heap.size w W) (fun _ u15 _ => o - (intOf u15).toNat)
  case atStart => exact ⟨0, Nat.zero_le _, rfl, rfl, by have h := HS.out.1; simpa [sA] using h, HS.out.2.1, HS.out.2.2⟩
  case round =>
    obtain ⟨k, hk, rfl, rfl, hA, hB, hbel⟩ := hrel
    clear HS
    by_cases hlt : k < o
    · have hlt' : (k : Int) < o := by omega
      obtain ⟨A4, c4, hA1, hA2, hA3⟩ := hA
      have x0 : wr.cell? ⟨w3.heap.size, 0, none⟩ = some (.int .i64 0) := hA1.cell 0
      have x1 : wr.cell? ⟨w3.heap.size, 1, none⟩ = some (.int .i64 1) := hA1.cell 1
      have x2 : wr.cell? ⟨w3.heap.size, 2, none⟩ = some (.int .i64 1) := hA1.cell 2
      have x3 : wr.cell? ⟨w3.heap.size, 3, none⟩ = some (.int .i64 ((n : Int) + k)) := hA1.cell 3
      have x4 : wr.cell? ⟨w3.heap.size, 4, none⟩ = some (.slice A4 (lin1 ((n : Int) + k)).length c4) := hA1.cell 4
      have x5 : wr.cell? ⟨w3.heap.size, 5, none⟩ = some (.int .i64 (-1)) := hA1.cell 5
      have x6 : wr.cell? ⟨w3.heap.size, 6, none⟩ = some (.bool true) := hA1.cell 6
      have x7 : wr.cell? ⟨w3.heap.size, 7, none⟩ = some (.bool true) := hA1.cell 7
      have hgA := hA1.lt
      have hgB : w2.heap.size < wr.heap.size := by obtain ⟨_, _, h, _⟩ := hB; exact h.lt
      have hcall := Apply_ok (sA ((n : Int) + k)) A4 c4 (lin1 ((n : Int) + k + 1)) ((n : Int) + k + 1) wr hA2 (sA_ok _ (by omega)) (.inl rfl) (by simp [sA]) (by simp [sA]; omega) (by omega) (ext1 _ (by omega))
      simp only [siV, sA] at hcall
      have HC := Lib.hid hcall
      have HR := Lib.hid (And.intro hA1 (And.intro hB hbel))
      clear hcall hA1 hA2 hA3 hB hbel
      go_wp2_with fail
      refine HC.out.mono ?_
      clear HC
      rintro e w4 ⟨⟨A5, c5, rfl, hr4, hf4⟩, hb4⟩
      have hk4 := HR.out.1.below hb4 hgA
      clear x0 x1 x2 x3 x4 x5 x6 x7
      have x0 : w4.cell? ⟨w3.heap.size, 0, none⟩ = some (.int .i64 0) := hk4.cell 0
      have x1 : w4.cell? ⟨w3.heap.size, 1, none⟩ = some (.int .i64 1) := hk4.cell 1
      have x2 : w4.cell? ⟨w3.heap.size, 2, none⟩ = some (.int .i64 1) := hk4.cell 2
      have x3 : w4.cell? ⟨w3.heap.size, 3, none⟩ = some (.int .i64 ((n : Int) + k)) := hk4.cell 3
      have x4 : w4.cell? ⟨w3.heap.size, 4, none⟩ = some (.slice A4 (lin1 ((n : Int) + k)).length c4) := hk4.cell 4
      have x5 : w4.cell? ⟨w3.heap.size, 5, none⟩ = some (.int .i64 (-1)) := hk4.cell 5
      have x6 : w4.cell? ⟨w3.heap.size, 6, none⟩ = some (.bool true) := hk4.cell 6
      have x7 : w4.cell? ⟨w3.heap.size, 7, none⟩ = some (.bool true) := hk4.cell 7
      have z0 := hk4.frozen 0
      have z1 := hk4.frozen 1
      have z2 := hk4.frozen 2
      have z3 := hk4.frozen 3
      have z4 := hk4.frozen 4
      have z5 := hk4.frozen 5
      have z6 := hk4.frozen 6
      have z7 := hk4.frozen 7
      have hl4 := hk4.lt
      have hs4 := hb4.size
      have HM := Lib.hid (And.intro (SiN.put (g' := w2.heap.size) (s' := sA ((n : Int) + k + 1)) (c' := c5) hk4 hr4 (fun h0 ad e => by have := hf4 ad e; omega)) (And.intro ((HR.out.2.1.below hb4).other (g' := w3.heap.size) (by omega) (.int .i64 0) (.int .i64 1) (.int .i64 1) (.int .i64 ((n : Int) + k + 1)) (.slice A5 (lin1 ((n : Int) + k + 1)).length c5) (.int .i64 (-1)) (.bool true) (.bool true)) (below8 (HR.out.2.2.trans (hb4.mono HR.out.2.2.size)) (g := w3.heap.size) (by omega) (.int .i64 0) (.int .i64 1) (.int .i64 1) (.int .i64 ((n : Int) + k + 1)) (.slice A5 (lin1 ((n : Int) + k + 1)).length c5) (.int .i64 (-1)) (.bool true) (.bool true))))
      clear hk4 hr4 hf4 hb4
      simp only [sA] at HM
      unfold siV
      dsimp only
      go_wp2_with fail
      go_roundw
      case rel =>
        have e : ((n : Int) + (k + 1 : Nat)) = (n : Int) + k + 1 := by omega
        exact ⟨k + 1, by omega, by go_num, rfl, by rw [e]; exact HM.out.1, HM.out.2.1, HM.out.2.2⟩
      case measure => simp [intOf]; omega
    · obtain rfl : k = o := by omega
      have HR := Lib.hid (And.intro hA (And.intro hB hbel))
      clear hA hB hbel
      go_wp2_with fail
      go_loopw [13, 16] (fun u13 u16 W => ∃ j : Nat, j ≤ q ∧ u16 = .int .i64 (j : Nat) ∧ u13 = .int .i64 0 ∧ SiN W w3.heap.size w2.heap.size (sA ((n : Int) + k)) ∧ SiN W w2.heap.size w3.heap.size (sC m j) ∧ Below w.heap.size w W) (fun _ u16 _ => q - (intOf u16).toNat)
      case atStart => exact ⟨0, Nat.zero_le _, rfl, rfl, HR.out.1, HR.out.2.1, HR.out.2.2⟩
      case round =>
        obtain ⟨j, hj, rfl, rfl, hA, hB, hbel⟩ := hrel
        clear HR
        by_cases hlt2 : j < q
        · have hlt2' : (j : Int) < q := by omega
          obtain ⟨A4, c4, hB1, hB2, hB3⟩ := hB
          have x0 : wr.cell? ⟨w2.heap.size, 0, none⟩ = some (.int .i64 1) := hB1.cell 0
          have x1 : wr.cell? ⟨w2.heap.size, 1, none⟩ = some (.int .i64 1) := hB1.cell 1
          have x2 : wr.cell? ⟨w2.heap.size, 2, none⟩ = some (.int .i64 2) := hB1.cell 2
          have x3 : wr.cell? ⟨w2.heap.size, 3, none⟩ = some (.int .i64 ((m : Int) + j)) := hB1.cell 3
          have x4 : wr.cell? ⟨w2.heap.size, 4, none⟩ = some (.slice A4 (lin2 m j).length c4) := hB1.cell 4
          have x5 : wr.cell? ⟨w2.heap.size, 5, none⟩ = some (.int .i64 (-1)) := hB1.cell 5
          have x6 : wr.cell? ⟨w2.heap.size, 6, none⟩ = some (.bool true) := hB1.cell 6
          have x7 : wr.cell? ⟨w2.heap.size, 7, none⟩ = some (.bool true) := hB1.cell 7
          have hgB := hB1.lt
          have hgA : w3.heap.size < wr.heap.size := by obtain ⟨_, _, h, _⟩ := hA; exact h.lt
          have hcall := Apply_ok (sC m j) A4 c4 (lin2 m ((j : Int) + 1)) ((m : Int) + j + 1) wr hB2 (sC_ok _ _ (by omega) (by omega)) (.inl rfl) (by simp [sC]) (by simp [sC]; omega) (by omega) (ext2 _ _ (by omega))
          simp only [siV, sC] at hcall
          have HC := Lib.hid hcall
          have HR := Lib.hid (And.intro hB1 (And.intro hA hbel))
          clear hcall hB1 hB2 hB3 hA hbel
          go_wp2_with fail
          refine HC.out.mono ?_
          clear HC
          rintro e w4 ⟨⟨A5, c5, rfl, hr4, hf4⟩, hb4⟩
          have hk4 := HR.out.1.below hb4 hgB
          clear x0 x1 x2 x3 x4 x5 x6 x7
          have x0 : w4.cell? ⟨w2.heap.size, 0, none⟩ = some (.int .i64 1) := hk4.cell 0
          have x1 : w4.cell? ⟨w2.heap.size, 1, none⟩ = some (.int .i64 1) := hk4.cell 1
          have x2 : w4.cell? ⟨w2.heap.size, 2, none⟩ = some (.int .i64 2) := hk4.cell 2
          have x3 : w4.cell? ⟨w2.heap.size, 3, none⟩ = some (.int .i64 ((m : Int) + j)) := hk4.cell 3
          have x4 : w4.cell? ⟨w2.heap.size, 4, none⟩ = some (.slice A4 (lin2 m j).length c4) := hk4.cell 4
          have x5 : w4.cell? ⟨w2.heap.size, 5, none⟩ = some (.int .i64 (-1)) := hk4.cell 5
          have x6 : w4.cell? ⟨w2.heap.size, 6, none⟩ = some (.bool true) := hk4.cell 6
          have x7 : w4.cell? ⟨w2.heap.size, 7, none⟩ = some (.bool true) := hk4.cell 7
          have z0 := hk4.frozen 0
          have z1 := hk4.frozen 1
          have z2 := hk4.frozen 2
          have z3 := hk4.frozen 3
          have z4 := hk4.frozen 4
          have z5 := hk4.frozen 5
          have z6 := hk4.frozen 6
          have z7 := hk4.frozen 7
          have hl4 := hk4.lt
          have hs4 := hb4.size
          have HM := Lib.hid (And.intro (SiN.put (g' := w3.heap.size) (s' := ⟨1, 1, 2, (m : Int) + j + 1, lin2 m ((j : Int) + 1), -1, true, true⟩) (c' := c5) hk4 hr4 (fun h0 ad e => by have := hf4 ad e; omega)) (And.intro ((HR.out.2.1.below hb4).other (g' := w2.heap.size) (by omega) (.int .i64 1) (.int .i64 1) (.int .i64 2) (.int .i64 ((m : Int) + j + 1)) (.slice A5 (lin2 m ((j : Int) + 1)).length c5) (.int .i64 (-1)) (.bool true) (.bool true)) (below8 (HR.out.2.2.trans (hb4.mono HR.out.2.2.size)) (g := w2.heap.size) (by omega) (.int .i64 1) (.int .i64 1) (.int .i64 2) (.int .i64 ((m : Int) + j + 1)) (.slice A5 (lin2 m ((j : Int) + 1)).length c5) (.int .i64 (-1)) (.bool true) (.bool true))))
          clear hk4 hr4 hf4 hb4
          unfold siV
          dsimp only
          go_wp2_with fail
          go_roundw
          case rel =>
            have e2 : ((j : Int) + 1) = ((j + 1 : Nat) : Int) := by omega
            refine ⟨j + 1, by omega, by go_num, rfl, HM.out.2.1, ?_, HM.out.2.2⟩
            have h := HM.out.1
            unfold sC
            rw [← e2, ← Int.add_assoc]
            exact h
          case measure => simp [intOf]; omega
        · obtain rfl : j = q := by omega
          obtain ⟨A4, c4, hA1, hA2, hA3⟩ := hA
          obtain ⟨A5, c5, hB1, hB2, hB3⟩ := hB
          have x0 : wr.cell? ⟨w3.heap.size, 0, none⟩ = some (.int .i64 0) := hA1.cell 0
          have x1 : wr.cell? ⟨w3.heap.size, 1, none⟩ = some (.int .i64 1) := hA1.cell 1
          have x2 : wr.cell? ⟨w3.heap.size, 2, none⟩ = some (.int .i64 1) := hA1.cell 2
          have x3 : wr.cell? ⟨w3.heap.size, 3, none⟩ = some (.int .i64 ((n : Int) + k)) := hA1.cell 3
          have x4 : wr.cell? ⟨w3.heap.size, 4, none⟩ = some (.slice A4 (lin1 ((n : Int) + k)).length c4) := hA1.cell 4
          have x5 : wr.cell? ⟨w3.heap.size, 5, none⟩ = some (.int .i64 (-1)) := hA1.cell 5
          have x6 : wr.cell? ⟨w3.heap.size, 6, none⟩ = some (.bool true) := hA1.cell 6
          have x7 : wr.cell? ⟨w3.heap.size, 7, none⟩ = some (.bool true) := hA1.cell 7
          have y0 : wr.cell? ⟨w2.heap.size, 0, none⟩ = some (.int .i64 1) := hB1.cell 0
          have y1 : wr.cell? ⟨w2.heap.size, 1, none⟩ = some (.int .i64 1) := hB1.cell 1
          have y2 : wr.cell? ⟨w2.heap.size, 2, none⟩ = some (.int .i64 2) := hB1.cell 2
          have y3 : wr.cell? ⟨w2.heap.size, 3, none⟩ = some (.int .i64 ((m : Int) + j)) := hB1.cell 3
          have y4 : wr.cell? ⟨w2.heap.size, 4, none⟩ = some (.slice A5 (lin2 m j).length c5) := hB1.cell 4
          have y5 : wr.cell? ⟨w2.heap.size, 5, none⟩ = some (.int .i64 (-1)) := hB1.cell 5
          have y6 : wr.cell? ⟨w2.heap.size, 6, none⟩ = some (.bool true) := hB1.cell 6
          have y7 : wr.cell? ⟨w2.heap.size, 7, none⟩ = some (.bool true) := hB1.cell 7
          have HX2 := Lib.hid (And.intro hA2 (And.intro hB2 hbel))
          clear hA1 hA2 hA3 hB1 hB2 hB3 hbel
          go_wp2_with fail
          have hkn := Blk.new wr 34 #[.int .i64 0, .int .i64 1, .int .i64 1, .int .i64 ((n : Int) + k), .slice A4 (lin1 ((n : Int) + k)).length c4, .int .i64 (-1), .bool true, .bool true, .int .i64 1, .int .i64 1, .int .i64 2, .int .i64 ((m : Int) + j), .slice A5 (lin2 m j).length c5, .int .i64 (-1), .bool true, .bool true]
          have hbn : Below wr.heap.size wr (wr.alloc (.cells #[.int .i64 0, .int .i64 1, .int .i64 1, .int .i64 ((n : Int) + k), .slice A4 (lin1 ((n : Int) + k)).length c4, .int .i64 (-1), .bool true, .bool true, .int .i64 1, .int .i64 1, .int .i64 2, .int .i64 ((m : Int) + j), .slice A5 (lin2 m j).length c5, .int .i64 (-1), .bool true, .bool true] 34)) := (Below.refl _ wr).alloc (Nat.le_refl _) _
          have HN2 := Lib.hid (And.intro hkn hbn)
          clear hkn hbn
          go_ret2
          exact ⟨⟨_, _, A4, c4, A5, c5, rfl, HN2.out.1.reads_take (size := 8) (n := 2) (by simp), HX2.out.1.up HN2.out.2, HX2.out.2.1.up HN2.out.2⟩, HX2.out.2.2.trans (HN2.out.2.mono HX2.out.2.2.size)⟩
end Go.Proofs.Ythkajcioeemilaa
