/- The walk of trySites. Conditions: at most eight cycles, no more applied. -/
import Derived.Test.YthkajcioeemilaaWn
import Derived.Test.YthkajcioeemilaaMath
import Derived.Test.YthkajcioeemilaaWj
namespace Go.Proofs.Ythkajcioeemilaa
open Go.RowKit
def sA (n : Int) : Si := ⟨0, 1, 1, n, lin1 n, -1, true, true⟩
def sB (m : Int) : Si := ⟨1, 2, 1, m, lin1 m, 0, true, true⟩
def s0 : Si := ⟨0, 0, 0, 0, [], -1, true, true⟩
theorem s0_ok : SiOk s0 := ⟨by simp [s0], by simp [s0], by simp [s0], by simp [s0], by simp [s0], by simp [s0], trivial, by simp [s0, hdS], by simp [s0, hdS], by simp [s0, recvB]⟩
theorem sA_ok (n : Int) (h : 0 ≤ n ∧ n ≤ 100) : SiOk (sA n) := by
  obtain ⟨h1, h2, h3, h4⟩ := lin1_ok n h
  exact ⟨by simp [sA], by simp [sA], by simp [sA], by simp [sA]; omega, by simp [sA], by simp [sA]; omega, h1, h2, h3, by simp [sA, recvB]⟩
theorem sB_ok (n : Int) (h : 0 ≤ n ∧ n ≤ 100) : SiOk (sB n) := by
  obtain ⟨h1, h2, h3, h4⟩ := lin1_ok n h
  exact ⟨by simp [sB], by simp [sB], by simp [sB], by simp [sB]; omega, by simp [sB], by simp [sB]; omega, h1, h2, h3, by simp [sB, recvB]⟩
theorem SiR.far1 {W : World} {A : Option Addr} {s : Si} (h : SiR W A s) {p : Addr} (hA : 0 < s.l.length → ∀ ad, A = some ad → ad.block ≠ p.block) (u : Value) : SiR (W.setCell p u) A s := by
  unfold SiR at *
  rw [World.size_setCell]
  rcases Nat.eq_zero_or_pos s.l.length with h0 | h0
  · exact ⟨h.1, fun h1 => absurd h1 (by omega)⟩
  · exact h.far (hA h0) u
theorem SiR.far8 {W : World} {A : Option Addr} {s : Si} (h : SiR W A s) {g : Nat} (hA : 0 < s.l.length → ∀ ad, A = some ad → ad.block ≠ g) (v0 v1 v2 v3 v4 v5 v6 v7 : Value) :
    SiR ((((((((W.setCell ⟨g, 0, none⟩ v0).setCell ⟨g, 1, none⟩ v1).setCell ⟨g, 2, none⟩ v2).setCell ⟨g, 3, none⟩ v3).setCell ⟨g, 4, none⟩ v4).setCell ⟨g, 5, none⟩ v5).setCell ⟨g, 6, none⟩ v6).setCell ⟨g, 7, none⟩ v7) A s :=
  (((((((h.far1 (p := ⟨g, 0, none⟩) hA _).far1 (p := ⟨g, 1, none⟩) hA _).far1 (p := ⟨g, 2, none⟩) hA _).far1 (p := ⟨g, 3, none⟩) hA _).far1 (p := ⟨g, 4, none⟩) hA _).far1 (p := ⟨g, 5, none⟩) hA _).far1 (p := ⟨g, 6, none⟩) hA _).far1 (p := ⟨g, 7, none⟩) hA _
/-- a site in a block; its lineage does not lie below lo -/
def SiB (W : World) (lo g : Nat) (s : Si) : Prop := ∃ A c, Blk W g 34 (siV s A c) ∧ SiR W A s ∧ (0 < s.l.length → ∀ ad, A = some ad → lo ≤ ad.block)
theorem SiB.below {W W' : World} {lo g : Nat} {s : Si} (h : SiB W lo g s) (hb : Below W.heap.size W W') : SiB W' lo g s := by
  obtain ⟨A, c, h1, h2, h3⟩ := h
  exact ⟨A, c, h1.below hb h1.lt, h2.up hb, h3⟩
theorem SiB.put {W : World} {lo g : Nat} {s s' : Si} {A A' : Option Addr} {c c' : Nat} (h : Blk W g 34 (siV s A c)) (hr : SiR W A' s') (hA : ∀ ad, A' = some ad → lo ≤ ad.block) (hg : g < lo) :
    SiB ((((((((W.setCell ⟨g, 0, none⟩ (.int .i64 s'.num)).setCell ⟨g, 1, none⟩ (.int .i64 s'.role)).setCell ⟨g, 2, none⟩ (.int .i64 s'.ep)).setCell ⟨g, 3, none⟩ (.int .i64 s'.ap)).setCell ⟨g, 4, none⟩ (.slice A' s'.l.length c')).setCell ⟨g, 5, none⟩ (.int .i64 s'.src)).setCell ⟨g, 6, none⟩ (.bool s'.al)).setCell ⟨g, 7, none⟩ (.bool s'.co)) lo g s' := by
  have hB := (((((((h.set_ 0 (.int .i64 s'.num)).set_ 1 (.int .i64 s'.role)).set_ 2 (.int .i64 s'.ep)).set_ 3 (.int .i64 s'.ap)).set_ 4 (.slice A' s'.l.length c')).set_ 5 (.int .i64 s'.src)).set_ 6 (.bool s'.al)).set_ 7 (.bool s'.co)
  simp only [siV, List.setIfInBounds_toArray, List.set_cons_zero, List.set_cons_succ] at hB
  exact ⟨A', c', hB, hr.far8 (fun _ ad e => by have := hA ad e; omega) _ _ _ _ _ _ _ _, fun _ => hA⟩
theorem SiB.other {W : World} {lo g g' : Nat} {s : Si} (h : SiB W lo g s) (hne : g ≠ g') (hg : g' < lo) (v0 v1 v2 v3 v4 v5 v6 v7 : Value) :
    SiB ((((((((W.setCell ⟨g', 0, none⟩ v0).setCell ⟨g', 1, none⟩ v1).setCell ⟨g', 2, none⟩ v2).setCell ⟨g', 3, none⟩ v3).setCell ⟨g', 4, none⟩ v4).setCell ⟨g', 5, none⟩ v5).setCell ⟨g', 6, none⟩ v6).setCell ⟨g', 7, none⟩ v7) lo g s := by
  obtain ⟨A, c, h1, h2, h3⟩ := h
  exact ⟨A, c, (((((((h1.far (p := ⟨g', 0, none⟩) hne _).far (p := ⟨g', 1, none⟩) hne _).far (p := ⟨g', 2, none⟩) hne _).far (p := ⟨g', 3, none⟩) hne _).far (p := ⟨g', 4, none⟩) hne _).far (p := ⟨g', 5, none⟩) hne _).far (p := ⟨g', 6, none⟩) hne _).far (p := ⟨g', 7, none⟩) hne _, h2.far8 (fun h0 ad e => by have := h3 h0 ad e; omega) _ _ _ _ _ _ _ _, h3⟩
theorem below8 {B : Nat} {w W : World} (h : Below B w W) {g : Nat} (hg : B ≤ g) (v0 v1 v2 v3 v4 v5 v6 v7 : Value) :
    Below B w ((((((((W.setCell ⟨g, 0, none⟩ v0).setCell ⟨g, 1, none⟩ v1).setCell ⟨g, 2, none⟩ v2).setCell ⟨g, 3, none⟩ v3).setCell ⟨g, 4, none⟩ v4).setCell ⟨g, 5, none⟩ v5).setCell ⟨g, 6, none⟩ v6).setCell ⟨g, 7, none⟩ v7) :=
  (((((((h.setCell (p := ⟨g, 0, none⟩) hg _).setCell (p := ⟨g, 1, none⟩) hg _).setCell (p := ⟨g, 2, none⟩) hg _).setCell (p := ⟨g, 3, none⟩) hg _).setCell (p := ⟨g, 4, none⟩) hg _).setCell (p := ⟨g, 5, none⟩) hg _).setCell (p := ⟨g, 6, none⟩) hg _).setCell (p := ⟨g, 7, none⟩) hg _
/-- two sites in a list, as the answer -/
structure SitesR (x y : Si) (w : World) (e : Ending) (w' : World) : Prop where
  ret : ∃ A c xA xc yA yc, e = .returned (.tuple #[.slice A 2 c, .bool true]) ∧ Reads w' w'.heap.size 8 A 2 ([⟨x, xA, xc⟩, ⟨y, yA, yc⟩].flatMap encSv) ∧ SiR w' xA x ∧ SiR w' yA y
  bel : Below w.heap.size w w'
theorem bcell {W w1 : World} (hb : Below W.heap.size W w1) : (∀ b o, b < W.heap.size → w1.cell? ⟨b, o, none⟩ = W.cell? ⟨b, o, none⟩) ∧ (∀ b o, b < W.heap.size → w1.frozen? ⟨b, o, none⟩ = W.frozen? ⟨b, o, none⟩) :=
  ⟨fun b o h => hb.cell (p := ⟨b, o, none⟩) h, fun b o h => hb.frozen (p := ⟨b, o, none⟩) h⟩
set_option linter.unusedSimpArgs false in
set_option maxRecDepth 100000 in
set_option maxHeartbeats 4000000 in
theorem trySites_ok (n m : Nat) (hm : m ≤ n) (hn : n ≤ 8) (w : World) : Calls Try.prog 8 #[.int .i64 n, .int .i64 m] w (SitesR (sA n) (sB m) w) := by
  go_enter Try.func8, Try.ntmps8
  go_wp2_with fail
  refine (Promote_ok s0 none 0 1 _ Reads.none_ s0_ok rfl (.inl ⟨rfl, rfl⟩) (by simp [s0]) (by omega)).mono ?_
  rintro e w1 ⟨⟨A1, c1, rfl, hr1, hf1⟩, hb1⟩
  have hbw : Below w.heap.size w w1 := ((Below.refl _ w).alloc (Nat.le_refl _) _).trans (hb1.mono (by simp))
  have hk1 : Blk w1 w.heap.size 34 (siV s0 none 0) := (Blk.new w 34 (siV s0 none 0)).below hb1 (by simp)
  have x0 : w1.cell? ⟨w.heap.size, 0, none⟩ = some (.int .i64 0) := hk1.cell 0
  have x1 : w1.cell? ⟨w.heap.size, 1, none⟩ = some (.int .i64 0) := hk1.cell 1
  have x2 : w1.cell? ⟨w.heap.size, 2, none⟩ = some (.int .i64 0) := hk1.cell 2
  have x3 : w1.cell? ⟨w.heap.size, 3, none⟩ = some (.int .i64 0) := hk1.cell 3
  have x4 : w1.cell? ⟨w.heap.size, 4, none⟩ = some (.slice none 0 0) := hk1.cell 4
  have x5 : w1.cell? ⟨w.heap.size, 5, none⟩ = some (.int .i64 (-1)) := hk1.cell 5
  have x6 : w1.cell? ⟨w.heap.size, 6, none⟩ = some (.bool true) := hk1.cell 6
  have x7 : w1.cell? ⟨w.heap.size, 7, none⟩ = some (.bool true) := hk1.cell 7
  have z0 := hk1.frozen 0
  have z1 := hk1.frozen 1
  have z2 := hk1.frozen 2
  have z3 := hk1.frozen 3
  have z4 := hk1.frozen 4
  have z5 := hk1.frozen 5
  have z6 := hk1.frozen 6
  have z7 := hk1.frozen 7
  have hl1 := hk1.lt
  have HK := Lib.hid (And.intro hbw (And.intro hk1 (And.intro hr1 hf1)))
  clear hbw hk1 hr1 hf1 hb1
  unfold siV
  dsimp only [s0]
  go_wp2_with fail
  have hz1 := hl1
  have hI : SiB ((((((((w1.setCell ⟨w.heap.size, 0, none⟩ (.int .i64 0)).setCell ⟨w.heap.size, 1, none⟩ (.int .i64 1)).setCell ⟨w.heap.size, 2, none⟩ (.int .i64 1)).setCell ⟨w.heap.size, 3, none⟩ (.int .i64 0)).setCell ⟨w.heap.size, 4, none⟩ (.slice A1 0 c1)).setCell ⟨w.heap.size, 5, none⟩ (.int .i64 (-1))).setCell ⟨w.heap.size, 6, none⟩ (.bool true)).setCell ⟨w.heap.size, 7, none⟩ (.bool true)) (w1.heap.size + 1) w.heap.size (sA 0) := by
    obtain ⟨A9, c9, h1, h2, h3⟩ := SiB.put (s' := ⟨0, 1, 1, 0, [], -1, true, true⟩) (lo := w.heap.size + 1) (c' := c1) HK.out.2.1 HK.out.2.2.1 (fun ad e => by have := HK.out.2.2.2 ad e; simp at this; omega) (Nat.lt_succ_self _)
    exact ⟨A9, c9, h1, h2, fun h => absurd h (by simp [sA, lin1])⟩
  have hbV := below8 HK.out.1 (Nat.le_refl w.heap.size) (.int .i64 0) (.int .i64 1) (.int .i64 1) (.int .i64 0) (.slice A1 0 c1) (.int .i64 (-1)) (.bool true) (.bool true)
  generalize hV : ((((((((w1.setCell ⟨w.heap.size, 0, none⟩ (.int .i64 0)).setCell ⟨w.heap.size, 1, none⟩ (.int .i64 1)).setCell ⟨w.heap.size, 2, none⟩ (.int .i64 1)).setCell ⟨w.heap.size, 3, none⟩ (.int .i64 0)).setCell ⟨w.heap.size, 4, none⟩ (.slice A1 0 c1)).setCell ⟨w.heap.size, 5, none⟩ (.int .i64 (-1))).setCell ⟨w.heap.size, 6, none⟩ (.bool true)).setCell ⟨w.heap.size, 7, none⟩ (.bool true)) = V at *
  have hsV : V.heap.size = w1.heap.size := by rw [← hV]; simp only [World.size_setCell]
  clear hV x0 x1 x2 x3 x4 x5 x6 x7 z0 z1 z2 z3 z4 z5 z6 z7
  have hB0 : SiB (V.alloc (.cells #[.int .i64 1, .int .i64 2, .int .i64 1, .int .i64 0, .slice none 0 0, .int .i64 0, .bool true, .bool true] 34)) (w1.heap.size + 1) w1.heap.size (sB 0) := by
    have h := Blk.new V 34 #[.int .i64 1, .int .i64 2, .int .i64 1, .int .i64 0, .slice none 0 0, .int .i64 0, .bool true, .bool true]
    rw [hsV] at h
    exact ⟨none, 0, h, Reads.none_, fun h => absurd h (by simp [sB, lin1])⟩
  have hA0 := hI.below ((Below.refl _ V).alloc (Nat.le_refl _) (.cells #[.int .i64 1, .int .i64 2, .int .i64 1, .int .i64 0, .slice none 0 0, .int .i64 0, .bool true, .bool true] 34))
  have hbW := hbV.alloc (by omega) (.cells #[.int .i64 1, .int .i64 2, .int .i64 1, .int .i64 0, .slice none 0 0, .int .i64 0, .bool true, .bool true] 34)
  have HS := Lib.hid (And.intro hA0 (And.intro hB0 hbW))
  clear hI hB0 hA0 hbW hbV hsV
  have hmn : (m : Int) ≤ n := by omega
  go_loopw [7, 9] (fun u7 u9 W => ∃ k : Nat, k ≤ n ∧ u9 = .int .i64 ((k : Int) + 1) ∧ u7 = .int .i64 0 ∧ SiB W (w1.heap.size + 1) w.heap.size (sA k) ∧ SiB W (w1.heap.size + 1) w1.heap.size (sB (min k m : Nat)) ∧ Below w.heap.size w W) (fun _ u9 _ => n + 1 - (intOf u9).toNat)
  case atStart => exact ⟨0, Nat.zero_le _, rfl, rfl, HS.out.1, by rw [Nat.zero_min]; exact HS.out.2.1, HS.out.2.2⟩
  case round =>
    obtain ⟨k, hk, rfl, rfl, hA, hB, hbel⟩ := hrel
    clear HS
    obtain ⟨A3, c3, hA1, hA2, hA3⟩ := hA
    obtain ⟨A4, c4, hB1, hB2, hB3⟩ := hB
    have x0 : wr.cell? ⟨w.heap.size, 0, none⟩ = some (.int .i64 0) := hA1.cell 0
    have x1 : wr.cell? ⟨w.heap.size, 1, none⟩ = some (.int .i64 1) := hA1.cell 1
    have x2 : wr.cell? ⟨w.heap.size, 2, none⟩ = some (.int .i64 1) := hA1.cell 2
    have x3 : wr.cell? ⟨w.heap.size, 3, none⟩ = some (.int .i64 (k : Nat)) := hA1.cell 3
    have x4 : wr.cell? ⟨w.heap.size, 4, none⟩ = some (.slice A3 (lin1 k).length c3) := hA1.cell 4
    have x5 : wr.cell? ⟨w.heap.size, 5, none⟩ = some (.int .i64 (-1)) := hA1.cell 5
    have x6 : wr.cell? ⟨w.heap.size, 6, none⟩ = some (.bool true) := hA1.cell 6
    have x7 : wr.cell? ⟨w.heap.size, 7, none⟩ = some (.bool true) := hA1.cell 7
    have z0 := hA1.frozen 0
    have z1 := hA1.frozen 1
    have z2 := hA1.frozen 2
    have z3 := hA1.frozen 3
    have z4 := hA1.frozen 4
    have z5 := hA1.frozen 5
    have z6 := hA1.frozen 6
    have z7 := hA1.frozen 7
    have hgA := hA1.lt
    have hgB := hB1.lt
    by_cases hlt : k < n
    · have hlt' : (k : Int) + 1 ≤ n := by omega
      have HX := Lib.hid (And.intro hA1 (And.intro hA2 (And.intro hA3 (And.intro hB1 (And.intro hB2 (And.intro hB3 hbel))))))
      clear hA1 hA2 hA3 hB1 hB2 hB3 hbel
      have hcall := Apply_ok (sA k) A3 c3 (lin1 ((k : Int) + 1)) ((k : Int) + 1) wr HX.out.2.1 (sA_ok k (by omega)) (.inl rfl) (by simp [sA]) (by simp [sA]; omega) (by omega) (ext1 k (by omega))
      simp only [siV, sA] at hcall
      have HC := Lib.hid hcall
      clear hcall
      go_wp2_with fail
      refine HC.out.mono ?_
      clear HC
      rintro e w2 ⟨⟨A5, c5, rfl, hr2, hf2⟩, hb2⟩
      have hk2 := HX.out.1.below hb2 hgA
      clear x0 x1 x2 x3 x4 x5 x6 x7 z0 z1 z2 z3 z4 z5 z6 z7
      have x0 : w2.cell? ⟨w.heap.size, 0, none⟩ = some (.int .i64 0) := hk2.cell 0
      have x1 : w2.cell? ⟨w.heap.size, 1, none⟩ = some (.int .i64 1) := hk2.cell 1
      have x2 : w2.cell? ⟨w.heap.size, 2, none⟩ = some (.int .i64 1) := hk2.cell 2
      have x3 : w2.cell? ⟨w.heap.size, 3, none⟩ = some (.int .i64 (k : Nat)) := hk2.cell 3
      have x4 : w2.cell? ⟨w.heap.size, 4, none⟩ = some (.slice A3 (lin1 k).length c3) := hk2.cell 4
      have x5 : w2.cell? ⟨w.heap.size, 5, none⟩ = some (.int .i64 (-1)) := hk2.cell 5
      have x6 : w2.cell? ⟨w.heap.size, 6, none⟩ = some (.bool true) := hk2.cell 6
      have x7 : w2.cell? ⟨w.heap.size, 7, none⟩ = some (.bool true) := hk2.cell 7
      have z0 := hk2.frozen 0
      have z1 := hk2.frozen 1
      have z2 := hk2.frozen 2
      have z3 := hk2.frozen 3
      have z4 := hk2.frozen 4
      have z5 := hk2.frozen 5
      have z6 := hk2.frozen 6
      have z7 := hk2.frozen 7
      have hl2 := hk2.lt
      have hB9 : SiB w2 (w1.heap.size + 1) w1.heap.size (sB (min k m : Nat)) := SiB.below ⟨A4, c4, HX.out.2.2.2.1, HX.out.2.2.2.2.1, HX.out.2.2.2.2.2.1⟩ hb2
      have hs2 := hb2.size
      have HN := Lib.hid (And.intro (SiB.put (s' := sA ((k : Int) + 1)) (lo := w1.heap.size + 1) (c' := c5) hk2 hr2 (fun ad e => by have := hf2 ad e; omega) (by omega)) (And.intro (hB9.other (g' := w.heap.size) (by omega) (by omega) (.int .i64 0) (.int .i64 1) (.int .i64 1) (.int .i64 ((k : Int) + 1)) (.slice A5 (lin1 ((k : Int) + 1)).length c5) (.int .i64 (-1)) (.bool true) (.bool true)) (below8 (HX.out.2.2.2.2.2.2.trans (hb2.mono HX.out.2.2.2.2.2.2.size)) (Nat.le_refl w.heap.size) (.int .i64 0) (.int .i64 1) (.int .i64 1) (.int .i64 ((k : Int) + 1)) (.slice A5 (lin1 ((k : Int) + 1)).length c5) (.int .i64 (-1)) (.bool true) (.bool true))))
      clear hk2 hr2 hf2 hb2 hB9
      simp only [sA] at HN
      unfold siV
      dsimp only
      go_upto_region 8 with fail
      generalize ((((((((w2.setCell ⟨w.heap.size, 0, none⟩ (.int .i64 0)).setCell ⟨w.heap.size, 1, none⟩ (.int .i64 1)).setCell ⟨w.heap.size, 2, none⟩ (.int .i64 1)).setCell ⟨w.heap.size, 3, none⟩ (.int .i64 ((k : Int) + 1))).setCell ⟨w.heap.size, 4, none⟩ (.slice A5 (lin1 ((k : Int) + 1)).length c5)).setCell ⟨w.heap.size, 5, none⟩ (.int .i64 (-1))).setCell ⟨w.heap.size, 6, none⟩ (.bool true)).setCell ⟨w.heap.size, 7, none⟩ (.bool true)) = V2 at *
      clear x0 x1 x2 x3 x4 x5 x6 x7 z0 z1 z2 z3 z4 z5 z6 z7 HX
      by_cases hkm : k < m
      · have hkm' : (k : Int) + 1 ≤ m := by omega
        obtain ⟨A6, c6, hB1, hB2, hB3⟩ := HN.out.2.1
        rw [Nat.min_eq_left (by omega)] at hB1 hB2 hB3
        have y0 : V2.cell? ⟨w1.heap.size, 0, none⟩ = some (.int .i64 1) := hB1.cell 0
        have y1 : V2.cell? ⟨w1.heap.size, 1, none⟩ = some (.int .i64 2) := hB1.cell 1
        have y2 : V2.cell? ⟨w1.heap.size, 2, none⟩ = some (.int .i64 1) := hB1.cell 2
        have y3 : V2.cell? ⟨w1.heap.size, 3, none⟩ = some (.int .i64 (k : Nat)) := hB1.cell 3
        have y4 : V2.cell? ⟨w1.heap.size, 4, none⟩ = some (.slice A6 (lin1 (k : Nat)).length c6) := hB1.cell 4
        have y5 : V2.cell? ⟨w1.heap.size, 5, none⟩ = some (.int .i64 0) := hB1.cell 5
        have y6 : V2.cell? ⟨w1.heap.size, 6, none⟩ = some (.bool true) := hB1.cell 6
        have y7 : V2.cell? ⟨w1.heap.size, 7, none⟩ = some (.bool true) := hB1.cell 7
        have hgB2 := hB1.lt
        have hcall := Apply_ok (sB k) A6 c6 (lin1 ((k : Int) + 1)) ((k : Int) + 1) V2 hB2 (sB_ok k (by omega)) (.inr rfl) (by simp [sB]) (by simp [sB]; omega) (by omega) (ext1 k (by omega))
        simp only [siV, sB] at hcall
        have HC := Lib.hid hcall
        have HB := Lib.hid hB1
        clear hcall hB1 hB2 hB3
        go_wp2_with fail
        refine HC.out.mono ?_
        clear HC
        rintro e w3 ⟨⟨A7, c7, rfl, hr3, hf3⟩, hb3⟩
        have hk3 := HB.out.below hb3 hgB2
        clear y0 y1 y2 y3 y4 y5 y6 y7
        have y0 : w3.cell? ⟨w1.heap.size, 0, none⟩ = some (.int .i64 1) := hk3.cell 0
        have y1 : w3.cell? ⟨w1.heap.size, 1, none⟩ = some (.int .i64 2) := hk3.cell 1
        have y2 : w3.cell? ⟨w1.heap.size, 2, none⟩ = some (.int .i64 1) := hk3.cell 2
        have y3 : w3.cell? ⟨w1.heap.size, 3, none⟩ = some (.int .i64 (k : Nat)) := hk3.cell 3
        have y4 : w3.cell? ⟨w1.heap.size, 4, none⟩ = some (.slice A6 (lin1 (k : Nat)).length c6) := hk3.cell 4
        have y5 : w3.cell? ⟨w1.heap.size, 5, none⟩ = some (.int .i64 0) := hk3.cell 5
        have y6 : w3.cell? ⟨w1.heap.size, 6, none⟩ = some (.bool true) := hk3.cell 6
        have y7 : w3.cell? ⟨w1.heap.size, 7, none⟩ = some (.bool true) := hk3.cell 7
        have z0 := hk3.frozen 0
        have z1 := hk3.frozen 1
        have z2 := hk3.frozen 2
        have z3 := hk3.frozen 3
        have z4 := hk3.frozen 4
        have z5 := hk3.frozen 5
        have z6 := hk3.frozen 6
        have z7 := hk3.frozen 7
        have hl3 := hk3.lt
        have hA9 := HN.out.1.below hb3
        have hs3 := hb3.size
        have HM := Lib.hid (And.intro (SiB.put (s' := sB ((k : Int) + 1)) (lo := w1.heap.size + 1) (c' := c7) hk3 hr3 (fun ad e => by have := hf3 ad e; omega) (by omega)) (And.intro (hA9.other (g' := w1.heap.size) (by omega) (by omega) (.int .i64 1) (.int .i64 2) (.int .i64 1) (.int .i64 ((k : Int) + 1)) (.slice A7 (lin1 ((k : Int) + 1)).length c7) (.int .i64 0) (.bool true) (.bool true)) (below8 (HN.out.2.2.trans (hb3.mono HN.out.2.2.size)) (g := w1.heap.size) (by omega) (.int .i64 1) (.int .i64 2) (.int .i64 1) (.int .i64 ((k : Int) + 1)) (.slice A7 (lin1 ((k : Int) + 1)).length c7) (.int .i64 0) (.bool true) (.bool true))))
        clear hk3 hr3 hf3 hb3 hA9
        simp only [sB] at HM
        unfold siV
        dsimp only
        go_wp2_with fail
        go_roundw
        case rel => exact ⟨k + 1, by omega, by go_num, rfl, HM.out.2.1, by rw [Nat.min_eq_left (by omega)]; exact HM.out.1, HM.out.2.2⟩
        case measure => simp [intOf]; omega
      · have hkm' : ¬ (k : Int) + 1 ≤ m := by omega
        go_wp2_with fail
        go_roundw
        case rel => exact ⟨k + 1, by omega, by go_num, rfl, HN.out.1, by rw [Nat.min_eq_right (by omega)]; have h := HN.out.2.1; rw [Nat.min_eq_right (by omega)] at h; exact h, HN.out.2.2⟩
        case measure => simp [intOf]; omega
    · obtain rfl : k = n := by omega
      rw [Nat.min_eq_right hm] at hB1 hB2
      have y0 : wr.cell? ⟨w1.heap.size, 0, none⟩ = some (.int .i64 1) := hB1.cell 0
      have y1 : wr.cell? ⟨w1.heap.size, 1, none⟩ = some (.int .i64 2) := hB1.cell 1
      have y2 : wr.cell? ⟨w1.heap.size, 2, none⟩ = some (.int .i64 1) := hB1.cell 2
      have y3 : wr.cell? ⟨w1.heap.size, 3, none⟩ = some (.int .i64 (m : Nat)) := hB1.cell 3
      have y4 : wr.cell? ⟨w1.heap.size, 4, none⟩ = some (.slice A4 (lin1 (m : Nat)).length c4) := hB1.cell 4
      have y5 : wr.cell? ⟨w1.heap.size, 5, none⟩ = some (.int .i64 0) := hB1.cell 5
      have y6 : wr.cell? ⟨w1.heap.size, 6, none⟩ = some (.bool true) := hB1.cell 6
      have y7 : wr.cell? ⟨w1.heap.size, 7, none⟩ = some (.bool true) := hB1.cell 7
      have hq : ¬ (k : Int) + 1 ≤ k := by omega
      have HX := Lib.hid (And.intro hA2 (And.intro hB2 hbel))
      clear hA1 hA2 hA3 hB1 hB2 hB3 hbel
      go_wp2_with fail
      have hkn := Blk.new wr 34 #[.int .i64 0, .int .i64 1, .int .i64 1, .int .i64 (k : Nat), .slice A3 (lin1 k).length c3, .int .i64 (-1), .bool true, .bool true, .int .i64 1, .int .i64 2, .int .i64 1, .int .i64 (m : Nat), .slice A4 (lin1 (m : Nat)).length c4, .int .i64 0, .bool true, .bool true]
      have hbn : Below wr.heap.size wr (wr.alloc (.cells #[.int .i64 0, .int .i64 1, .int .i64 1, .int .i64 (k : Nat), .slice A3 (lin1 k).length c3, .int .i64 (-1), .bool true, .bool true, .int .i64 1, .int .i64 2, .int .i64 1, .int .i64 (m : Nat), .slice A4 (lin1 (m : Nat)).length c4, .int .i64 0, .bool true, .bool true] 34)) := (Below.refl _ wr).alloc (Nat.le_refl _) _
      have HN := Lib.hid (And.intro hkn hbn)
      clear hkn hbn
      go_ret2
      exact ⟨⟨_, _, A3, c3, A4, c4, rfl, HN.out.1.reads_take (size := 8) (n := 2) (by simp), HX.out.1.up HN.out.2, HX.out.2.1.up HN.out.2⟩, HX.out.2.2.trans (HN.out.2.mono HX.out.2.2.size)⟩
end Go.Proofs.Ythkajcioeemilaa
