/- The walk of awake: the examples of the chapter. No condition. -/
import Derived.Test.YtehfnanhamaenaaWx
namespace Go.Proofs.Ytehfnanhamaenaa
open Go.RowKit Go.Shelf
def L0 : List Bk := [⟨-1, 10, 30, 0⟩, ⟨0, 2, 8, 0⟩, ⟨0, 9, 40, 0⟩]
def L1 : List Bk := [⟨-1, 10, 30, 30⟩, ⟨0, 2, 8, 8⟩, ⟨0, 9, 40, 40⟩]
def L2 : List Bk := [⟨-1, 10, 30, 5⟩, ⟨0, 2, 8, 8⟩, ⟨0, 9, 40, 15⟩]
def L3 : List Bk := [⟨-1, 10, 30, 30⟩, ⟨0, 2, 8, 8⟩, ⟨0, 9, 40, 40⟩]
theorem eN : newP L0 = ⟨0, L1, 0⟩ := by kernel_rfl
theorem eA1 : avV 0 L1 1 = 8 ∧ findV 0 L1 1 = 0 := ⟨by kernel_rfl, by kernel_rfl⟩
theorem eA2 : avV 0 L1 2 = 30 ∧ findV 0 L1 2 = 0 := ⟨by kernel_rfl, by kernel_rfl⟩
theorem eT : takV 0 L1 2 25 = ⟨0, L2, 0⟩ := by kernel_rfl
theorem eA3 : avV 0 L2 1 = 5 ∧ findV 0 L2 1 = 0 := ⟨by kernel_rfl, by kernel_rfl⟩
theorem eW : whenV 0 L2 1 6 = (1, 0) := by kernel_rfl
theorem eV : advP 0 L2 8 = ⟨8, L3, 0⟩ := by kernel_rfl
theorem bud3 {t er : Int} {l : List Bk} {e : Ending} {w : World} (hl : l.length = 3) (h : BudR t l er e w) : ∃ A c, e = .returned (.tuple #[budV t A 3 c, .int .i64 er]) ∧ RdB w A 3 l := by
  obtain ⟨A, c, h1, h2, _, _⟩ := h
  rw [hl] at h1 h2
  exact ⟨A, c, h1, h2⟩
set_option maxRecDepth 100000 in
set_option maxHeartbeats 1000000 in
theorem awake_any (w : World) : Calls Try.prog 11 #[] w fun e w' => e = .returned (.bool true) ∧ Below w.heap.size w w' := by
  go_enter Try.func11, Try.ntmps11
  go_wp2_with fail
  have hR0 : RdB (w.alloc (.cells #[.int .i64 (-1), .int .i64 10, .int .i64 30, .int .i64 0, .int .i64 0, .int .i64 2, .int .i64 8, .int .i64 0, .int .i64 0, .int .i64 9, .int .i64 40, .int .i64 0] 64)) (some ⟨w.heap.size, 0, none⟩) 3 L0 := Blk.reads (Blk.new w 64 _) rfl
  have hB0 : Below w.heap.size w (w.alloc (.cells #[.int .i64 (-1), .int .i64 10, .int .i64 30, .int .i64 0, .int .i64 0, .int .i64 2, .int .i64 8, .int .i64 0, .int .i64 0, .int .i64 9, .int .i64 40, .int .i64 0] 64)) := (Below.refl _ w).alloc (Nat.le_refl _) _
  refine (New_any _ _ _ L0 _ hR0 (by omega)).mono ?_
  rintro e w1 ⟨h, hb1⟩
  rw [eN] at h
  obtain ⟨A1, c1, rfl, hR1⟩ := bud3 (l := L1) rfl h
  have hB1 := hB0.trans (hb1.mono hB0.size)
  clear hR0 hB0 hb1
  go_wp2_with fail
  have hW1 : Below w1.heap.size w1 (w1.alloc (.cells #[.int .i64 0, .slice A1 3 c1] 24)) := (Below.refl _ _).alloc (Nat.le_refl _) _
  refine (Available_any _ _ _ _ _ L1 _ (hR1.up hW1) (by omega)).mono ?_
  rintro e w2 ⟨rfl, hb2⟩
  rw [eA1.1, eA1.2]
  obtain ⟨hc2, _⟩ := bcell hb2
  have hz2 : w1.heap.size < w2.heap.size := by have := hb2.size; simp at this; omega
  have hW2 := hW1.trans (hb2.mono hW1.size)
  go_wp2_with fail
  refine (Available_any _ _ _ _ _ L1 _ (hR1.up hW2) (by omega)).mono ?_
  rintro e w3 ⟨rfl, hb3⟩
  rw [eA2.1, eA2.2]
  obtain ⟨hc3, _⟩ := bcell hb3
  have hz3 : w1.heap.size < w3.heap.size := Nat.lt_of_lt_of_le hz2 hb3.size
  have hW3 := hW2.trans (hb3.mono hW2.size)
  go_wp2_with fail
  refine (Take_any _ _ _ _ _ _ L1 _ (hR1.up hW3) (by omega)).mono ?_
  rintro e w4 ⟨h, hb4⟩
  rw [eT] at h
  obtain ⟨A4, c4, rfl, hR4⟩ := bud3 (l := L2) rfl h
  have hB4 := hB1.trans ((hW3.trans (hb4.mono hW3.size)).mono hB1.size)
  clear hc2 hc3 hW1 hW2 hb2 hb3 hb4 hz2 hz3
  go_wp2_with fail
  have hX1 : Below w4.heap.size w4 (w4.alloc (.cells #[.int .i64 0, .slice A4 3 c4] 24)) := (Below.refl _ _).alloc (Nat.le_refl _) _
  refine (Available_any _ _ _ _ _ L2 _ (hR4.up hX1) (by omega)).mono ?_
  rintro e w5 ⟨rfl, hb5⟩
  rw [eA3.1, eA3.2]
  obtain ⟨hc5, _⟩ := bcell hb5
  have hz5 : w4.heap.size < w5.heap.size := by have := hb5.size; simp at this; omega
  have hX2 := hX1.trans (hb5.mono hX1.size)
  go_wp2_with fail
  refine (When_any _ _ _ _ _ _ L2 _ (hR4.up hX2) (by omega) (by omega)).mono ?_
  rintro e w6 ⟨h, hb6⟩
  rw [eW] at h
  subst h
  obtain ⟨hc6, _⟩ := bcell hb6
  have hz6 : w4.heap.size < w6.heap.size := Nat.lt_of_lt_of_le hz5 hb6.size
  have hX3 := hX2.trans (hb6.mono hX2.size)
  go_wp2_with fail
  refine (Advance_any _ _ _ _ _ L2 _ (hR4.up hX3) (by omega)).mono ?_
  rintro e w7 ⟨h, hb7⟩
  rw [eV] at h
  obtain ⟨A7, c7, rfl, hR7⟩ := bud3 (l := L3) rfl h
  have hB7 := hB4.trans ((hX3.trans (hb7.mono hX3.size)).mono hB4.size)
  obtain ⟨g, off, rfl, hg, hcs⟩ := hR7.cells (by decide)
  obtain ⟨_, _, _, d0⟩ := hcs 0 (by decide)
  obtain ⟨_, _, _, d1⟩ := hcs 1 (by decide)
  obtain ⟨_, _, _, d2⟩ := hcs 2 (by decide)
  simp only [L3, List.getElem_cons_zero, List.getElem_cons_succ, Nat.zero_mul, Nat.add_zero, Nat.one_mul] at d0 d1 d2
  clear hc5 hc6 hX1 hX2 hX3 hb5 hb6 hb7 hz5 hz6 hcs
  go_wp2_with fail
  go_ret
  exact ⟨rfl, hB7.alloc hB7.size _⟩
end Go.Proofs.Ytehfnanhamaenaa
