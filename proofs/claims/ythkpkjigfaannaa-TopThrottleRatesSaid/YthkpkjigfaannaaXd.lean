/- The walks of before and end, over a link of one capacity. No condition. -/
import Derived.Test.YthkpkjigfaannaaXc
import Derived.Deep.QuietTactic
import Derived.BigQuiet
import Derived.Deep.RegionHeld3
import Derived.Laws.EntriesVeiled
namespace Go.Proofs.Ythkpkjigfaannaa
open Go.RowKit
theorem CarI.up {w w' : World} {g : Nat} {r : Int} (h : CarI w g r) (hb : Below w.heap.size w w') : CarI w' g r := by
  obtain ⟨A, c, h1, h2⟩ := h
  exact ⟨A, c, h1.below hb h1.lt, h2.up hb⟩
set_option maxRecDepth 100000 in
set_option maxHeartbeats 2000000 in
theorem before_any (g : Nat) (r t : Int) (w : World) (hC : CarI w g r) (hr : 0 ≤ r ∧ r ≤ 4096) (ht : 1 ≤ t ∧ t ≤ 1000000) :
    Calls Try.prog 55 #[.pointer (some ⟨g, 0, none⟩), .int .i64 t] w fun e w' => e = .returned (.int .i64 (t * r)) ∧ Below w.heap.size w w' := by
  obtain ⟨A, c, hK, hR⟩ := hC
  obtain ⟨g0, off, hg0, hc0⟩ := hR.cells
  obtain ⟨rfl, hgw⟩ := hg0 (by simp)
  have d0 : w.cell? ⟨g0, off + 1, none⟩ = some (.int .i64 r) := hc0 1 (by simp)
  have e0 := hK.cell 0
  have e1 := hK.cell 1
  change w.cell? ⟨g, 0, none⟩ = some (.slice (some ⟨g0, off, none⟩) 2 c) at e0
  change w.cell? ⟨g, 1, none⟩ = some (.int .i64 r) at e1
  have lg := hK.lt
  have hm : 0 ≤ (t - 1) * r ∧ (t - 1) * r ≤ 1000000 * 4096 := ⟨Int.mul_nonneg (by omega) (by omega), by
    have h1 : (t - 1) * r ≤ (t - 1) * 4096 := Int.mul_le_mul_of_nonneg_left (by omega) (by omega)
    omega⟩
  have he : r + (t - 1) * r = t * r := by rw [Int.sub_mul]; omega
  have HE := Lib.hid he
  obtain ⟨m0, m1⟩ := hm
  clear hc0 hg0 hR hK he
  have hwr : IntKind.i64.wrap ((t - 1) * r) = (t - 1) * r := IntWalk.i64_in _ (by omega)
  go_enter Try.func55, Try.ntmps55
  by_cases h1 : t = 1
  · subst h1
    clear hwr m0 m1
    go_wp2_with fail
    go_ret
    refine ⟨?_, Below.refl _ _⟩
    show Ending.returned (.int .i64 r) = _
    rw [Int.one_mul]
  · go_wp2_with fail
    go_quiet (fail)
    go_wp2_with fail
    go_ret
    exact ⟨by show Ending.returned (.int .i64 (r + (t - 1) * r)) = _; rw [HE.out], below_drewN (Below.refl _ _) _⟩
theorem five_cells {X w' : World} {g0 g1 g2 g o0 o1 o2 o3 o4 : Nat} {v0 v1 v2 v3 v4 : Value} (h : Below X.heap.size X w') (e0 : X.cell? ⟨g0, o0, none⟩ = some v0) (e1 : X.cell? ⟨g1, o1, none⟩ = some v1) (e2 : X.cell? ⟨g2, o2, none⟩ = some v2) (e3 : X.cell? ⟨g, o3, none⟩ = some v3) (e4 : X.cell? ⟨g, o4, none⟩ = some v4)
    (l0 : g0 < X.heap.size) (l1 : g1 < X.heap.size) (l2 : g2 < X.heap.size) (l3 : g < X.heap.size) : w'.cell? ⟨g0, o0, none⟩ = some v0 ∧ w'.cell? ⟨g1, o1, none⟩ = some v1 ∧ w'.cell? ⟨g2, o2, none⟩ = some v2 ∧ w'.cell? ⟨g, o3, none⟩ = some v3 ∧ w'.cell? ⟨g, o4, none⟩ = some v4 ∧ Below X.heap.size X w' :=
  ⟨(h.cell (p := ⟨g0, o0, none⟩) l0).trans e0, (h.cell (p := ⟨g1, o1, none⟩) l1).trans e1, (h.cell (p := ⟨g2, o2, none⟩) l2).trans e2, (h.cell (p := ⟨g, o3, none⟩) l3).trans e3, (h.cell (p := ⟨g, o4, none⟩) l3).trans e4, h⟩
set_option maxRecDepth 100000 in
set_option maxHeartbeats 2000000 in
theorem end_any (g : Nat) (r start size : Int) (w : World) (hC : CarI w g r) (hr : 1 ≤ r ∧ r ≤ 4096) (ht : 1 ≤ start ∧ start ≤ 100000) (hs : 0 ≤ size ∧ size ≤ 4096) :
    Calls Try.prog 43 #[.pointer (some ⟨g, 0, none⟩), .int .i64 start, .int .i64 size] w fun e w' => e = .returned (.tuple #[.int .i64 (start + (size + r - 1) / r), .bool true]) ∧ Below w.heap.size w w' := by
  obtain ⟨A, c, hK, hR⟩ := id hC
  have lg := hK.lt
  have e0 := hK.cell 0
  have e1 := hK.cell 1
  change w.cell? ⟨g, 0, none⟩ = some (.slice A 2 c) at e0
  change w.cell? ⟨g, 1, none⟩ = some (.int .i64 r) at e1
  have HK := Lib.hid (And.intro hC hR)
  clear hC hR hK
  have HBf := Lib.hid (fun w9 (h9 : CarI w9 g r) => before_any g r start w9 h9 (by omega) (by omega))
  have hmul : 0 ≤ start * r ∧ start * r ≤ 100000 * 4096 := ⟨Int.mul_nonneg (by omega) (by omega), Int.le_trans (Int.mul_le_mul_of_nonneg_left hr.2 (by omega)) (Int.mul_le_mul_of_nonneg_right ht.2 (by omega))⟩
  obtain ⟨B, hB⟩ : ∃ B, start * r = B := ⟨_, rfl⟩
  obtain ⟨D, hD⟩ : ∃ D, (size + r - 1) / r = D := ⟨_, rfl⟩
  have hD0 : 0 ≤ D ∧ D ≤ 10000 := by
    rw [← hD]
    refine ⟨Int.ediv_nonneg (by omega) (by omega), ?_⟩
    have h1 : (size + r - 1) / r ≤ size + r - 1 := Int.ediv_le_self _ (by omega)
    omega
  have hDz : size = 0 → D = 0 := fun h => by rw [← hD, h]; exact Int.ediv_eq_zero_of_lt (by omega) (by omega)
  have hDt : (size + r - 1).tdiv r = D := by rw [← hD]; exact Int.tdiv_eq_ediv_of_nonneg (by omega)
  rw [hB] at HBf hmul
  rw [hD]
  have HDz := Lib.hid hDz
  have HDt := Lib.hid hDt
  obtain ⟨m0, m1⟩ := hmul
  obtain ⟨q0, q1⟩ := hD0
  clear hDz hDt hB hD
  go_enter Try.func43, Try.ntmps43
  go_wp2_with fail
  refine (HBf.out _ (HK.out.1.up (((Below.refl _ w).alloc (Nat.le_refl _) _).alloc (by simp) _))).mono ?_
  rintro e w1 ⟨rfl, hb1⟩
  have hw1 := hb1.size
  simp only [World.size_alloc] at hw1
  have hN0 : Blk w1 w.heap.size 3 #[.int .i64 start] := ((Blk.new w 3 #[.int .i64 start]).alloc _).below hb1 (by simp; omega)
  have hN1 : Blk w1 (w.heap.size + 1) 78 #[.func (.func 55) #[.pointer (some ⟨g, 0, none⟩)] #[]] := by
    have h := Blk.new (w.alloc (.cells #[.int .i64 start] 3)) 78 #[.func (.func 55) #[.pointer (some ⟨g, 0, none⟩)] #[]]
    simp only [World.size_alloc] at h
    exact h.below hb1 (by simp)
  have hbw : Below w.heap.size w w1 := (((Below.refl _ w).alloc (Nat.le_refl _) _).alloc (by simp) _).trans (hb1.mono (by simp; omega))
  go_upto_region 3 with fail
  obtain ⟨W2, hW2⟩ : ∃ W2, w1.alloc (.cells #[.int .i64 (B + size)] 3) = W2 := ⟨_, rfl⟩
  have hbn : Below w1.heap.size w1 W2 := by rw [← hW2]; exact (Below.refl _ _).alloc (Nat.le_refl _) _
  have hN2 : Blk W2 w1.heap.size 3 #[.int .i64 (B + size)] := by rw [← hW2]; exact Blk.new _ _ _
  rw [hW2]
  clear hW2
  replace hN0 := hN0.below hbn hN0.lt
  replace hN1 := hN1.below hbn hN1.lt
  replace hbw := hbw.trans (hbn.mono hbw.size)
  generalize w1.heap.size = z at *
  have HK2 := Lib.hid (HK.out.1.up (hbw))
  obtain ⟨A2, c2, hK2, _⟩ := id HK2.out
  have k0 : W2.cell? ⟨g, 0, none⟩ = some (.slice A2 2 c2) := hK2.cell 0
  have k1 : W2.cell? ⟨g, 1, none⟩ = some (.int .i64 r) := hK2.cell 1
  have n0 : W2.cell? ⟨w.heap.size, 0, none⟩ = some (.int .i64 start) := hN0.cell 0
  have n1 : W2.cell? ⟨w.heap.size + 1, 0, none⟩ = some (.func (.func 55) #[.pointer (some ⟨g, 0, none⟩)] #[]) := hN1.cell 0
  have n2 : W2.cell? ⟨z, 0, none⟩ = some (.int .i64 (B + size)) := hN2.cell 0
  have lk := hK2.lt
  have l0 := hN0.lt
  have l1 := hN1.lt
  have l2 := hN2.lt
  have HBW := Lib.hid hbw
  clear e0 e1 hbw hbn hN0 hN1 hN2 hK2 hw1 hb1
  by_cases hs0 : size = 0
  · subst hs0
    obtain rfl := HDz.out rfl
    go_wp2_with fail
    refine bodyPost_ret (v := .tuple #[.int .i64 start, .bool true]) (by simp [results, Try.results43, go_sem]) rfl ⟨rfl, HBW.out⟩
  · have hif : (if start < 1 then (1 : Int) else start) = start := if_neg (by omega)
    go_upto_region 6 with fail
    go_region_held3 (fun w' => w'.cell? ⟨w.heap.size, 0, none⟩ = some (.int .i64 start) ∧ w'.cell? ⟨w.heap.size + 1, 0, none⟩ = some (.func (.func 55) #[.pointer (some ⟨g, 0, none⟩)] #[]) ∧ w'.cell? ⟨z, 0, none⟩ = some (.int .i64 (B + size)) ∧ w'.cell? ⟨g, 0, none⟩ = some (.slice A2 2 c2) ∧ w'.cell? ⟨g, 1, none⟩ = some (.int .i64 r) ∧ Below W2.heap.size W2 w')
      (((refine five_cells ?_ n0 n1 n2 k0 k1 l0 l1 l2 lk); (first
        | exact (Below.refl _ W2).drew
        | exact (Below.refl _ W2).drew.trans hb'
        | exact ((Below.refl _ W2).drew.trans hb').drew)))
      (first
        | (go_at_call 55; (try rw [hif]); refine (HBf.out _ (HK2.out.up (Below.refl _ W2).drew)).mono ?_; rintro e w' ⟨rfl, hb'⟩))
    have hb3 : Below W2.heap.size W2 w' := (Below.refl _ W2).drew.trans hb'
    rename_i hS
    clear hS
    obtain ⟨n0, n1, n2, k0, k1, _⟩ := five_cells hb3 n0 n1 n2 k0 k1 l0 l1 l2 lk
    replace HK2 := Lib.hid (HK2.out.up hb3)
    replace HBW := Lib.hid (HBW.out.trans (hb3.mono HBW.out.size))
    have hl := hb3.size
    replace lk := Nat.lt_of_lt_of_le lk hl
    replace l0 := Nat.lt_of_lt_of_le l0 hl
    replace l1 := Nat.lt_of_lt_of_le l1 hl
    replace l2 := Nat.lt_of_lt_of_le l2 hl
    clear hl hb3 hb'
    have hns : ¬ (B + size ≤ B) := by omega
    have hnd : decide (B + size ≤ B) = false := decide_eq_false hns
    have hw1 : IntKind.i64.wrap (B + size - B) = size := by rw [show B + size - B = size by omega]; exact IntWalk.i64_in _ (by omega)
    have hw2 : IntKind.i64.wrap (size + r) = size + r := IntWalk.i64_in _ (by omega)
    have hw3 : IntKind.i64.wrap (size + r - 1) = size + r - 1 := IntWalk.i64_in _ (by omega)
    have hwd : (size + r - 1).tdiv r = D := HDt.out
    have hr0 : ¬ r = 0 := by omega
    have hr9 : (r == 0) = false := by rw [beq_eq_false_iff_ne]; omega
    have hwD : IntKind.i64.wrap D = D := IntWalk.i64_in _ (by omega)
    have hwS : IntKind.i64.wrap (start + D) = start + D := IntWalk.i64_in _ (by omega)
    go_upto_region 11 with fail
    go_region_held3 (fun w8 => w8.cell? ⟨w.heap.size, 0, none⟩ = some (.int .i64 start) ∧ w8.cell? ⟨w.heap.size + 1, 0, none⟩ = some (.func (.func 55) #[.pointer (some ⟨g, 0, none⟩)] #[]) ∧ w8.cell? ⟨z, 0, none⟩ = some (.int .i64 (B + size)) ∧ w8.cell? ⟨g, 0, none⟩ = some (.slice A2 2 c2) ∧ w8.cell? ⟨g, 1, none⟩ = some (.int .i64 r) ∧ Below w'.heap.size w' w8)
      (((refine five_cells ?_ n0 n1 n2 k0 k1 l0 l1 l2 lk); (first
        | exact (Below.refl _ w').drew
        | exact (Below.refl _ w').drew.trans hb'
        | exact ((Below.refl _ w').drew.trans hb').drew)))
      (first
        | (go_at_call 55; (try rw [hif]); refine (HBf.out _ (HK2.out.up (Below.refl _ w').drew)).mono ?_; rintro e w9 ⟨rfl, hb'⟩))
    have hb3 : Below w'.heap.size w' w9 := (Below.refl _ w').drew.trans hb'
    have HBX := Lib.hid (HBW.out.trans (hb3.mono HBW.out.size))
    clear hb3 hb'
    go_wp2_with fail
    refine bodyPost_ret (v := .tuple #[.int .i64 (start + D), .bool true]) (by simp [results, Try.results43, go_sem]) rfl ⟨rfl, HBX.out⟩
end Go.Proofs.Ythkpkjigfaannaa
