/- The walk of a step. Conditions: the state in order. -/
import Derived.Test.YtggaaajkbnhofaaWm
namespace Go.Proofs.Ytggaaajkbnhofaa
open Go.RowKit
theorem pick3 (x : Int) : ∃ (r1 : Int) (i : Nat), x.tmod 3 = r1 ∧ (r1 + 3).tmod 3 = (i : Nat) ∧ i < 3 ∧ -3 < r1 ∧ r1 < 3 := by
  have h1 : -(3 : Int) < x.tmod 3 := by have := Int.tmod_lt_of_pos (-x) (show (0 : Int) < 3 by omega); rw [Int.neg_tmod] at this; omega
  have h2 : x.tmod 3 < 3 := Int.tmod_lt_of_pos x (by omega)
  have h3 : 0 ≤ (x.tmod 3 + 3).tmod 3 := Int.tmod_nonneg _ (by omega)
  have h4 : (x.tmod 3 + 3).tmod 3 < 3 := Int.tmod_lt_of_pos _ (by omega)
  exact ⟨_, ((x.tmod 3 + 3).tmod 3).toNat, rfl, by omega, by omega, h1, h2⟩
theorem pick7 (x : Int) : ∃ (r1 : Int) (i : Nat), x.tmod 7 = r1 ∧ (r1 + 7).tmod 7 = (i : Nat) ∧ i < 7 ∧ -7 < r1 ∧ r1 < 7 := by
  have h1 : -(7 : Int) < x.tmod 7 := by have := Int.tmod_lt_of_pos (-x) (show (0 : Int) < 7 by omega); rw [Int.neg_tmod] at this; omega
  have h2 : x.tmod 7 < 7 := Int.tmod_lt_of_pos x (by omega)
  have h3 : 0 ≤ (x.tmod 7 + 7).tmod 7 := Int.tmod_nonneg _ (by omega)
  have h4 : (x.tmod 7 + 7).tmod 7 < 7 := Int.tmod_lt_of_pos _ (by omega)
  exact ⟨_, ((x.tmod 7 + 7).tmod 7).toNat, rfl, by omega, by omega, h1, h2⟩
set_option linter.unusedSimpArgs false in
set_option maxRecDepth 100000 in
set_option maxHeartbeats 8000000 in
theorem step0 (w W : World) (g low : Nat) (s : St) (si wh : Int) (hI : StI w g low s W) (hl : LsOk s.ls) (hn : s.rq.length ≤ 100) :
    Calls Try.prog 5 #[.pointer (some ⟨g, 0, none⟩), .agg #[.int .i64 0, .int .i64 si, .int .i64 wh]] W fun x W' => x = .returned (.bool true) ∧ ∃ i x, i < 3 ∧ 1 ≤ x ∧ (s.ls i).1 ≤ x ∧ x ≤ max 1 (s.ls i).1 + 2 ∧ StI w g low (sendM s ⟨15, (i : Nat), 4, 0, 0, x⟩) W' := by
  obtain ⟨vL, vR, vA, hB⟩ := hI.blk
  obtain ⟨AL, cL, rfl, _, _, _⟩ := own_slice hB.L
  have hgl := hB.blk.lt
  obtain ⟨r1, i, k1, k2, hi3, hr1, hr1'⟩ := pick3 si
  have w1 : IntKind.i64.wrap (r1 + 3) = r1 + 3 := IntWalk.i64_in _ (by omega)
  have hi' : ((i : Nat) : Int) < 3 := by omega
  have b0 := Blk.new W 27 #[.int .i64 0, .int .i64 si, .int .i64 wh]
  have hb0 : Below W.heap.size W (W.alloc (.cells #[.int .i64 0, .int .i64 si, .int .i64 wh] 27)) := (Below.refl _ W).alloc (Nat.le_refl _) _
  have hs0 : W.heap.size < (W.alloc (.cells #[.int .i64 0, .int .i64 si, .int .i64 wh] 27)).heap.size := by simp
  go_enter Try.func5, Try.ntmps5
  go_upto_region 1 with fail
  generalize (W.alloc (.cells #[.int .i64 0, .int .i64 si, .int .i64 wh] 27)) = V at *
  have HI0 := Lib.hid (And.intro (hI.below hb0) (hB.below hb0))
  have v0 : V.cell? ⟨W.heap.size, 0, none⟩ = some (.int .i64 0) := b0.cell 0
  have v1 : V.cell? ⟨W.heap.size, 1, none⟩ = some (.int .i64 si) := b0.cell 1
  have v2 : V.cell? ⟨W.heap.size, 2, none⟩ = some (.int .i64 wh) := b0.cell 2
  have c6 : V.cell? ⟨g, 6, none⟩ = some (.slice AL 3 cL) := HI0.out.2.blk.cell 6
  have hgl0 : g < V.heap.size := HI0.out.2.blk.lt
  obtain ⟨bl, rfl, hbl, hlb, ⟨curL, hBL⟩, hcl⟩ := ls_cells HI0.out.2.L
  obtain ⟨l0, l1, l2⟩ := hcl i hi3
  have hli := hl i hi3
  clear hcl hI hB
  obtain ⟨e, he⟩ : ∃ e : Int, e = (s.ls i).1 := ⟨_, rfl⟩
  rw [← he] at l1 hli
  obtain ⟨u, hu⟩ : ∃ u : Int, u = (s.ls i).2 := ⟨_, rfl⟩
  rw [← hu] at l2 hli
  have HEU := Lib.hid (And.intro he hu)
  clear he hu
  have bA := Blk.new V 41 #[.int .i64 (i : Nat), .int .i64 e, .int .i64 u]
  have hbA : Below V.heap.size V (V.alloc (.cells #[.int .i64 (i : Nat), .int .i64 e, .int .i64 u] 41)) := (Below.refl _ V).alloc (Nat.le_refl _) _
  have hsA : V.heap.size < (V.alloc (.cells #[.int .i64 (i : Nat), .int .i64 e, .int .i64 u] 41)).heap.size := by simp
  go_upto_region 3 with fail
  generalize (V.alloc (.cells #[.int .i64 (i : Nat), .int .i64 e, .int .i64 u] 41)) = V1 at *
  have HI1 := Lib.hid (And.intro (HI0.out.1.below hbA) (HI0.out.2.below hbA))
  have b1 := b0.below hbA hs0
  have hbl1 : bl < V1.heap.size := by omega
  have hBL1 := hBL.below hbA hbl
  have HL := Lib.hid (And.intro hlb hBL1)
  clear c6 l0 l1 l2 v0 v1 v2 k1 k2 w1 hbA HI0 b0 hBL hlb hBL1 hb0
  have v0 : V1.cell? ⟨W.heap.size, 0, none⟩ = some (.int .i64 0) := b1.cell 0
  have v1 : V1.cell? ⟨W.heap.size, 1, none⟩ = some (.int .i64 si) := b1.cell 1
  have v2 : V1.cell? ⟨W.heap.size, 2, none⟩ = some (.int .i64 wh) := b1.cell 2
  have x0 : V1.cell? ⟨V.heap.size, 0, none⟩ = some (.int .i64 (i : Nat)) := bA.cell 0
  have x1 : V1.cell? ⟨V.heap.size, 1, none⟩ = some (.int .i64 e) := bA.cell 1
  have x2 : V1.cell? ⟨V.heap.size, 2, none⟩ = some (.int .i64 u) := bA.cell 2
  obtain ⟨r3, j, k3, k4, hj3, hr3, hr3'⟩ := pick3 wh
  have zw3 : IntKind.i64.wrap (r3 + 3) = r3 + 3 := IntWalk.i64_in _ (by omega)
  rcases Int.lt_trichotomy 1 e with hlt | hlt | hlt
  · have zw4 : IntKind.i64.wrap (e + (j : Nat)) = e + (j : Nat) := IntWalk.i64_in _ (by omega)
    obtain ⟨X, hX⟩ : ∃ X : Int, e + (j : Nat) = X := ⟨_, rfl⟩
    have hmx : max 1 e = e := by rw [Int.max_eq_right (by omega)]
    have HX := Lib.hid (And.intro hX hmx)
    clear hmx
    go_upto_region 6 with fail
    go_wp2_with fail
    try rw [hX]
    refine (Ask_ok (i : Nat) e u X V1 (by omega) (by omega) (by omega) (by omega) (by omega)).mono ?_
    rintro y w4 ⟨rfl, hb4⟩
    have HI4 := Lib.hid (HI1.out.1.below hb4)
    clear x0 x1 x2 v0 v1 v2 k3 k4 zw3 zw4 hX
    have bM := Blk.new w4 49 #[.int .i64 15, .int .i64 (i : Nat), .int .i64 4, .int .i64 0, .int .i64 0, .int .i64 X, .slice none 0 0, .slice none 0 0]
    have hbM : Below w4.heap.size w4 (w4.alloc (.cells #[.int .i64 15, .int .i64 (i : Nat), .int .i64 4, .int .i64 0, .int .i64 0, .int .i64 X, .slice none 0 0, .slice none 0 0] 49)) := (Below.refl _ w4).alloc (Nat.le_refl _) _
    have HIM := Lib.hid (HI4.out.below hbM)
    go_upto_region 8 with fail
    clear hbM
    generalize (w4.alloc (.cells #[.int .i64 15, .int .i64 (i : Nat), .int .i64 4, .int .i64 0, .int .i64 0, .int .i64 X, .slice none 0 0, .slice none 0 0] 49)) = V3 at *
    have m0 : V3.cell? ⟨w4.heap.size, 0, none⟩ = some (.int .i64 15) := bM.cell 0
    have m1 : V3.cell? ⟨w4.heap.size, 1, none⟩ = some (.int .i64 (i : Nat)) := bM.cell 1
    have m2 : V3.cell? ⟨w4.heap.size, 2, none⟩ = some (.int .i64 4) := bM.cell 2
    have m3 : V3.cell? ⟨w4.heap.size, 3, none⟩ = some (.int .i64 0) := bM.cell 3
    have m4 : V3.cell? ⟨w4.heap.size, 4, none⟩ = some (.int .i64 0) := bM.cell 4
    have m5 : V3.cell? ⟨w4.heap.size, 5, none⟩ = some (.int .i64 X) := bM.cell 5
    have m6 : V3.cell? ⟨w4.heap.size, 6, none⟩ = some (.slice none 0 0) := bM.cell 6
    have m7 : V3.cell? ⟨w4.heap.size, 7, none⟩ = some (.slice none 0 0) := bM.cell 7
    go_wp2_with fail
    refine (send_ok w V3 g low _ ⟨15, (i : Nat), 4, 0, 0, X⟩ HIM.out hn).mono ?_
    rintro y w5 ⟨rfl, hI5⟩
    clear m0 m1 m2 m3 m4 m5 m6 m7
    go_wp2_with fail
    go_ret
    exact ⟨rfl, i, X, hi3, by have := HX.out; omega, by rw [← HEU.out.1]; have := HX.out; omega, by rw [← HEU.out.1]; have := HX.out; omega, hI5⟩
  · have zw4 : IntKind.i64.wrap (1 + (j : Nat)) = 1 + (j : Nat) := IntWalk.i64_in _ (by omega)
    subst hlt
    obtain ⟨X, hX⟩ : ∃ X : Int, 1 + (j : Nat) = X := ⟨_, rfl⟩
    have hmx : max 1 1 = 1 := by rfl
    have HX := Lib.hid (And.intro hX hmx)
    clear hmx
    go_upto_region 6 with fail
    go_wp2_with fail
    try rw [hX]
    refine (Ask_ok (i : Nat) 1 u X V1 (by omega) (by omega) (by omega) (by omega) (by omega)).mono ?_
    rintro y w4 ⟨rfl, hb4⟩
    have HI4 := Lib.hid (HI1.out.1.below hb4)
    clear x0 x1 x2 v0 v1 v2 k3 k4 zw3 zw4 hX
    have bM := Blk.new w4 49 #[.int .i64 15, .int .i64 (i : Nat), .int .i64 4, .int .i64 0, .int .i64 0, .int .i64 X, .slice none 0 0, .slice none 0 0]
    have hbM : Below w4.heap.size w4 (w4.alloc (.cells #[.int .i64 15, .int .i64 (i : Nat), .int .i64 4, .int .i64 0, .int .i64 0, .int .i64 X, .slice none 0 0, .slice none 0 0] 49)) := (Below.refl _ w4).alloc (Nat.le_refl _) _
    have HIM := Lib.hid (HI4.out.below hbM)
    go_upto_region 8 with fail
    clear hbM
    generalize (w4.alloc (.cells #[.int .i64 15, .int .i64 (i : Nat), .int .i64 4, .int .i64 0, .int .i64 0, .int .i64 X, .slice none 0 0, .slice none 0 0] 49)) = V3 at *
    have m0 : V3.cell? ⟨w4.heap.size, 0, none⟩ = some (.int .i64 15) := bM.cell 0
    have m1 : V3.cell? ⟨w4.heap.size, 1, none⟩ = some (.int .i64 (i : Nat)) := bM.cell 1
    have m2 : V3.cell? ⟨w4.heap.size, 2, none⟩ = some (.int .i64 4) := bM.cell 2
    have m3 : V3.cell? ⟨w4.heap.size, 3, none⟩ = some (.int .i64 0) := bM.cell 3
    have m4 : V3.cell? ⟨w4.heap.size, 4, none⟩ = some (.int .i64 0) := bM.cell 4
    have m5 : V3.cell? ⟨w4.heap.size, 5, none⟩ = some (.int .i64 X) := bM.cell 5
    have m6 : V3.cell? ⟨w4.heap.size, 6, none⟩ = some (.slice none 0 0) := bM.cell 6
    have m7 : V3.cell? ⟨w4.heap.size, 7, none⟩ = some (.slice none 0 0) := bM.cell 7
    go_wp2_with fail
    refine (send_ok w V3 g low _ ⟨15, (i : Nat), 4, 0, 0, X⟩ HIM.out hn).mono ?_
    rintro y w5 ⟨rfl, hI5⟩
    clear m0 m1 m2 m3 m4 m5 m6 m7
    go_wp2_with fail
    go_ret
    exact ⟨rfl, i, X, hi3, by have := HX.out; omega, by rw [← HEU.out.1]; have := HX.out; omega, by rw [← HEU.out.1]; have := HX.out; omega, hI5⟩
  · have zw4 : IntKind.i64.wrap (1 + (j : Nat)) = 1 + (j : Nat) := IntWalk.i64_in _ (by omega)
    obtain ⟨X, hX⟩ : ∃ X : Int, 1 + (j : Nat) = X := ⟨_, rfl⟩
    have hmx : max 1 e = 1 := by rw [Int.max_eq_left (by omega)]
    have HX := Lib.hid (And.intro hX hmx)
    clear hmx
    go_upto_region 6 with fail
    go_wp2_with fail
    try rw [hX]
    refine (Ask_ok (i : Nat) e u X V1 (by omega) (by omega) (by omega) (by omega) (by omega)).mono ?_
    rintro y w4 ⟨rfl, hb4⟩
    have HI4 := Lib.hid (HI1.out.1.below hb4)
    clear x0 x1 x2 v0 v1 v2 k3 k4 zw3 zw4 hX
    have bM := Blk.new w4 49 #[.int .i64 15, .int .i64 (i : Nat), .int .i64 4, .int .i64 0, .int .i64 0, .int .i64 X, .slice none 0 0, .slice none 0 0]
    have hbM : Below w4.heap.size w4 (w4.alloc (.cells #[.int .i64 15, .int .i64 (i : Nat), .int .i64 4, .int .i64 0, .int .i64 0, .int .i64 X, .slice none 0 0, .slice none 0 0] 49)) := (Below.refl _ w4).alloc (Nat.le_refl _) _
    have HIM := Lib.hid (HI4.out.below hbM)
    go_upto_region 8 with fail
    clear hbM
    generalize (w4.alloc (.cells #[.int .i64 15, .int .i64 (i : Nat), .int .i64 4, .int .i64 0, .int .i64 0, .int .i64 X, .slice none 0 0, .slice none 0 0] 49)) = V3 at *
    have m0 : V3.cell? ⟨w4.heap.size, 0, none⟩ = some (.int .i64 15) := bM.cell 0
    have m1 : V3.cell? ⟨w4.heap.size, 1, none⟩ = some (.int .i64 (i : Nat)) := bM.cell 1
    have m2 : V3.cell? ⟨w4.heap.size, 2, none⟩ = some (.int .i64 4) := bM.cell 2
    have m3 : V3.cell? ⟨w4.heap.size, 3, none⟩ = some (.int .i64 0) := bM.cell 3
    have m4 : V3.cell? ⟨w4.heap.size, 4, none⟩ = some (.int .i64 0) := bM.cell 4
    have m5 : V3.cell? ⟨w4.heap.size, 5, none⟩ = some (.int .i64 X) := bM.cell 5
    have m6 : V3.cell? ⟨w4.heap.size, 6, none⟩ = some (.slice none 0 0) := bM.cell 6
    have m7 : V3.cell? ⟨w4.heap.size, 7, none⟩ = some (.slice none 0 0) := bM.cell 7
    go_wp2_with fail
    refine (send_ok w V3 g low _ ⟨15, (i : Nat), 4, 0, 0, X⟩ HIM.out hn).mono ?_
    rintro y w5 ⟨rfl, hI5⟩
    clear m0 m1 m2 m3 m4 m5 m6 m7
    go_wp2_with fail
    go_ret
    exact ⟨rfl, i, X, hi3, by have := HX.out; omega, by rw [← HEU.out.1]; have := HX.out; omega, by rw [← HEU.out.1]; have := HX.out; omega, hI5⟩
set_option linter.unusedSimpArgs false in
set_option maxRecDepth 100000 in
set_option maxHeartbeats 8000000 in
theorem step1 (w W : World) (g low : Nat) (s : St) (si wh : Int) (hI : StI w g low s W) (hl : LsOk s.ls) (hn : s.rq.length ≤ 100) :
    Calls Try.prog 5 #[.pointer (some ⟨g, 0, none⟩), .agg #[.int .i64 1, .int .i64 si, .int .i64 wh]] W fun x W' => x = .returned (.bool true) ∧ ∃ s', StI w g low s' W' ∧ (s' = s ∨ ∃ i, i < 3 ∧ s' = sendM s ⟨17, (i : Nat), 4, 0, 0, (s.ls i).1⟩) := by
  obtain ⟨vL, vR, vA, hB⟩ := hI.blk
  obtain ⟨AL, cL, rfl, _, _, _⟩ := own_slice hB.L
  have hgl := hB.blk.lt
  obtain ⟨r1, i, k1, k2, hi3, hr1, hr1'⟩ := pick3 si
  have w1 : IntKind.i64.wrap (r1 + 3) = r1 + 3 := IntWalk.i64_in _ (by omega)
  have hi' : ((i : Nat) : Int) < 3 := by omega
  have b0 := Blk.new W 27 #[.int .i64 1, .int .i64 si, .int .i64 wh]
  have hb0 : Below W.heap.size W (W.alloc (.cells #[.int .i64 1, .int .i64 si, .int .i64 wh] 27)) := (Below.refl _ W).alloc (Nat.le_refl _) _
  have hs0 : W.heap.size < (W.alloc (.cells #[.int .i64 1, .int .i64 si, .int .i64 wh] 27)).heap.size := by simp
  go_enter Try.func5, Try.ntmps5
  go_upto_region 1 with fail
  generalize (W.alloc (.cells #[.int .i64 1, .int .i64 si, .int .i64 wh] 27)) = V at *
  have HI0 := Lib.hid (And.intro (hI.below hb0) (hB.below hb0))
  have v0 : V.cell? ⟨W.heap.size, 0, none⟩ = some (.int .i64 1) := b0.cell 0
  have v1 : V.cell? ⟨W.heap.size, 1, none⟩ = some (.int .i64 si) := b0.cell 1
  have v2 : V.cell? ⟨W.heap.size, 2, none⟩ = some (.int .i64 wh) := b0.cell 2
  have c6 : V.cell? ⟨g, 6, none⟩ = some (.slice AL 3 cL) := HI0.out.2.blk.cell 6
  have hgl0 : g < V.heap.size := HI0.out.2.blk.lt
  obtain ⟨bl, rfl, hbl, hlb, ⟨curL, hBL⟩, hcl⟩ := ls_cells HI0.out.2.L
  obtain ⟨l0, l1, l2⟩ := hcl i hi3
  have hli := hl i hi3
  clear hcl hI hB
  obtain ⟨e, he⟩ : ∃ e : Int, e = (s.ls i).1 := ⟨_, rfl⟩
  rw [← he] at l1 hli
  obtain ⟨u, hu⟩ : ∃ u : Int, u = (s.ls i).2 := ⟨_, rfl⟩
  rw [← hu] at l2 hli
  have HEU := Lib.hid (And.intro he hu)
  clear he hu
  have bA := Blk.new V 41 #[.int .i64 (i : Nat), .int .i64 e, .int .i64 u]
  have hbA : Below V.heap.size V (V.alloc (.cells #[.int .i64 (i : Nat), .int .i64 e, .int .i64 u] 41)) := (Below.refl _ V).alloc (Nat.le_refl _) _
  have hsA : V.heap.size < (V.alloc (.cells #[.int .i64 (i : Nat), .int .i64 e, .int .i64 u] 41)).heap.size := by simp
  go_upto_region 3 with fail
  generalize (V.alloc (.cells #[.int .i64 (i : Nat), .int .i64 e, .int .i64 u] 41)) = V1 at *
  have HI1 := Lib.hid (And.intro (HI0.out.1.below hbA) (HI0.out.2.below hbA))
  have b1 := b0.below hbA hs0
  have hbl1 : bl < V1.heap.size := by omega
  have hBL1 := hBL.below hbA hbl
  have HL := Lib.hid (And.intro hlb hBL1)
  clear c6 l0 l1 l2 v0 v1 v2 k1 k2 w1 hbA HI0 b0 hBL hlb hBL1 hb0
  have v0 : V1.cell? ⟨W.heap.size, 0, none⟩ = some (.int .i64 1) := b1.cell 0
  have v1 : V1.cell? ⟨W.heap.size, 1, none⟩ = some (.int .i64 si) := b1.cell 1
  have v2 : V1.cell? ⟨W.heap.size, 2, none⟩ = some (.int .i64 wh) := b1.cell 2
  have x0 : V1.cell? ⟨V.heap.size, 0, none⟩ = some (.int .i64 (i : Nat)) := bA.cell 0
  have x1 : V1.cell? ⟨V.heap.size, 1, none⟩ = some (.int .i64 e) := bA.cell 1
  have x2 : V1.cell? ⟨V.heap.size, 2, none⟩ = some (.int .i64 u) := bA.cell 2
  by_cases hu0 : u = 0
  · subst hu0
    go_upto_region 10 with fail
    go_wp2_with fail
    refine (Renew_none (i : Nat) e V1 (by omega) (by omega)).mono ?_
    rintro y w4 ⟨rfl, hb4⟩
    have HI4 := Lib.hid (HI1.out.1.below hb4)
    clear x0 x1 x2 v0 v1 v2
    have hbM : Below w4.heap.size w4 (w4.alloc (.cells #[.int .i64 0, .int .i64 0, .int .i64 0, .int .i64 0, .int .i64 0, .int .i64 0, .slice none 0 0, .slice none 0 0] 49)) := (Below.refl _ w4).alloc (Nat.le_refl _) _
    have HIM := Lib.hid (HI4.out.below hbM)
    go_wp2_with fail
    go_ret
    exact ⟨rfl, s, HIM.out, .inl rfl⟩
  · go_upto_region 10 with fail
    go_wp2_with fail
    refine (Renew_some (i : Nat) e u V1 (by omega) (by omega) (by omega) hu0).mono ?_
    rintro y w4 ⟨rfl, hb4⟩
    have HI4 := Lib.hid (HI1.out.1.below hb4)
    clear x0 x1 x2 v0 v1 v2 hu0
    have bM := Blk.new w4 49 #[.int .i64 17, .int .i64 (i : Nat), .int .i64 4, .int .i64 0, .int .i64 0, .int .i64 e, .slice none 0 0, .slice none 0 0]
    have hbM : Below w4.heap.size w4 (w4.alloc (.cells #[.int .i64 17, .int .i64 (i : Nat), .int .i64 4, .int .i64 0, .int .i64 0, .int .i64 e, .slice none 0 0, .slice none 0 0] 49)) := (Below.refl _ w4).alloc (Nat.le_refl _) _
    have HIM := Lib.hid (HI4.out.below hbM)
    go_upto_region 12 with fail
    clear hbM
    generalize (w4.alloc (.cells #[.int .i64 17, .int .i64 (i : Nat), .int .i64 4, .int .i64 0, .int .i64 0, .int .i64 e, .slice none 0 0, .slice none 0 0] 49)) = V3 at *
    have m0 : V3.cell? ⟨w4.heap.size, 0, none⟩ = some (.int .i64 17) := bM.cell 0
    have m1 : V3.cell? ⟨w4.heap.size, 1, none⟩ = some (.int .i64 (i : Nat)) := bM.cell 1
    have m2 : V3.cell? ⟨w4.heap.size, 2, none⟩ = some (.int .i64 4) := bM.cell 2
    have m3 : V3.cell? ⟨w4.heap.size, 3, none⟩ = some (.int .i64 0) := bM.cell 3
    have m4 : V3.cell? ⟨w4.heap.size, 4, none⟩ = some (.int .i64 0) := bM.cell 4
    have m5 : V3.cell? ⟨w4.heap.size, 5, none⟩ = some (.int .i64 e) := bM.cell 5
    have m6 : V3.cell? ⟨w4.heap.size, 6, none⟩ = some (.slice none 0 0) := bM.cell 6
    have m7 : V3.cell? ⟨w4.heap.size, 7, none⟩ = some (.slice none 0 0) := bM.cell 7
    go_wp2_with fail
    refine (send_ok w V3 g low _ ⟨17, (i : Nat), 4, 0, 0, e⟩ HIM.out hn).mono ?_
    rintro y w5 ⟨rfl, hI5⟩
    clear m0 m1 m2 m3 m4 m5 m6 m7
    go_wp2_with fail
    go_ret
    exact ⟨rfl, _, hI5, .inr ⟨i, hi3, by rw [HEU.out.1]⟩⟩
set_option linter.unusedSimpArgs false in
set_option maxRecDepth 100000 in
set_option maxHeartbeats 8000000 in
theorem step2 (w W : World) (g low : Nat) (s : St) (si wh : Int) (hI : StI w g low s W) (hl : LsOk s.ls) (hn : s.rq.length ≤ 100) :
    Calls Try.prog 5 #[.pointer (some ⟨g, 0, none⟩), .agg #[.int .i64 2, .int .i64 si, .int .i64 wh]] W fun x W' => x = .returned (.bool true) ∧ ∃ i, i < 3 ∧ StI w g low (sendM { s with ls := updL s.ls i ((s.ls i).1 + 1, 0) } ⟨18, (i : Nat), 4, 0, 0, (s.ls i).1⟩) W' := by
  obtain ⟨vL, vR, vA, hB⟩ := hI.blk
  obtain ⟨AL, cL, rfl, _, _, _⟩ := own_slice hB.L
  have hgl := hB.blk.lt
  obtain ⟨r1, i, k1, k2, hi3, hr1, hr1'⟩ := pick3 si
  have w1 : IntKind.i64.wrap (r1 + 3) = r1 + 3 := IntWalk.i64_in _ (by omega)
  have hi' : ((i : Nat) : Int) < 3 := by omega
  have b0 := Blk.new W 27 #[.int .i64 2, .int .i64 si, .int .i64 wh]
  have hb0 : Below W.heap.size W (W.alloc (.cells #[.int .i64 2, .int .i64 si, .int .i64 wh] 27)) := (Below.refl _ W).alloc (Nat.le_refl _) _
  have hs0 : W.heap.size < (W.alloc (.cells #[.int .i64 2, .int .i64 si, .int .i64 wh] 27)).heap.size := by simp
  go_enter Try.func5, Try.ntmps5
  go_upto_region 1 with fail
  generalize (W.alloc (.cells #[.int .i64 2, .int .i64 si, .int .i64 wh] 27)) = V at *
  have HI0 := Lib.hid (And.intro (hI.below hb0) (hB.below hb0))
  have v0 : V.cell? ⟨W.heap.size, 0, none⟩ = some (.int .i64 2) := b0.cell 0
  have v1 : V.cell? ⟨W.heap.size, 1, none⟩ = some (.int .i64 si) := b0.cell 1
  have v2 : V.cell? ⟨W.heap.size, 2, none⟩ = some (.int .i64 wh) := b0.cell 2
  have c6 : V.cell? ⟨g, 6, none⟩ = some (.slice AL 3 cL) := HI0.out.2.blk.cell 6
  have hgl0 : g < V.heap.size := HI0.out.2.blk.lt
  obtain ⟨bl, rfl, hbl, hlb, ⟨curL, hBL⟩, hcl⟩ := ls_cells HI0.out.2.L
  obtain ⟨l0, l1, l2⟩ := hcl i hi3
  have hli := hl i hi3
  clear hcl hI hB
  obtain ⟨e, he⟩ : ∃ e : Int, e = (s.ls i).1 := ⟨_, rfl⟩
  rw [← he] at l1 hli
  obtain ⟨u, hu⟩ : ∃ u : Int, u = (s.ls i).2 := ⟨_, rfl⟩
  rw [← hu] at l2 hli
  have HEU := Lib.hid (And.intro he hu)
  clear he hu
  have bA := Blk.new V 41 #[.int .i64 (i : Nat), .int .i64 e, .int .i64 u]
  have hbA : Below V.heap.size V (V.alloc (.cells #[.int .i64 (i : Nat), .int .i64 e, .int .i64 u] 41)) := (Below.refl _ V).alloc (Nat.le_refl _) _
  have hsA : V.heap.size < (V.alloc (.cells #[.int .i64 (i : Nat), .int .i64 e, .int .i64 u] 41)).heap.size := by simp
  go_upto_region 3 with fail
  generalize (V.alloc (.cells #[.int .i64 (i : Nat), .int .i64 e, .int .i64 u] 41)) = V1 at *
  have HI1 := Lib.hid (And.intro (HI0.out.1.below hbA) (HI0.out.2.below hbA))
  have b1 := b0.below hbA hs0
  have hbl1 : bl < V1.heap.size := by omega
  have hBL1 := hBL.below hbA hbl
  have HL := Lib.hid (And.intro hlb hBL1)
  clear c6 l0 l1 l2 v0 v1 v2 k1 k2 w1 hbA HI0 b0 hBL hlb hBL1 hb0
  have v0 : V1.cell? ⟨W.heap.size, 0, none⟩ = some (.int .i64 2) := b1.cell 0
  have v1 : V1.cell? ⟨W.heap.size, 1, none⟩ = some (.int .i64 si) := b1.cell 1
  have v2 : V1.cell? ⟨W.heap.size, 2, none⟩ = some (.int .i64 wh) := b1.cell 2
  have x0 : V1.cell? ⟨V.heap.size, 0, none⟩ = some (.int .i64 (i : Nat)) := bA.cell 0
  have x1 : V1.cell? ⟨V.heap.size, 1, none⟩ = some (.int .i64 e) := bA.cell 1
  have x2 : V1.cell? ⟨V.heap.size, 2, none⟩ = some (.int .i64 u) := bA.cell 2
  go_upto_region 14 with fail
  go_wp2_with fail
  refine (GiveUp_ok (i : Nat) e u V1 (by omega) (by omega) (by omega) (by omega)).mono ?_
  rintro y w4 ⟨rfl, hb4⟩
  have HI4 := Lib.hid (And.intro (HI1.out.1.below hb4) (HI1.out.2.below hb4))
  have hBL4 := HL.out.2.below hb4 hbl1
  have hs4 := hb4.size
  clear x0 x1 x2 v0 v1 v2
  have b11 : Blk ((w4.alloc (.cells #[.int .i64 (i : Nat), .int .i64 (e + 1), .int .i64 0] 41)).alloc (.cells #[.int .i64 18, .int .i64 (i : Nat), .int .i64 4, .int .i64 0, .int .i64 0, .int .i64 e, .slice none 0 0, .slice none 0 0] 49)) w4.heap.size 41 #[.int .i64 (i : Nat), .int .i64 (e + 1), .int .i64 0] := (Blk.new w4 41 #[.int .i64 (i : Nat), .int .i64 (e + 1), .int .i64 0]).alloc _
  have b12 : Blk ((w4.alloc (.cells #[.int .i64 (i : Nat), .int .i64 (e + 1), .int .i64 0] 41)).alloc (.cells #[.int .i64 18, .int .i64 (i : Nat), .int .i64 4, .int .i64 0, .int .i64 0, .int .i64 e, .slice none 0 0, .slice none 0 0] 49)) (w4.heap.size + 1) 49 #[.int .i64 18, .int .i64 (i : Nat), .int .i64 4, .int .i64 0, .int .i64 0, .int .i64 e, .slice none 0 0, .slice none 0 0] := by have := Blk.new (w4.alloc (.cells #[.int .i64 (i : Nat), .int .i64 (e + 1), .int .i64 0] 41)) 49 #[.int .i64 18, .int .i64 (i : Nat), .int .i64 4, .int .i64 0, .int .i64 0, .int .i64 e, .slice none 0 0, .slice none 0 0]; rw [World.size_alloc] at this; exact this
  have hb8 : Below w4.heap.size w4 ((w4.alloc (.cells #[.int .i64 (i : Nat), .int .i64 (e + 1), .int .i64 0] 41)).alloc (.cells #[.int .i64 18, .int .i64 (i : Nat), .int .i64 4, .int .i64 0, .int .i64 0, .int .i64 e, .slice none 0 0, .slice none 0 0] 49)) := ((Below.refl _ w4).alloc (Nat.le_refl _) _).alloc (by simp) _
  go_upto_region 15 with fail
  generalize ((w4.alloc (.cells #[.int .i64 (i : Nat), .int .i64 (e + 1), .int .i64 0] 41)).alloc (.cells #[.int .i64 18, .int .i64 (i : Nat), .int .i64 4, .int .i64 0, .int .i64 0, .int .i64 e, .slice none 0 0, .slice none 0 0] 49)) = V8 at *
  have HI8 := Lib.hid (And.intro (HI4.out.1.below hb8) (HI4.out.2.below hb8))
  have hBL8 := hBL4.below hb8 (by omega)
  have hs8 := hb8.size
  have hbl8 : bl < V8.heap.size := by omega
  obtain ⟨bl', hvv, _, _, _, hcl⟩ := ls_cells HI8.out.2.L
  injection hvv with hvv
  injection hvv with hvv
  subst hvv
  obtain ⟨l0, l1, l2⟩ := hcl i hi3
  clear hcl hb8
  have f0 : V8.frozen? ⟨bl, i * 3, none⟩ = false := hBL8.frozen _
  have f1 : V8.frozen? ⟨bl, i * 3 + 1, none⟩ = false := hBL8.frozen _
  have f2 : V8.frozen? ⟨bl, i * 3 + 2, none⟩ = false := hBL8.frozen _
  have l0' : V8.drew.cell? ⟨bl, i * 3, none⟩ = some _ := l0
  have l1' : V8.drew.cell? ⟨bl, i * 3 + 1, none⟩ = some _ := l1
  have l2' : V8.drew.cell? ⟨bl, i * 3 + 2, none⟩ = some _ := l2
  have f0' : V8.drew.frozen? ⟨bl, i * 3, none⟩ = false := f0
  have f1' : V8.drew.frozen? ⟨bl, i * 3 + 1, none⟩ = false := f1
  have f2' : V8.drew.frozen? ⟨bl, i * 3 + 2, none⟩ = false := f2
  refine wp_pan (Pc := fun _ _ _ => False) (fun _ _ _ h => h.elim) ?_
  refine wp_region_tail_lit (S := fun V => V.cell? ⟨g, 6, none⟩ = some (.slice (some ⟨bl, 0, none⟩) 3 cL) ∧ V.cell? ⟨w4.heap.size, 0, none⟩ = some (.int .i64 (i : Nat)) ∧ V.cell? ⟨w4.heap.size, 1, none⟩ = some (.int .i64 (e + 1)) ∧ V.cell? ⟨w4.heap.size, 2, none⟩ = some (.int .i64 0)) 7 (by kernel_rfl) (by kernel_rfl) ⟨(show Blk V8.drew g 39 _ from HI8.out.2.blk).cell 6, (show Blk V8.drew w4.heap.size 41 _ from b11).cell 0, (show Blk V8.drew w4.heap.size 41 _ from b11).cell 1, (show Blk V8.drew w4.heap.size 41 _ from b11).cell 2⟩ (fun hHeld => ?_)
  simp only [List.take, List.drop]
  refine wpAnyH_take (i := 0) (oi := _) (v := ?_) rfl (by kernel_rfl) (by kernel_rfl) (by kernel_rfl) (fun _ _ _ h => h) (Or.inl ⟨by rfl, ?_⟩) (by assumption) ?_
  rotate_left 1
  · (intro w9 hS9; (try dsimp only at hS9); go_simp <;> with_reducible rfl)
  try simp only [List.getElem_toArray, List.getElem_cons_succ, List.getElem_cons_zero, Act.put, List.setIfInBounds_toArray, List.set_cons_zero, List.set_cons_succ]
  refine wpAnyH_take (i := 1) (oi := _) (v := ?_) rfl (by kernel_rfl) (by kernel_rfl) (by kernel_rfl) (fun _ _ _ h => h) (Or.inl ⟨by rfl, ?_⟩) (by assumption) ?_
  rotate_left 1
  · (intro w9 hS9; (try dsimp only at hS9); go_simp <;> with_reducible rfl)
  try simp only [List.getElem_toArray, List.getElem_cons_succ, List.getElem_cons_zero, Act.put, List.setIfInBounds_toArray, List.set_cons_zero, List.set_cons_succ]
  refine wpAnyH_take (i := 2) (oi := _) (v := ?_) rfl (by kernel_rfl) (by kernel_rfl) (by kernel_rfl) (fun _ _ _ h => h) (Or.inl ⟨by rfl, ?_⟩) (by assumption) ?_
  rotate_left 1
  · (intro w9 hS9; (try dsimp only at hS9); go_simp <;> with_reducible rfl)
  try simp only [List.getElem_toArray, List.getElem_cons_succ, List.getElem_cons_zero, Act.put, List.setIfInBounds_toArray, List.set_cons_zero, List.set_cons_succ]
  refine wpAnyH_take (i := 3) (oi := _) (v := ?_) rfl (by kernel_rfl) (by kernel_rfl) (by kernel_rfl) (fun _ _ _ h => h) (Or.inl ⟨by rfl, ?_⟩) (by assumption) ?_
  rotate_left 1
  · (intro w9 hS9; (try dsimp only at hS9); go_simp <;> with_reducible rfl)
  try simp only [List.getElem_toArray, List.getElem_cons_succ, List.getElem_cons_zero, Act.put, List.setIfInBounds_toArray, List.set_cons_zero, List.set_cons_succ]
  refine wpAnyH_take (i := 4) (oi := _) (v := ?_) rfl (by kernel_rfl) (by kernel_rfl) (by kernel_rfl) (fun _ _ _ h => h) (Or.inl ⟨by rfl, ?_⟩) (by assumption) ?_
  rotate_left 1
  · (intro w9 hS9; (try dsimp only at hS9); go_simp <;> with_reducible rfl)
  try simp only [List.getElem_toArray, List.getElem_cons_succ, List.getElem_cons_zero, Act.put, List.setIfInBounds_toArray, List.set_cons_zero, List.set_cons_succ]
  refine wpAnyH_take (i := 5) (oi := _) (v := ?_) rfl (by kernel_rfl) (by kernel_rfl) (by kernel_rfl) (fun _ _ _ h => h) (Or.inl ⟨by rfl, ?_⟩) (by assumption) ?_
  rotate_left 1
  · (intro w9 hS9; (try dsimp only at hS9); go_simp <;> with_reducible rfl)
  try simp only [List.getElem_toArray, List.getElem_cons_succ, List.getElem_cons_zero, Act.put, List.setIfInBounds_toArray, List.set_cons_zero, List.set_cons_succ]
  refine wpAnyH_take (i := 6) (oi := _) (v := ?_) rfl (by kernel_rfl) (by kernel_rfl) (by kernel_rfl) (fun _ _ _ h => h) (Or.inl ⟨by rfl, ?_⟩) (by assumption) ?_
  rotate_left 1
  · (intro w9 hS9; (try dsimp only at hS9); go_simp <;> with_reducible rfl)
  try simp only [List.getElem_toArray, List.getElem_cons_succ, List.getElem_cons_zero, Act.put, List.setIfInBounds_toArray, List.set_cons_zero, List.set_cons_succ]
  refine wpAnyH_done (by kernel_rfl) ?_ _
  refine tailQ_step rfl ?_
  go_wp2_with fail
  refine tailQ_nil (panQ_normal ?_)
  have hfin := HI8.out.2.lease hi3 (e + 1, 0)
  have hne : ∀ k, w4.heap.size + 1 ≠ (⟨bl, k, none⟩ : Addr).block := fun k => by show w4.heap.size + 1 ≠ bl; omega
  have b12' := ((b12.far (p := ⟨bl, i * 3, none⟩) (hne _) (.int .i64 (i : Nat))).far (p := ⟨bl, i * 3 + 1, none⟩) (hne _) (.int .i64 (e + 1))).far (p := ⟨bl, i * 3 + 2, none⟩) (hne _) (.int .i64 0)
  have HI9 : Hid (StI w g low { s with ls := updL s.ls i (e + 1, 0) } (((V8.setCell ⟨bl, i * 3, none⟩ (.int .i64 (i : Nat))).setCell ⟨bl, i * 3 + 1, none⟩ (.int .i64 (e + 1))).setCell ⟨bl, i * 3 + 2, none⟩ (.int .i64 0)).drew) := by
    have hlb := HL.out.1
    have h9 : StI w g low { s with ls := updL s.ls i (e + 1, 0) } (((V8.setCell ⟨bl, i * 3, none⟩ (.int .i64 (i : Nat))).setCell ⟨bl, i * 3 + 1, none⟩ (.int .i64 (e + 1))).setCell ⟨bl, i * 3 + 2, none⟩ (.int .i64 0)) := ⟨⟨_, _, _, hfin⟩, HI8.out.1.lw, HI8.out.1.gw, by have := HI8.out.1.sz; simpa using this, ((HI8.out.1.bel.setCell (p := ⟨bl, i * 3, none⟩) (Nat.le_trans HI8.out.1.lw hlb) _).setCell (p := ⟨bl, i * 3 + 1, none⟩) (Nat.le_trans HI8.out.1.lw hlb) _).setCell (p := ⟨bl, i * 3 + 2, none⟩) (Nat.le_trans HI8.out.1.lw hlb) _⟩
    exact h9.below (Below.refl _ _).drew
  have b13 : Blk (((V8.setCell ⟨bl, i * 3, none⟩ (.int .i64 (i : Nat))).setCell ⟨bl, i * 3 + 1, none⟩ (.int .i64 (e + 1))).setCell ⟨bl, i * 3 + 2, none⟩ (.int .i64 0)).drew (w4.heap.size + 1) 49 #[.int .i64 18, .int .i64 (i : Nat), .int .i64 4, .int .i64 0, .int .i64 0, .int .i64 e, .slice none 0 0, .slice none 0 0] := b12'
  clear b12' hfin l0 l1 l2 l0' l1' l2' f0 f1 f2 f0' f1' f2'
  generalize (((V8.setCell ⟨bl, i * 3, none⟩ (.int .i64 (i : Nat))).setCell ⟨bl, i * 3 + 1, none⟩ (.int .i64 (e + 1))).setCell ⟨bl, i * 3 + 2, none⟩ (.int .i64 0)).drew = V9 at *
  have m0 : V9.cell? ⟨w4.heap.size + 1, 0, none⟩ = some (.int .i64 18) := b13.cell 0
  have m1 : V9.cell? ⟨w4.heap.size + 1, 1, none⟩ = some (.int .i64 (i : Nat)) := b13.cell 1
  have m2 : V9.cell? ⟨w4.heap.size + 1, 2, none⟩ = some (.int .i64 4) := b13.cell 2
  have m3 : V9.cell? ⟨w4.heap.size + 1, 3, none⟩ = some (.int .i64 0) := b13.cell 3
  have m4 : V9.cell? ⟨w4.heap.size + 1, 4, none⟩ = some (.int .i64 0) := b13.cell 4
  have m5 : V9.cell? ⟨w4.heap.size + 1, 5, none⟩ = some (.int .i64 e) := b13.cell 5
  have m6 : V9.cell? ⟨w4.heap.size + 1, 6, none⟩ = some (.slice none 0 0) := b13.cell 6
  have m7 : V9.cell? ⟨w4.heap.size + 1, 7, none⟩ = some (.slice none 0 0) := b13.cell 7
  go_wp2_with fail
  refine (send_ok w V9 g low _ ⟨18, (i : Nat), 4, 0, 0, e⟩ HI9.out hn).mono ?_
  rintro y w5 ⟨rfl, hI5⟩
  clear m0 m1 m2 m3 m4 m5 m6 m7
  go_wp2_with fail
  go_ret
  exact ⟨rfl, i, hi3, by rw [← HEU.out.1]; exact hI5⟩
set_option linter.unusedSimpArgs false in
set_option maxRecDepth 100000 in
set_option maxHeartbeats 8000000 in
theorem step4 (w W : World) (g low : Nat) (s : St) (si wh : Int) (hI : StI w g low s W) (hl : LsOk s.ls) (ha : ∀ m ∈ s.an, AnOk s m) (hq : ∀ q ∈ s.rq, 0 ≤ q.t ∧ q.t ≤ 1000000) (htm : 1 ≤ s.tm ∧ s.tm ≤ 100) (hmg : 0 ≤ s.mg ∧ s.mg ≤ 100) (han : s.an.length ≤ 1000) (hrn : s.rq.length ≤ 1000) :
    Calls Try.prog 5 #[.pointer (some ⟨g, 0, none⟩), .agg #[.int .i64 4, .int .i64 si, .int .i64 wh]] W fun x W' => x = .returned (.bool true) ∧ ∃ s', StI w g low s' W' ∧ (s' = s ∨ ∃ m q, m ∈ s.an ∧ s.rq[m.nm.toNat]? = some q ∧ s' = learnM s m q.t) := by
  obtain ⟨vL, vR, vA, hB⟩ := hI.blk
  obtain ⟨AL, cL, rfl, _, _, _⟩ := own_slice hB.L
  have hgl := hB.blk.lt
  obtain ⟨r1, i, k1, k2, hi3, hr1, hr1'⟩ := pick3 si
  have w1 : IntKind.i64.wrap (r1 + 3) = r1 + 3 := IntWalk.i64_in _ (by omega)
  have hi' : ((i : Nat) : Int) < 3 := by omega
  have b0 := Blk.new W 27 #[.int .i64 4, .int .i64 si, .int .i64 wh]
  have hb0 : Below W.heap.size W (W.alloc (.cells #[.int .i64 4, .int .i64 si, .int .i64 wh] 27)) := (Below.refl _ W).alloc (Nat.le_refl _) _
  have hs0 : W.heap.size < (W.alloc (.cells #[.int .i64 4, .int .i64 si, .int .i64 wh] 27)).heap.size := by simp
  go_enter Try.func5, Try.ntmps5
  go_upto_region 1 with fail
  generalize (W.alloc (.cells #[.int .i64 4, .int .i64 si, .int .i64 wh] 27)) = V at *
  have HI0 := Lib.hid (And.intro (hI.below hb0) (hB.below hb0))
  have v0 : V.cell? ⟨W.heap.size, 0, none⟩ = some (.int .i64 4) := b0.cell 0
  have v1 : V.cell? ⟨W.heap.size, 1, none⟩ = some (.int .i64 si) := b0.cell 1
  have v2 : V.cell? ⟨W.heap.size, 2, none⟩ = some (.int .i64 wh) := b0.cell 2
  have c6 : V.cell? ⟨g, 6, none⟩ = some (.slice AL 3 cL) := HI0.out.2.blk.cell 6
  have hgl0 : g < V.heap.size := HI0.out.2.blk.lt
  obtain ⟨bl, rfl, hbl, hlb, ⟨curL, hBL⟩, hcl⟩ := ls_cells HI0.out.2.L
  obtain ⟨l0, l1, l2⟩ := hcl i hi3
  have hli := hl i hi3
  clear hcl hI hB
  obtain ⟨e, he⟩ : ∃ e : Int, e = (s.ls i).1 := ⟨_, rfl⟩
  rw [← he] at l1 hli
  obtain ⟨u, hu⟩ : ∃ u : Int, u = (s.ls i).2 := ⟨_, rfl⟩
  rw [← hu] at l2 hli
  have HEU := Lib.hid (And.intro he hu)
  clear he hu
  have bA := Blk.new V 41 #[.int .i64 (i : Nat), .int .i64 e, .int .i64 u]
  have hbA : Below V.heap.size V (V.alloc (.cells #[.int .i64 (i : Nat), .int .i64 e, .int .i64 u] 41)) := (Below.refl _ V).alloc (Nat.le_refl _) _
  have hsA : V.heap.size < (V.alloc (.cells #[.int .i64 (i : Nat), .int .i64 e, .int .i64 u] 41)).heap.size := by simp
  go_upto_region 3 with fail
  generalize (V.alloc (.cells #[.int .i64 (i : Nat), .int .i64 e, .int .i64 u] 41)) = V1 at *
  have HI1 := Lib.hid (And.intro (HI0.out.1.below hbA) (HI0.out.2.below hbA))
  have b1 := b0.below hbA hs0
  have hbl1 : bl < V1.heap.size := by omega
  have hBL1 := hBL.below hbA hbl
  have HL := Lib.hid (And.intro hlb hBL1)
  clear c6 l0 l1 l2 v0 v1 v2 k1 k2 w1 hbA HI0 b0 hBL hlb hBL1 hb0
  have v0 : V1.cell? ⟨W.heap.size, 0, none⟩ = some (.int .i64 4) := b1.cell 0
  have v1 : V1.cell? ⟨W.heap.size, 1, none⟩ = some (.int .i64 si) := b1.cell 1
  have v2 : V1.cell? ⟨W.heap.size, 2, none⟩ = some (.int .i64 wh) := b1.cell 2
  have x0 : V1.cell? ⟨V.heap.size, 0, none⟩ = some (.int .i64 (i : Nat)) := bA.cell 0
  have x1 : V1.cell? ⟨V.heap.size, 1, none⟩ = some (.int .i64 e) := bA.cell 1
  have x2 : V1.cell? ⟨V.heap.size, 2, none⟩ = some (.int .i64 u) := bA.cell 2
  go_wp2_with fail
  refine (learn_ok w V1 g low s wh HI1.out.1 hl ha hq htm hmg han hrn).mono ?_
  rintro y w5 ⟨rfl, s', hI5, hs'⟩
  clear x0 x1 x2 v0 v1 v2
  go_wp2_with fail
  go_ret
  exact ⟨rfl, s', hI5, hs'⟩
set_option linter.unusedSimpArgs false in
set_option maxRecDepth 100000 in
set_option maxHeartbeats 8000000 in
theorem step5 (w W : World) (g low : Nat) (s : St) (si wh : Int) (hI : StI w g low s W) (hl : LsOk s.ls) (hf : 0 ≤ s.fe ∧ s.fe ≤ 1000000) (ho : 0 ≤ s.fo ∧ s.fo < 3) (hok : ∀ i : Nat, i < 3 → s.now < (s.ls i).2 → s.fe < (s.ls i).1 ∨ (s.fe = (s.ls i).1 ∧ s.fo = (i : Nat))) :
    Calls Try.prog 5 #[.pointer (some ⟨g, 0, none⟩), .agg #[.int .i64 5, .int .i64 si, .int .i64 wh]] W fun x W' => x = .returned (.bool true) ∧ ∃ i, i < 3 ∧ StI w g low (writeM s i) W' := by
  obtain ⟨vL, vR, vA, hB⟩ := hI.blk
  obtain ⟨AL, cL, rfl, _, _, _⟩ := own_slice hB.L
  have hgl := hB.blk.lt
  obtain ⟨r1, i, k1, k2, hi3, hr1, hr1'⟩ := pick3 si
  have w1 : IntKind.i64.wrap (r1 + 3) = r1 + 3 := IntWalk.i64_in _ (by omega)
  have hi' : ((i : Nat) : Int) < 3 := by omega
  have b0 := Blk.new W 27 #[.int .i64 5, .int .i64 si, .int .i64 wh]
  have hb0 : Below W.heap.size W (W.alloc (.cells #[.int .i64 5, .int .i64 si, .int .i64 wh] 27)) := (Below.refl _ W).alloc (Nat.le_refl _) _
  have hs0 : W.heap.size < (W.alloc (.cells #[.int .i64 5, .int .i64 si, .int .i64 wh] 27)).heap.size := by simp
  go_enter Try.func5, Try.ntmps5
  go_upto_region 1 with fail
  generalize (W.alloc (.cells #[.int .i64 5, .int .i64 si, .int .i64 wh] 27)) = V at *
  have HI0 := Lib.hid (And.intro (hI.below hb0) (hB.below hb0))
  have v0 : V.cell? ⟨W.heap.size, 0, none⟩ = some (.int .i64 5) := b0.cell 0
  have v1 : V.cell? ⟨W.heap.size, 1, none⟩ = some (.int .i64 si) := b0.cell 1
  have v2 : V.cell? ⟨W.heap.size, 2, none⟩ = some (.int .i64 wh) := b0.cell 2
  have c6 : V.cell? ⟨g, 6, none⟩ = some (.slice AL 3 cL) := HI0.out.2.blk.cell 6
  have hgl0 : g < V.heap.size := HI0.out.2.blk.lt
  obtain ⟨bl, rfl, hbl, hlb, ⟨curL, hBL⟩, hcl⟩ := ls_cells HI0.out.2.L
  obtain ⟨l0, l1, l2⟩ := hcl i hi3
  have hli := hl i hi3
  clear hcl hI hB
  obtain ⟨e, he⟩ : ∃ e : Int, e = (s.ls i).1 := ⟨_, rfl⟩
  rw [← he] at l1 hli
  obtain ⟨u, hu⟩ : ∃ u : Int, u = (s.ls i).2 := ⟨_, rfl⟩
  rw [← hu] at l2 hli
  have HEU := Lib.hid (And.intro he hu)
  clear he hu
  have bA := Blk.new V 41 #[.int .i64 (i : Nat), .int .i64 e, .int .i64 u]
  have hbA : Below V.heap.size V (V.alloc (.cells #[.int .i64 (i : Nat), .int .i64 e, .int .i64 u] 41)) := (Below.refl _ V).alloc (Nat.le_refl _) _
  have hsA : V.heap.size < (V.alloc (.cells #[.int .i64 (i : Nat), .int .i64 e, .int .i64 u] 41)).heap.size := by simp
  go_upto_region 3 with fail
  generalize (V.alloc (.cells #[.int .i64 (i : Nat), .int .i64 e, .int .i64 u] 41)) = V1 at *
  have HI1 := Lib.hid (And.intro (HI0.out.1.below hbA) (HI0.out.2.below hbA))
  have b1 := b0.below hbA hs0
  have hbl1 : bl < V1.heap.size := by omega
  have hBL1 := hBL.below hbA hbl
  have HL := Lib.hid (And.intro hlb hBL1)
  clear c6 l0 l1 l2 v0 v1 v2 k1 k2 w1 hbA HI0 b0 hBL hlb hBL1 hb0
  have v0 : V1.cell? ⟨W.heap.size, 0, none⟩ = some (.int .i64 5) := b1.cell 0
  have v1 : V1.cell? ⟨W.heap.size, 1, none⟩ = some (.int .i64 si) := b1.cell 1
  have v2 : V1.cell? ⟨W.heap.size, 2, none⟩ = some (.int .i64 wh) := b1.cell 2
  have x0 : V1.cell? ⟨V.heap.size, 0, none⟩ = some (.int .i64 (i : Nat)) := bA.cell 0
  have x1 : V1.cell? ⟨V.heap.size, 1, none⟩ = some (.int .i64 e) := bA.cell 1
  have x2 : V1.cell? ⟨V.heap.size, 2, none⟩ = some (.int .i64 u) := bA.cell 2
  go_wp2_with fail
  refine (write_ok w V1 g low s i HI1.out.1 hl hi3 hf ho (hok i hi3)).mono ?_
  rintro y w5 ⟨rfl, hI5⟩
  clear x0 x1 x2 v0 v1 v2
  go_wp2_with fail
  go_ret
  exact ⟨rfl, i, hi3, hI5⟩
set_option linter.unusedSimpArgs false in
set_option maxRecDepth 100000 in
set_option maxHeartbeats 8000000 in
theorem stepD (w W : World) (g low : Nat) (s : St) (si wh : Int) (hI : StI w g low s W) (hl : LsOk s.ls) (kk : Int) (hk : ¬ (kk = 0 ∨ kk = 1 ∨ kk = 2 ∨ kk = 3 ∨ kk = 4 ∨ kk = 5)) (hnow : 0 ≤ s.now ∧ s.now ≤ 1000000) :
    Calls Try.prog 5 #[.pointer (some ⟨g, 0, none⟩), .agg #[.int .i64 kk, .int .i64 si, .int .i64 wh]] W fun x W' => x = .returned (.bool true) ∧ ∃ d : Int, 0 ≤ d ∧ d ≤ 6 ∧ StI w g low { s with now := s.now + d } W' := by
  obtain ⟨vL, vR, vA, hB⟩ := hI.blk
  obtain ⟨AL, cL, rfl, _, _, _⟩ := own_slice hB.L
  have hgl := hB.blk.lt
  obtain ⟨r1, i, k1, k2, hi3, hr1, hr1'⟩ := pick3 si
  have w1 : IntKind.i64.wrap (r1 + 3) = r1 + 3 := IntWalk.i64_in _ (by omega)
  have hi' : ((i : Nat) : Int) < 3 := by omega
  have b0 := Blk.new W 27 #[.int .i64 kk, .int .i64 si, .int .i64 wh]
  have hb0 : Below W.heap.size W (W.alloc (.cells #[.int .i64 kk, .int .i64 si, .int .i64 wh] 27)) := (Below.refl _ W).alloc (Nat.le_refl _) _
  have hs0 : W.heap.size < (W.alloc (.cells #[.int .i64 kk, .int .i64 si, .int .i64 wh] 27)).heap.size := by simp
  go_enter Try.func5, Try.ntmps5
  go_upto_region 1 with fail
  generalize (W.alloc (.cells #[.int .i64 kk, .int .i64 si, .int .i64 wh] 27)) = V at *
  have HI0 := Lib.hid (And.intro (hI.below hb0) (hB.below hb0))
  have v0 : V.cell? ⟨W.heap.size, 0, none⟩ = some (.int .i64 kk) := b0.cell 0
  have v1 : V.cell? ⟨W.heap.size, 1, none⟩ = some (.int .i64 si) := b0.cell 1
  have v2 : V.cell? ⟨W.heap.size, 2, none⟩ = some (.int .i64 wh) := b0.cell 2
  have c6 : V.cell? ⟨g, 6, none⟩ = some (.slice AL 3 cL) := HI0.out.2.blk.cell 6
  have hgl0 : g < V.heap.size := HI0.out.2.blk.lt
  obtain ⟨bl, rfl, hbl, hlb, ⟨curL, hBL⟩, hcl⟩ := ls_cells HI0.out.2.L
  obtain ⟨l0, l1, l2⟩ := hcl i hi3
  have hli := hl i hi3
  clear hcl hI hB
  obtain ⟨e, he⟩ : ∃ e : Int, e = (s.ls i).1 := ⟨_, rfl⟩
  rw [← he] at l1 hli
  obtain ⟨u, hu⟩ : ∃ u : Int, u = (s.ls i).2 := ⟨_, rfl⟩
  rw [← hu] at l2 hli
  have HEU := Lib.hid (And.intro he hu)
  clear he hu
  have bA := Blk.new V 41 #[.int .i64 (i : Nat), .int .i64 e, .int .i64 u]
  have hbA : Below V.heap.size V (V.alloc (.cells #[.int .i64 (i : Nat), .int .i64 e, .int .i64 u] 41)) := (Below.refl _ V).alloc (Nat.le_refl _) _
  have hsA : V.heap.size < (V.alloc (.cells #[.int .i64 (i : Nat), .int .i64 e, .int .i64 u] 41)).heap.size := by simp
  go_upto_region 3 with fail
  generalize (V.alloc (.cells #[.int .i64 (i : Nat), .int .i64 e, .int .i64 u] 41)) = V1 at *
  have HI1 := Lib.hid (And.intro (HI0.out.1.below hbA) (HI0.out.2.below hbA))
  have b1 := b0.below hbA hs0
  have hbl1 : bl < V1.heap.size := by omega
  have hBL1 := hBL.below hbA hbl
  have HL := Lib.hid (And.intro hlb hBL1)
  clear c6 l0 l1 l2 v0 v1 v2 k1 k2 w1 hbA HI0 b0 hBL hlb hBL1 hb0
  have v0 : V1.cell? ⟨W.heap.size, 0, none⟩ = some (.int .i64 kk) := b1.cell 0
  have v1 : V1.cell? ⟨W.heap.size, 1, none⟩ = some (.int .i64 si) := b1.cell 1
  have v2 : V1.cell? ⟨W.heap.size, 2, none⟩ = some (.int .i64 wh) := b1.cell 2
  have x0 : V1.cell? ⟨V.heap.size, 0, none⟩ = some (.int .i64 (i : Nat)) := bA.cell 0
  have x1 : V1.cell? ⟨V.heap.size, 1, none⟩ = some (.int .i64 e) := bA.cell 1
  have x2 : V1.cell? ⟨V.heap.size, 2, none⟩ = some (.int .i64 u) := bA.cell 2
  have e0 : (kk == 0) = false := by rw [beq_eq_false_iff_ne]; omega
  have e1 : (kk == 1) = false := by rw [beq_eq_false_iff_ne]; omega
  have e2 : (kk == 2) = false := by rw [beq_eq_false_iff_ne]; omega
  have e3 : (kk == 3) = false := by rw [beq_eq_false_iff_ne]; omega
  have e4 : (kk == 4) = false := by rw [beq_eq_false_iff_ne]; omega
  have e5 : (kk == 5) = false := by rw [beq_eq_false_iff_ne]; omega
  obtain ⟨r3, j, k3, k4, hj3, hr3, hr3'⟩ := pick7 wh
  have zw3 : IntKind.i64.wrap (r3 + 7) = r3 + 7 := IntWalk.i64_in _ (by omega)
  have zw4 : IntKind.i64.wrap (s.now + (j : Nat)) = s.now + (j : Nat) := IntWalk.i64_in _ (by omega)
  have c0 : V1.cell? ⟨g, 0, none⟩ = some (.int .i64 s.now) := HI1.out.2.blk.cell 0
  have f0 : V1.frozen? ⟨g, 0, none⟩ = false := HI1.out.2.blk.frozen 0
  have c0' : V1.drew.cell? ⟨g, 0, none⟩ = some (.int .i64 s.now) := c0
  have f0' : V1.drew.frozen? ⟨g, 0, none⟩ = false := f0
  go_upto_region 4 with fail
  refine wp_pan (Pc := fun _ _ _ => False) (fun _ _ _ h => h.elim) ?_
  refine wp_region_tail_lit (S := fun V => V.cell? ⟨g, 0, none⟩ = some (.int .i64 s.now) ∧ V.cell? ⟨W.heap.size, 2, none⟩ = some (.int .i64 wh)) 12 (by kernel_rfl) (by kernel_rfl) ⟨(show Blk V1.drew g 39 _ from HI1.out.2.blk).cell 0, (show Blk V1.drew W.heap.size 27 _ from b1).cell 2⟩ (fun hHeld => ?_)
  simp only [List.take, List.drop]
  refine wpAnyH_take (i := 0) (oi := _) (v := ?_) rfl (by kernel_rfl) (by kernel_rfl) (by kernel_rfl) (fun _ _ _ h => h) (Or.inl ⟨by rfl, ?_⟩) (by assumption) ?_
  rotate_left 1
  · (intro w9 hS9; (try dsimp only at hS9); go_simp <;> with_reducible rfl)
  try simp only [List.getElem_toArray, List.getElem_cons_succ, List.getElem_cons_zero, Act.put, List.setIfInBounds_toArray, List.set_cons_zero, List.set_cons_succ]
  refine wpAnyH_take (i := 1) (oi := _) (v := ?_) rfl (by kernel_rfl) (by kernel_rfl) (by kernel_rfl) (fun _ _ _ h => h) (Or.inl ⟨by rfl, ?_⟩) (by assumption) ?_
  rotate_left 1
  · (intro w9 hS9; (try dsimp only at hS9); go_simp <;> with_reducible rfl)
  try simp only [List.getElem_toArray, List.getElem_cons_succ, List.getElem_cons_zero, Act.put, List.setIfInBounds_toArray, List.set_cons_zero, List.set_cons_succ]
  refine wpAnyH_take (i := 2) (oi := _) (v := ?_) rfl (by kernel_rfl) (by kernel_rfl) (by kernel_rfl) (fun _ _ _ h => h) (Or.inl ⟨by rfl, ?_⟩) (by assumption) ?_
  rotate_left 1
  · (intro w9 hS9; (try dsimp only at hS9); go_simp <;> with_reducible rfl)
  try simp only [List.getElem_toArray, List.getElem_cons_succ, List.getElem_cons_zero, Act.put, List.setIfInBounds_toArray, List.set_cons_zero, List.set_cons_succ]
  refine wpAnyH_take (i := 3) (oi := _) (v := ?_) rfl (by kernel_rfl) (by kernel_rfl) (by kernel_rfl) (fun _ _ _ h => h) (Or.inl ⟨by rfl, ?_⟩) (by assumption) ?_
  rotate_left 1
  · (intro w9 hS9; (try dsimp only at hS9); go_simp <;> with_reducible rfl)
  try simp only [List.getElem_toArray, List.getElem_cons_succ, List.getElem_cons_zero, Act.put, List.setIfInBounds_toArray, List.set_cons_zero, List.set_cons_succ]
  refine wpAnyH_take (i := 4) (oi := _) (v := ?_) rfl (by kernel_rfl) (by kernel_rfl) (by kernel_rfl) (fun _ _ _ h => h) (Or.inl ⟨by rfl, ?_⟩) (by assumption) ?_
  rotate_left 1
  · (intro w9 hS9; (try dsimp only at hS9); go_simp <;> with_reducible rfl)
  try simp only [List.getElem_toArray, List.getElem_cons_succ, List.getElem_cons_zero, Act.put, List.setIfInBounds_toArray, List.set_cons_zero, List.set_cons_succ]
  refine wpAnyH_take (i := 5) (oi := _) (v := ?_) rfl (by kernel_rfl) (by kernel_rfl) (by kernel_rfl) (fun _ _ _ h => h) (Or.inl ⟨by rfl, ?_⟩) (by assumption) ?_
  rotate_left 1
  · (intro w9 hS9; (try dsimp only at hS9); go_simp <;> with_reducible rfl)
  try simp only [List.getElem_toArray, List.getElem_cons_succ, List.getElem_cons_zero, Act.put, List.setIfInBounds_toArray, List.set_cons_zero, List.set_cons_succ]
  refine wpAnyH_take (i := 6) (oi := _) (v := ?_) rfl (by kernel_rfl) (by kernel_rfl) (by kernel_rfl) (fun _ _ _ h => h) (Or.inl ⟨by rfl, ?_⟩) (by assumption) ?_
  rotate_left 1
  · (intro w9 hS9; (try dsimp only at hS9); go_simp <;> with_reducible rfl)
  try simp only [List.getElem_toArray, List.getElem_cons_succ, List.getElem_cons_zero, Act.put, List.setIfInBounds_toArray, List.set_cons_zero, List.set_cons_succ]
  refine wpAnyH_take (i := 7) (oi := _) (v := ?_) rfl (by kernel_rfl) (by kernel_rfl) (by kernel_rfl) (fun _ _ _ h => h) (Or.inl ⟨by rfl, ?_⟩) (by assumption) ?_
  rotate_left 1
  · (intro w9 hS9; (try dsimp only at hS9); go_simp <;> with_reducible rfl)
  try simp only [List.getElem_toArray, List.getElem_cons_succ, List.getElem_cons_zero, Act.put, List.setIfInBounds_toArray, List.set_cons_zero, List.set_cons_succ]
  refine wpAnyH_take (i := 8) (oi := _) (v := ?_) rfl (by kernel_rfl) (by kernel_rfl) (by kernel_rfl) (fun _ _ _ h => h) (Or.inl ⟨by rfl, ?_⟩) (by assumption) ?_
  rotate_left 1
  · (intro w9 hS9; (try dsimp only at hS9); go_simp <;> with_reducible rfl)
  try simp only [List.getElem_toArray, List.getElem_cons_succ, List.getElem_cons_zero, Act.put, List.setIfInBounds_toArray, List.set_cons_zero, List.set_cons_succ]
  refine wpAnyH_take (i := 9) (oi := _) (v := ?_) rfl (by kernel_rfl) (by kernel_rfl) (by kernel_rfl) (fun _ _ _ h => h) (Or.inl ⟨by rfl, ?_⟩) (by assumption) ?_
  rotate_left 1
  · (intro w9 hS9; (try dsimp only at hS9); go_simp <;> with_reducible rfl)
  try simp only [List.getElem_toArray, List.getElem_cons_succ, List.getElem_cons_zero, Act.put, List.setIfInBounds_toArray, List.set_cons_zero, List.set_cons_succ]
  refine wpAnyH_take (i := 10) (oi := _) (v := ?_) rfl (by kernel_rfl) (by kernel_rfl) (by kernel_rfl) (fun _ _ _ h => h) (Or.inl ⟨by rfl, ?_⟩) (by assumption) ?_
  rotate_left 1
  · (intro w9 hS9; (try dsimp only at hS9); go_simp <;> with_reducible rfl)
  try simp only [List.getElem_toArray, List.getElem_cons_succ, List.getElem_cons_zero, Act.put, List.setIfInBounds_toArray, List.set_cons_zero, List.set_cons_succ]
  refine wpAnyH_take (i := 11) (oi := _) (v := ?_) rfl (by kernel_rfl) (by kernel_rfl) (by kernel_rfl) (fun _ _ _ h => h) (Or.inl ⟨by rfl, ?_⟩) (by assumption) ?_
  rotate_left 1
  · (intro w9 hS9; (try dsimp only at hS9); go_simp <;> with_reducible rfl)
  try simp only [List.getElem_toArray, List.getElem_cons_succ, List.getElem_cons_zero, Act.put, List.setIfInBounds_toArray, List.set_cons_zero, List.set_cons_succ]
  refine wpAnyH_done (by kernel_rfl) ?_ _
  refine tailQ_step rfl ?_
  go_wp2_with fail
  refine tailQ_nil (panQ_normal ?_)
  go_wp2_with fail
  go_ret
  exact ⟨rfl, (j : Nat), by omega, by omega, (HI1.out.1.put (s' := { s with now := s.now + (j : Nat) }) 0 (.int .i64 (s.now + (j : Nat))) (fun _ _ _ => rfl) rfl rfl rfl).below (Below.refl _ _).drew⟩
end Go.Proofs.Ytggaaajkbnhofaa
