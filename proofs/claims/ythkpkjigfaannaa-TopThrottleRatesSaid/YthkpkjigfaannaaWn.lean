/- The walk of awake: the examples of the chapter. No condition. -/
import Derived.Test.YthkpkjigfaannaaWm
import Derived.Test.YthkpkjigfaannaaWk
namespace Go.Proofs.Ythkpkjigfaannaa
open Go.RowKit
def TA0 : Th := ⟨3, 2, 0, 0, []⟩
def TA1 : Th := ⟨3, 2, 0, 4, [⟨0, 4⟩]⟩
def TA2 : Th := ⟨3, 2, 1, 4, [⟨0, 4⟩]⟩
def TA3 : Th := ⟨3, 2, 2, 2, [⟨0, 4⟩]⟩
def TA4 : Th := ⟨3, 2, 2, 5, [⟨0, 4⟩, ⟨2, 7⟩]⟩
def TA5 : Th := ⟨3, 2, 4, 2, [⟨2, 7⟩]⟩
theorem eW1 : writeR TA0 0 4 = (TA1, 0, 0) := by kernel_rfl
theorem eW2 : writeR TA1 1 3 = (TA2, 1, 0) := by kernel_rfl
theorem eW3 : writeR TA2 1 7 = (Th.zero, 0, 21) := by kernel_rfl
theorem eP1 : progR TA2 2 2 = (TA3, 0) := by kernel_rfl
theorem eW4 : writeR TA3 2 3 = (TA4, 0, 0) := by kernel_rfl
theorem eP2 : progR TA4 4 5 = (TA5, 0) := by kernel_rfl
theorem eB2 : backV TA2 = 4 := by kernel_rfl
theorem eB4 : backV TA4 = 5 := by kernel_rfl
theorem eB5 : backV TA5 = 2 := by kernel_rfl
theorem eA4 : ageV TA4 3 = 3 := by kernel_rfl
theorem eA5 : ageV TA5 5 = 3 := by kernel_rfl
theorem eC5 : TA5.chk = 0 := by kernel_rfl
/-- the throttle of awake in its block, and its marks elsewhere -/
structure AwI (w : World) (g : Nat) (T : Th) (A : Option Addr) (n c : Nat) (W : World) : Prop where
  blk : Blk W g 24 #[.int .i64 T.o, .int .i64 T.r, .int .i64 T.t, .int .i64 T.b, .slice A n c]
  rd : RdM W A n T.l
  ne : ∀ ad, A = some ad → ad.block ≠ g
  bel : Below w.heap.size w W
  low : w.heap.size ≤ g
theorem AwI.keep {w W W' : World} {g : Nat} {T : Th} {A : Option Addr} {n c : Nat} (h : AwI w g T A n c W) (hb : Below W.heap.size W W') : AwI w g T A n c W' :=
  ⟨h.blk.below hb h.blk.lt, h.rd.up hb, h.ne, h.bel.trans (hb.mono h.bel.size), h.low⟩
theorem AwI.put {w W W' : World} {g : Nat} {T T' : Th} {A A' : Option Addr} {n c n' c' : Nat} (h : AwI w g T A n c W) (hb : Below W.heap.size W W') (hR : RdM W' A' n' T'.l) (hf : ∀ ad, A' = some ad → W.heap.size ≤ ad.block) :
    AwI w g T' A' n' c' (((((W'.setCell ⟨g, 0, none⟩ (.int .i64 T'.o)).setCell ⟨g, 1, none⟩ (.int .i64 T'.r)).setCell ⟨g, 2, none⟩ (.int .i64 T'.t)).setCell ⟨g, 3, none⟩ (.int .i64 T'.b)).setCell ⟨g, 4, none⟩ (.slice A' n' c')) := by
  have hl := h.blk.lt
  have hne : ∀ ad, A' = some ad → ad.block ≠ g := fun ad e => by have := hf ad e; omega
  exact ⟨set5 (h.blk.below hb hl), RdM.far5 hR hne, hne, bel5 (h.bel.trans (hb.mono h.bel.size)) h.low, h.low⟩
theorem AwI.cells {w W : World} {g : Nat} {T : Th} {A : Option Addr} {n c : Nat} (h : AwI w g T A n c W) :
    (W.cell? ⟨g, 0, none⟩ = some (.int .i64 T.o) ∧ W.cell? ⟨g, 1, none⟩ = some (.int .i64 T.r) ∧ W.cell? ⟨g, 2, none⟩ = some (.int .i64 T.t) ∧ W.cell? ⟨g, 3, none⟩ = some (.int .i64 T.b) ∧ W.cell? ⟨g, 4, none⟩ = some (.slice A n c)) ∧
    W.frozen? ⟨g, 0, none⟩ = false ∧ W.frozen? ⟨g, 1, none⟩ = false ∧ W.frozen? ⟨g, 2, none⟩ = false ∧ W.frozen? ⟨g, 3, none⟩ = false ∧ W.frozen? ⟨g, 4, none⟩ = false ∧ g < W.heap.size :=
  ⟨cells5 h.blk, h.blk.frozen 0, h.blk.frozen 1, h.blk.frozen 2, h.blk.frozen 3, h.blk.frozen 4, h.blk.lt⟩
set_option maxRecDepth 100000 in
set_option maxHeartbeats 10000000 in
theorem awake_any (w : World) : Calls Try.prog 11 #[] w fun e w' => e = .returned (.bool true) ∧ Below w.heap.size w w' := by
  go_enter Try.func11, Try.ntmps11
  go_wp2_with fail
  refine (New_any 3 2 w).mono ?_
  rintro e w1 ⟨rfl, hb1⟩
  rw [show newE 3 2 = 0 by kernel_rfl, show newV 3 2 = .agg #[.int .i64 3, .int .i64 2, .int .i64 0, .int .i64 0, .slice none 0 0] by kernel_rfl]
  go_wp2_with fail
  have hI0 : AwI w w1.heap.size TA0 none 0 0 (w1.alloc (.cells #[.int .i64 3, .int .i64 2, .int .i64 0, .int .i64 0, .slice none 0 0] 24)) := ⟨Blk.new _ _ _, Reads.none_, (fun ad h => by cases h), hb1.alloc hb1.size _, hb1.size⟩
  obtain ⟨W0, hW0⟩ : ∃ W0, w1.alloc (.cells #[.int .i64 3, .int .i64 2, .int .i64 0, .int .i64 0, .slice none 0 0] 24) = W0 := ⟨_, rfl⟩
  rw [hW0] at hI0 ⊢
  generalize w1.heap.size = g at *
  clear hW0 hb1
  have hC1 := Write_fresh TA0 0 4 none 0 0 W0 hI0.rd (by decide)
  rw [eW1] at hC1
  have HC1 := Lib.hid hC1
  have HI1 := Lib.hid hI0
  clear hC1 hI0
  refine HC1.out.mono ?_
  rintro e V1 ⟨⟨_, rfl, A1, n1, c1, rfl, hR1, _, _, hf1⟩, hb1⟩
  obtain rfl : 1 = n1 := hR1.len
  have hI1 : AwI w g TA1 A1 1 c1 (((((V1.setCell ⟨g, 0, none⟩ (.int .i64 3)).setCell ⟨g, 1, none⟩ (.int .i64 2)).setCell ⟨g, 2, none⟩ (.int .i64 0)).setCell ⟨g, 3, none⟩ (.int .i64 4)).setCell ⟨g, 4, none⟩ (.slice A1 1 c1)) := HI1.out.put hb1 hR1 hf1 (T' := TA1) (c' := c1)
  have hK1 := HI1.out.keep hb1
  have HS1 := Lib.hid hI1
  obtain ⟨⟨f0, f1, f2, f3, f4⟩, z0, z1, z2, z3, z4, lg⟩ := hK1.cells
  change V1.cell? ⟨g, 0, none⟩ = some (.int .i64 3) at f0
  change V1.cell? ⟨g, 1, none⟩ = some (.int .i64 2) at f1
  change V1.cell? ⟨g, 2, none⟩ = some (.int .i64 0) at f2
  change V1.cell? ⟨g, 3, none⟩ = some (.int .i64 0) at f3
  try simp only [TA1]
  clear hK1 hI1 hR1 hf1 hb1
  go_wp2_with fail
  clear f0 f1 f2 f3 f4 z0 z1 z2 z3 z4 lg
  obtain ⟨W1, hW1⟩ : ∃ W1, (((((V1.setCell ⟨g, 0, none⟩ (.int .i64 3)).setCell ⟨g, 1, none⟩ (.int .i64 2)).setCell ⟨g, 2, none⟩ (.int .i64 0)).setCell ⟨g, 3, none⟩ (.int .i64 4)).setCell ⟨g, 4, none⟩ (.slice A1 1 c1)) = W1 := ⟨_, rfl⟩
  have hI1 := HS1.out
  rw [hW1] at hI1 ⊢
  clear hW1 HS1
  have hC2 := Write_fresh TA1 1 3 A1 1 c1 W1 hI1.rd (by decide)
  rw [eW2] at hC2
  have HC2 := Lib.hid hC2
  have HI2 := Lib.hid hI1
  clear hC2 hI1
  refine HC2.out.mono ?_
  rintro e V2 ⟨⟨_, rfl, A2, n2, c2, rfl, hR2, _, _, hf2⟩, hb2⟩
  obtain rfl : 1 = n2 := hR2.len
  have hI2 : AwI w g TA2 A2 1 c2 (((((V2.setCell ⟨g, 0, none⟩ (.int .i64 3)).setCell ⟨g, 1, none⟩ (.int .i64 2)).setCell ⟨g, 2, none⟩ (.int .i64 1)).setCell ⟨g, 3, none⟩ (.int .i64 4)).setCell ⟨g, 4, none⟩ (.slice A2 1 c2)) := HI2.out.put hb2 hR2 hf2 (T' := TA2) (c' := c2)
  have hK2 := HI2.out.keep hb2
  have HS2 := Lib.hid hI2
  obtain ⟨⟨f0, f1, f2, f3, f4⟩, z0, z1, z2, z3, z4, lg⟩ := hK2.cells
  change V2.cell? ⟨g, 0, none⟩ = some (.int .i64 3) at f0
  change V2.cell? ⟨g, 1, none⟩ = some (.int .i64 2) at f1
  change V2.cell? ⟨g, 2, none⟩ = some (.int .i64 0) at f2
  change V2.cell? ⟨g, 3, none⟩ = some (.int .i64 4) at f3
  try simp only [TA2]
  clear hK2 hI2 hR2 hf2 hb2
  go_wp2_with fail
  clear f0 f1 f2 f3 f4 z0 z1 z2 z3 z4 lg
  obtain ⟨W2, hW2⟩ : ∃ W2, (((((V2.setCell ⟨g, 0, none⟩ (.int .i64 3)).setCell ⟨g, 1, none⟩ (.int .i64 2)).setCell ⟨g, 2, none⟩ (.int .i64 1)).setCell ⟨g, 3, none⟩ (.int .i64 4)).setCell ⟨g, 4, none⟩ (.slice A2 1 c2)) = W2 := ⟨_, rfl⟩
  have hI2 := HS2.out
  rw [hW2] at hI2 ⊢
  clear hW2 HS2
  have hC3 := Write_fresh TA2 1 7 A2 1 c2 W2 hI2.rd (by decide)
  rw [eW3] at hC3
  have HC3 := Lib.hid hC3
  have HI3 := Lib.hid hI2
  clear hC3 hI2
  refine HC3.out.mono ?_
  rintro e V3 ⟨⟨_, rfl, A3, n3, c3, rfl, hR3, _, _, _⟩, hb3⟩
  have hK3 := HI3.out.keep hb3
  have HS3 := Lib.hid (hK3.keep ((Below.refl _ V3).alloc (Nat.le_refl _) (.cells #[.int .i64 0, .int .i64 0, .int .i64 0, .int .i64 0, .slice A3 n3 c3] 24)))
  obtain ⟨⟨f0, f1, f2, f3, f4⟩, z0, z1, z2, z3, z4, lg⟩ := hK3.cells
  change V3.cell? ⟨g, 0, none⟩ = some (.int .i64 3) at f0
  change V3.cell? ⟨g, 1, none⟩ = some (.int .i64 2) at f1
  change V3.cell? ⟨g, 2, none⟩ = some (.int .i64 1) at f2
  change V3.cell? ⟨g, 3, none⟩ = some (.int .i64 4) at f3
  try simp only [Th.zero]
  clear hK3 hR3 hb3
  go_wp2_with fail
  clear f0 f1 f2 f3 f4 z0 z1 z2 z3 z4 lg
  obtain ⟨W3, hW3⟩ : ∃ W3, V3.alloc (.cells #[.int .i64 0, .int .i64 0, .int .i64 0, .int .i64 0, .slice A3 n3 c3] 24) = W3 := ⟨_, rfl⟩
  have hI3 := HS3.out
  rw [hW3] at hI3 ⊢
  clear hW3 HS3
  have hC4 := Backlog_any TA2 A2 1 c2 W3 hI3.rd (by decide)
  rw [eB2] at hC4
  have HC4 := Lib.hid hC4
  clear hC4
  refine HC4.out.mono ?_
  rintro e V4 ⟨rfl, hb4⟩
  have hI4 := hI3.keep hb4
  clear hI3 hb4
  obtain ⟨⟨f0, f1, f2, f3, f4⟩, z0, z1, z2, z3, z4, lg⟩ := hI4.cells
  change V4.cell? ⟨g, 0, none⟩ = some (.int .i64 3) at f0
  change V4.cell? ⟨g, 1, none⟩ = some (.int .i64 2) at f1
  change V4.cell? ⟨g, 2, none⟩ = some (.int .i64 1) at f2
  change V4.cell? ⟨g, 3, none⟩ = some (.int .i64 4) at f3
  have HS4 := Lib.hid hI4
  clear hI4
  go_wp2_with fail
  clear f0 f1 f2 f3 f4 z0 z1 z2 z3 z4 lg
  have hI4 := HS4.out
  clear HS4
  have hC5 := Progress_fresh TA2 2 2 A2 1 c2 V4 hI4.rd (by decide)
  rw [eP1] at hC5
  have HC5 := Lib.hid hC5
  have HI5 := Lib.hid hI4
  clear hC5 hI4
  refine HC5.out.mono ?_
  rintro e V5 ⟨⟨_, rfl, A5, n5, c5, rfl, hR5, _, _, hf5⟩, hb5⟩
  obtain rfl : 1 = n5 := hR5.len
  have hI5 : AwI w g TA3 A5 1 c5 (((((V5.setCell ⟨g, 0, none⟩ (.int .i64 3)).setCell ⟨g, 1, none⟩ (.int .i64 2)).setCell ⟨g, 2, none⟩ (.int .i64 2)).setCell ⟨g, 3, none⟩ (.int .i64 2)).setCell ⟨g, 4, none⟩ (.slice A5 1 c5)) := HI5.out.put hb5 hR5 hf5 (T' := TA3) (c' := c5)
  have hK5 := HI5.out.keep hb5
  have HS5 := Lib.hid hI5
  obtain ⟨⟨f0, f1, f2, f3, f4⟩, z0, z1, z2, z3, z4, lg⟩ := hK5.cells
  change V5.cell? ⟨g, 0, none⟩ = some (.int .i64 3) at f0
  change V5.cell? ⟨g, 1, none⟩ = some (.int .i64 2) at f1
  change V5.cell? ⟨g, 2, none⟩ = some (.int .i64 1) at f2
  change V5.cell? ⟨g, 3, none⟩ = some (.int .i64 4) at f3
  try simp only [TA3]
  clear hK5 hI5 hR5 hf5 hb5
  go_wp2_with fail
  clear f0 f1 f2 f3 f4 z0 z1 z2 z3 z4 lg
  obtain ⟨W5, hW5⟩ : ∃ W5, (((((V5.setCell ⟨g, 0, none⟩ (.int .i64 3)).setCell ⟨g, 1, none⟩ (.int .i64 2)).setCell ⟨g, 2, none⟩ (.int .i64 2)).setCell ⟨g, 3, none⟩ (.int .i64 2)).setCell ⟨g, 4, none⟩ (.slice A5 1 c5)) = W5 := ⟨_, rfl⟩
  have hI5 := HS5.out
  rw [hW5] at hI5 ⊢
  clear hW5 HS5
  have hC6 := Write_fresh TA3 2 3 A5 1 c5 W5 hI5.rd (by decide)
  rw [eW4] at hC6
  have HC6 := Lib.hid hC6
  have HI6 := Lib.hid hI5
  clear hC6 hI5
  refine HC6.out.mono ?_
  rintro e V6 ⟨⟨_, rfl, A6, n6, c6, rfl, hR6, _, _, hf6⟩, hb6⟩
  obtain rfl : 2 = n6 := hR6.len
  have hI6 : AwI w g TA4 A6 2 c6 (((((V6.setCell ⟨g, 0, none⟩ (.int .i64 3)).setCell ⟨g, 1, none⟩ (.int .i64 2)).setCell ⟨g, 2, none⟩ (.int .i64 2)).setCell ⟨g, 3, none⟩ (.int .i64 5)).setCell ⟨g, 4, none⟩ (.slice A6 2 c6)) := HI6.out.put hb6 hR6 hf6 (T' := TA4) (c' := c6)
  have hK6 := HI6.out.keep hb6
  have HS6 := Lib.hid hI6
  obtain ⟨⟨f0, f1, f2, f3, f4⟩, z0, z1, z2, z3, z4, lg⟩ := hK6.cells
  change V6.cell? ⟨g, 0, none⟩ = some (.int .i64 3) at f0
  change V6.cell? ⟨g, 1, none⟩ = some (.int .i64 2) at f1
  change V6.cell? ⟨g, 2, none⟩ = some (.int .i64 2) at f2
  change V6.cell? ⟨g, 3, none⟩ = some (.int .i64 2) at f3
  try simp only [TA4]
  clear hK6 hI6 hR6 hf6 hb6
  go_wp2_with fail
  clear f0 f1 f2 f3 f4 z0 z1 z2 z3 z4 lg
  obtain ⟨W6, hW6⟩ : ∃ W6, (((((V6.setCell ⟨g, 0, none⟩ (.int .i64 3)).setCell ⟨g, 1, none⟩ (.int .i64 2)).setCell ⟨g, 2, none⟩ (.int .i64 2)).setCell ⟨g, 3, none⟩ (.int .i64 5)).setCell ⟨g, 4, none⟩ (.slice A6 2 c6)) = W6 := ⟨_, rfl⟩
  have hI6 := HS6.out
  rw [hW6] at hI6 ⊢
  clear hW6 HS6
  have hC7 := Backlog_any TA4 A6 2 c6 W6 hI6.rd (by decide)
  rw [eB4] at hC7
  have HC7 := Lib.hid hC7
  clear hC7
  refine HC7.out.mono ?_
  rintro e V7 ⟨rfl, hb7⟩
  have hI7 := hI6.keep hb7
  clear hI6 hb7
  obtain ⟨⟨f0, f1, f2, f3, f4⟩, z0, z1, z2, z3, z4, lg⟩ := hI7.cells
  change V7.cell? ⟨g, 0, none⟩ = some (.int .i64 3) at f0
  change V7.cell? ⟨g, 1, none⟩ = some (.int .i64 2) at f1
  change V7.cell? ⟨g, 2, none⟩ = some (.int .i64 2) at f2
  change V7.cell? ⟨g, 3, none⟩ = some (.int .i64 5) at f3
  have HS7 := Lib.hid hI7
  clear hI7
  go_wp2_with fail
  clear f0 f1 f2 f3 f4 z0 z1 z2 z3 z4 lg
  have hI7 := HS7.out
  clear HS7
  have hC8 := Age_any TA4 3 A6 2 c6 V7 hI7.rd (by decide) (by decide)
  rw [eA4] at hC8
  have HC8 := Lib.hid hC8
  clear hC8
  refine HC8.out.mono ?_
  rintro e V8 ⟨rfl, hb8⟩
  have hI8 := hI7.keep hb8
  clear hI7 hb8
  obtain ⟨⟨f0, f1, f2, f3, f4⟩, z0, z1, z2, z3, z4, lg⟩ := hI8.cells
  change V8.cell? ⟨g, 0, none⟩ = some (.int .i64 3) at f0
  change V8.cell? ⟨g, 1, none⟩ = some (.int .i64 2) at f1
  change V8.cell? ⟨g, 2, none⟩ = some (.int .i64 2) at f2
  change V8.cell? ⟨g, 3, none⟩ = some (.int .i64 5) at f3
  have HS8 := Lib.hid hI8
  clear hI8
  go_wp2_with fail
  clear f0 f1 f2 f3 f4 z0 z1 z2 z3 z4 lg
  have hI8 := HS8.out
  clear HS8
  have hC9 := Progress_fresh TA4 4 5 A6 2 c6 V8 hI8.rd (by decide)
  rw [eP2] at hC9
  have HC9 := Lib.hid hC9
  have HI9 := Lib.hid hI8
  clear hC9 hI8
  refine HC9.out.mono ?_
  rintro e V9 ⟨⟨_, rfl, A9, n9, c9, rfl, hR9, _, _, hf9⟩, hb9⟩
  obtain rfl : 1 = n9 := hR9.len
  have hI9 : AwI w g TA5 A9 1 c9 (((((V9.setCell ⟨g, 0, none⟩ (.int .i64 3)).setCell ⟨g, 1, none⟩ (.int .i64 2)).setCell ⟨g, 2, none⟩ (.int .i64 4)).setCell ⟨g, 3, none⟩ (.int .i64 2)).setCell ⟨g, 4, none⟩ (.slice A9 1 c9)) := HI9.out.put hb9 hR9 hf9 (T' := TA5) (c' := c9)
  have hK9 := HI9.out.keep hb9
  have HS9 := Lib.hid hI9
  obtain ⟨⟨f0, f1, f2, f3, f4⟩, z0, z1, z2, z3, z4, lg⟩ := hK9.cells
  change V9.cell? ⟨g, 0, none⟩ = some (.int .i64 3) at f0
  change V9.cell? ⟨g, 1, none⟩ = some (.int .i64 2) at f1
  change V9.cell? ⟨g, 2, none⟩ = some (.int .i64 2) at f2
  change V9.cell? ⟨g, 3, none⟩ = some (.int .i64 5) at f3
  try simp only [TA5]
  clear hK9 hI9 hR9 hf9 hb9
  go_wp2_with fail
  clear f0 f1 f2 f3 f4 z0 z1 z2 z3 z4 lg
  obtain ⟨W9, hW9⟩ : ∃ W9, (((((V9.setCell ⟨g, 0, none⟩ (.int .i64 3)).setCell ⟨g, 1, none⟩ (.int .i64 2)).setCell ⟨g, 2, none⟩ (.int .i64 4)).setCell ⟨g, 3, none⟩ (.int .i64 2)).setCell ⟨g, 4, none⟩ (.slice A9 1 c9)) = W9 := ⟨_, rfl⟩
  have hI9 := HS9.out
  rw [hW9] at hI9 ⊢
  clear hW9 HS9
  have hC10 := Age_any TA5 5 A9 1 c9 W9 hI9.rd (by decide) (by decide)
  rw [eA5] at hC10
  have HC10 := Lib.hid hC10
  clear hC10
  refine HC10.out.mono ?_
  rintro e V10 ⟨rfl, hb10⟩
  have hI10 := hI9.keep hb10
  clear hI9 hb10
  obtain ⟨⟨f0, f1, f2, f3, f4⟩, z0, z1, z2, z3, z4, lg⟩ := hI10.cells
  change V10.cell? ⟨g, 0, none⟩ = some (.int .i64 3) at f0
  change V10.cell? ⟨g, 1, none⟩ = some (.int .i64 2) at f1
  change V10.cell? ⟨g, 2, none⟩ = some (.int .i64 4) at f2
  change V10.cell? ⟨g, 3, none⟩ = some (.int .i64 2) at f3
  have HS10 := Lib.hid hI10
  clear hI10
  go_wp2_with fail
  clear f0 f1 f2 f3 f4 z0 z1 z2 z3 z4 lg
  have hI10 := HS10.out
  clear HS10
  have hC11 := Backlog_any TA5 A9 1 c9 V10 hI10.rd (by decide)
  rw [eB5] at hC11
  have HC11 := Lib.hid hC11
  clear hC11
  refine HC11.out.mono ?_
  rintro e V11 ⟨rfl, hb11⟩
  have hI11 := hI10.keep hb11
  clear hI10 hb11
  obtain ⟨⟨f0, f1, f2, f3, f4⟩, z0, z1, z2, z3, z4, lg⟩ := hI11.cells
  change V11.cell? ⟨g, 0, none⟩ = some (.int .i64 3) at f0
  change V11.cell? ⟨g, 1, none⟩ = some (.int .i64 2) at f1
  change V11.cell? ⟨g, 2, none⟩ = some (.int .i64 4) at f2
  change V11.cell? ⟨g, 3, none⟩ = some (.int .i64 2) at f3
  have HS11 := Lib.hid hI11
  clear hI11
  go_wp2_with fail
  clear f0 f1 f2 f3 f4 z0 z1 z2 z3 z4 lg
  have hI11 := HS11.out
  clear HS11
  have hC12 := Check_any 3 2 4 2 A9 1 c9 [⟨2, 7⟩] V11 hI11.rd (by decide)
  rw [show chkTh 3 2 4 2 [⟨2, 7⟩] = 0 from eC5] at hC12
  refine hC12.mono ?_
  rintro e V12 ⟨rfl, hb12⟩
  have hI12 := hI11.keep hb12
  go_wp2_with fail
  go_ret
  exact ⟨rfl, hI12.bel⟩
end Go.Proofs.Ythkpkjigfaannaa
