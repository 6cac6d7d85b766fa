/- The walks of the laws BudgetChecks, BudgetAdvances, BudgetTakes, BudgetWaits. No condition. -/
import Derived.Test.YtehfnanhamaenaaWy
import Derived.Test.YtehfnanhamaenaaArgs
namespace Go.Proofs.Ytehfnanhamaenaa
open Go.RowKit
theorem advP_len (t now : Int) (l : List Bk) : (advP t l now).l.length ≤ l.length := by
  unfold advP
  (repeat' split) <;> simp
theorem newP_len (l : List Bk) : (newP l).l.length ≤ l.length := by
  unfold newP
  split <;> simp
theorem takV_len (t k n : Int) (l : List Bk) : (takV t l k n).l.length ≤ l.length := by
  unfold takV
  (repeat' split) <;> simp [takeP_len]
theorem six_cells {B b0 o0 b1 o1 b2 o2 b3 o3 b4 o4 b5 o5 : Nat} {X w' : World} {v0 v1 v2 v3 v4 v5 : Value} (hB : Below B X w') (h0 : X.cell? ⟨b0, o0, none⟩ = some v0) (h1 : X.cell? ⟨b1, o1, none⟩ = some v1) (h2 : X.cell? ⟨b2, o2, none⟩ = some v2) (h3 : X.cell? ⟨b3, o3, none⟩ = some v3) (h4 : X.cell? ⟨b4, o4, none⟩ = some v4) (h5 : X.cell? ⟨b5, o5, none⟩ = some v5)
    (l0 : b0 < B) (l1 : b1 < B) (l2 : b2 < B) (l3 : b3 < B) (l4 : b4 < B) (l5 : b5 < B) : w'.cell? ⟨b0, o0, none⟩ = some v0 ∧ w'.cell? ⟨b1, o1, none⟩ = some v1 ∧ w'.cell? ⟨b2, o2, none⟩ = some v2 ∧ w'.cell? ⟨b3, o3, none⟩ = some v3 ∧ w'.cell? ⟨b4, o4, none⟩ = some v4 ∧ w'.cell? ⟨b5, o5, none⟩ = some v5 ∧ Below B X w' :=
  ⟨(hB.cell (p := ⟨b0, o0, none⟩) l0).trans h0, (hB.cell (p := ⟨b1, o1, none⟩) l1).trans h1, (hB.cell (p := ⟨b2, o2, none⟩) l2).trans h2, (hB.cell (p := ⟨b3, o3, none⟩) l3).trans h3, (hB.cell (p := ⟨b4, o4, none⟩) l4).trans h4, (hB.cell (p := ⟨b5, o5, none⟩) l5).trans h5, hB⟩
theorem below_step {X W w' : World} (h : Below X.heap.size X W) (hb : Below W.heap.size W w') : Below X.heap.size X w' := h.trans (hb.mono h.size)
set_option maxRecDepth 100000 in
set_option maxHeartbeats 1000000 in
theorem walkBudgetAdvances (w : World) (v0 v1 : Value) (h0 : Arg24 w v0) (h1 : Arg3 w v1) : Calls Try.prog 4 #[v0, v1] w fun e w' => e = .returned (.bool true) ∧ Below w.heap.size w w' := by
  obtain ⟨t, A, n, c, l, rfl, hR, hnc, hcm⟩ := h0
  obtain ⟨now, rfl, _, _⟩ := h1
  have hB0 : Below w.heap.size w (w.alloc (.cells #[.int .i64 t, .slice A n c] 24)) := (Below.refl _ w).alloc (Nat.le_refl _) _
  have hn63 : n ≤ 9223372036854775807 := by unfold maxLen at hcm; omega
  have hlen := hR.len
  by_cases c0 : 200 < n
  · go_enter Try.func4, Try.ntmps4
    go_wp2_with fail
    refine (awake_any _).mono ?_
    rintro e w1 ⟨rfl, hb1⟩
    go_wp2_with fail
    go_ret
    exact ⟨rfl, hB0.trans (hb1.mono hB0.size)⟩
  · obtain ⟨⟨Ta, La, Ea⟩, hPa⟩ : ∃ q, advP t l now = q := ⟨_, rfl⟩
    have hLa := advP_len t now l
    rw [hPa] at hLa
    dsimp only at hLa
    have k1 := fun w9 hR9 => Advance_any t now A n c l w9 hR9 (by omega)
    have k2 := fun w9 hR9 => refAdvance_any t now A n c l w9 hR9 (by omega)
    rw [hPa] at k1 k2
    clear hPa
    dsimp only at k1 k2
    have K := Lib.hid (And.intro k1 k2)
    have HL := Lib.hid (And.intro hlen hLa)
    clear k1 k2 hlen hLa
    go_enter Try.func4, Try.ntmps4
    go_wp2_with fail
    refine (K.out.1 _ (hR.up hB0)).mono ?_
    rintro e w1 ⟨⟨A1, c1, rfl, hR1, _, _⟩, hb1⟩
    obtain ⟨hc1, _⟩ := bcell hb1
    have hz1 : w.heap.size < w1.heap.size := by have := hb1.size; simp at this; omega
    have hB1 := hB0.trans (hb1.mono hB0.size)
    go_wp2_with fail
    have hW1 : Below w1.heap.size w1 (w1.alloc (.cells #[.int .i64 Ta, .slice A1 La.length c1] 24)) := (Below.refl _ _).alloc (Nat.le_refl _) _
    refine (K.out.2 _ (hR.up (hB1.trans (hW1.mono hB1.size)))).mono ?_
    rintro e w2 ⟨⟨A2, c2, rfl, hR2, _, _⟩, hb2⟩
    obtain ⟨hc2, _⟩ := bcell hb2
    have hz2 : w1.heap.size < w2.heap.size := by have := hb2.size; simp at this; omega
    have hV2 := hW1.trans (hb2.mono hW1.size)
    have hB2 := hB1.trans (hV2.mono hB1.size)
    go_wp2_with fail
    have hW2 : Below w2.heap.size w2 (w2.alloc (.cells #[.int .i64 Ta, .slice A2 La.length c2] 24)) := (Below.refl _ _).alloc (Nat.le_refl _) _
    refine (awake_any _).mono ?_
    rintro e w3 ⟨rfl, hb3⟩
    obtain ⟨hc3, _⟩ := bcell hb3
    have hz3 : w2.heap.size < w3.heap.size := by have := hb3.size; simp at this; omega
    have hz4 : w1.heap.size < w3.heap.size := by omega
    have hV3 := hW2.trans (hb3.mono hW2.size)
    have hB3 := hB2.trans (hV3.mono hB2.size)
    go_wp2_with fail
    refine (Same_true _ _ _ _ _ _ La _ (hR1.up (hV2.trans (hV3.mono hV2.size))) (hR2.up hV3) (by have := HL.out; omega)).mono ?_
    rintro e w4 ⟨rfl, hb4⟩
    go_wp2_with fail
    go_ret
    exact ⟨rfl, hB3.trans (hb4.mono hB3.size)⟩
set_option maxRecDepth 100000 in
set_option maxHeartbeats 1000000 in
theorem walkBudgetWaits (w : World) (v0 v1 v2 : Value) (h0 : Arg24 w v0) (h1 : Arg3 w v1) (h2 : Arg3 w v2) : Calls Try.prog 6 #[v0, v1, v2] w fun e w' => e = .returned (.bool true) ∧ Below w.heap.size w w' := by
  obtain ⟨t, A, n, c, l, rfl, hR, hnc, hcm⟩ := h0
  obtain ⟨k, rfl, _, _⟩ := h1
  obtain ⟨m, rfl, _, hm2⟩ := h2
  have hB0 : Below w.heap.size w (w.alloc (.cells #[.int .i64 t, .slice A n c] 24)) := (Below.refl _ w).alloc (Nat.le_refl _) _
  have hn63 : n ≤ 9223372036854775807 := by unfold maxLen at hcm; omega
  have hlen := hR.len
  by_cases c0 : 200 < n
  · go_enter Try.func6, Try.ntmps6
    go_wp2_with fail
    refine (awake_any _).mono ?_
    rintro e w1 ⟨rfl, hb1⟩
    go_wp2_with fail
    go_ret
    exact ⟨rfl, hB0.trans (hb1.mono hB0.size)⟩
  · obtain ⟨⟨x, y⟩, hP⟩ : ∃ q, whenV t l k m = q := ⟨_, rfl⟩
    have k1 := fun w9 hR9 => When_any t k m A n c l w9 hR9 (by omega) hm2
    have k2 := fun w9 hR9 => refWhen_any t k m A n c l w9 hR9 (by omega)
    rw [hP] at k1 k2
    clear hP
    dsimp only at k1 k2
    have K := Lib.hid (And.intro k1 k2)
    have HL := Lib.hid hlen
    clear k1 k2 hlen
    go_enter Try.func6, Try.ntmps6
    go_wp2_with fail
    refine (K.out.1 _ (hR.up hB0)).mono ?_
    rintro e w1 ⟨rfl, hb1⟩
    obtain ⟨hc1, _⟩ := bcell hb1
    have hz1 : w.heap.size < w1.heap.size := by have := hb1.size; simp at this; omega
    have hB1 := hB0.trans (hb1.mono hB0.size)
    go_wp2_with fail
    refine (K.out.2 _ (hR.up hB1)).mono ?_
    rintro e w2 ⟨rfl, hb2⟩
    have hB2 := hB1.trans (hb2.mono hB1.size)
    go_wp2_with fail
    refine (awake_any _).mono ?_
    rintro e w3 ⟨rfl, hb3⟩
    have hB3 := hB2.trans (hb3.mono hB2.size)
    go_wp2_with fail
    go_ret
    exact ⟨by simp, hB3⟩
set_option maxRecDepth 100000 in
set_option maxHeartbeats 1000000 in
theorem walkBudgetTakes (w : World) (v0 v1 v2 : Value) (h0 : Arg24 w v0) (h1 : Arg3 w v1) (h2 : Arg3 w v2) : Calls Try.prog 5 #[v0, v1, v2] w fun e w' => e = .returned (.bool true) ∧ Below w.heap.size w w' := by
  obtain ⟨t, A, n, c, l, rfl, hR, hnc, hcm⟩ := h0
  obtain ⟨k, rfl, _, _⟩ := h1
  obtain ⟨m, rfl, _, hm2⟩ := h2
  have hB0 : Below w.heap.size w (w.alloc (.cells #[.int .i64 t, .slice A n c] 24)) := (Below.refl _ w).alloc (Nat.le_refl _) _
  have hn63 : n ≤ 9223372036854775807 := by unfold maxLen at hcm; omega
  have hlen := hR.len
  by_cases c0 : 200 < n
  · go_enter Try.func5, Try.ntmps5
    go_wp2_with fail
    refine (awake_any _).mono ?_
    rintro e w1 ⟨rfl, hb1⟩
    go_wp2_with fail
    go_ret
    exact ⟨rfl, hB0.trans (hb1.mono hB0.size)⟩
  · obtain ⟨⟨Ta, La, Ea⟩, hPa⟩ : ∃ q, takV t l k m = q := ⟨_, rfl⟩
    have hLa := takV_len t k m l
    rw [hPa] at hLa
    dsimp only at hLa
    obtain ⟨x, hx⟩ : ∃ q, avV t l k = q := ⟨_, rfl⟩
    obtain ⟨y, hy⟩ : ∃ q, findV t l k = q := ⟨_, rfl⟩
    have k1 := fun w9 hR9 => Available_any t k A n c l w9 hR9 (by omega)
    have k2 := fun w9 hR9 => refAvailable_any t k A n c l w9 hR9 (by omega)
    have k3 := fun w9 hR9 => Take_any t k m A n c l w9 hR9 (by omega)
    have k4 := fun w9 hR9 => refTake_any t k m A n c l w9 hR9 (by omega)
    rw [hx, hy] at k1 k2
    rw [hPa] at k3 k4
    clear hPa hx hy
    dsimp only at k3 k4
    have K := Lib.hid (And.intro k1 (And.intro k2 (And.intro k3 k4)))
    have HL := Lib.hid (And.intro hlen hLa)
    clear k1 k2 k3 k4 hlen hLa
    go_enter Try.func5, Try.ntmps5
    go_wp2_with fail
    refine (K.out.1 _ (hR.up hB0)).mono ?_
    rintro e x1 ⟨rfl, hb1⟩
    obtain ⟨hc1, _⟩ := bcell hb1
    have hz1 : w.heap.size < x1.heap.size := by have := hb1.size; simp at this; omega
    have hB1 := hB0.trans (hb1.mono hB0.size)
    go_wp2_with fail
    refine (K.out.2.1 _ (hR.up hB1)).mono ?_
    rintro e x2 ⟨rfl, hb2⟩
    obtain ⟨hc2, _⟩ := bcell hb2
    have hz2 : w.heap.size < x2.heap.size := Nat.lt_of_lt_of_le hz1 hb2.size
    have hB2 := hB1.trans (hb2.mono hB1.size)
    go_wp2_with fail
    refine (K.out.2.2.1 _ (hR.up hB2)).mono ?_
    rintro e w1 ⟨⟨A1, c1, rfl, hR1, _, _⟩, hb3⟩
    obtain ⟨hc3, _⟩ := bcell hb3
    have hz3 : w.heap.size < w1.heap.size := Nat.lt_of_lt_of_le hz2 hb3.size
    have hB3 := hB2.trans (hb3.mono hB2.size)
    go_wp2_with fail
    have hW1 : Below w1.heap.size w1 (w1.alloc (.cells #[.int .i64 Ta, .slice A1 La.length c1] 24)) := (Below.refl _ _).alloc (Nat.le_refl _) _
    refine (K.out.2.2.2 _ (hR.up (hB3.trans (hW1.mono hB3.size)))).mono ?_
    rintro e w2 ⟨⟨A2, c2, rfl, hR2, _, _⟩, hb4⟩
    obtain ⟨hc4, _⟩ := bcell hb4
    have hz4 : w1.heap.size < w2.heap.size := by have := hb4.size; simp at this; omega
    have hV2 := hW1.trans (hb4.mono hW1.size)
    have hB4 := hB3.trans (hV2.mono hB3.size)
    go_wp2_with fail
    have hW2 : Below w2.heap.size w2 (w2.alloc (.cells #[.int .i64 Ta, .slice A2 La.length c2] 24)) := (Below.refl _ _).alloc (Nat.le_refl _) _
    refine (awake_any _).mono ?_
    rintro e w3 ⟨rfl, hb5⟩
    obtain ⟨hc5, _⟩ := bcell hb5
    have hz5 : w2.heap.size < w3.heap.size := by have := hb5.size; simp at this; omega
    have hz6 : w1.heap.size < w3.heap.size := by omega
    have hV3 := hW2.trans (hb5.mono hW2.size)
    have hB5 := hB4.trans (hV3.mono hB4.size)
    go_wp2_with fail
    refine (Same_true _ _ _ _ _ _ La _ (hR1.up (hV2.trans (hV3.mono hV2.size))) (hR2.up hV3) (by have := HL.out; omega)).mono ?_
    rintro e w4 ⟨rfl, hb6⟩
    go_wp2_with fail
    go_ret
    exact ⟨by simp, hB5.trans (hb6.mono hB5.size)⟩
set_option maxRecDepth 100000 in
set_option maxHeartbeats 1000000 in
theorem walkBudgetChecks (w : World) (v0 : Value) (h0 : Arg24 w v0) : Calls Try.prog 3 #[v0] w fun e w' => e = .returned (.bool true) ∧ Below w.heap.size w w' := by
  obtain ⟨t, A, n, c, l, rfl, hR, hnc, hcm⟩ := h0
  have hB0 : Below w.heap.size w (w.alloc (.cells #[.int .i64 t, .slice A n c] 24)) := (Below.refl _ w).alloc (Nat.le_refl _) _
  have hn63 : n ≤ 9223372036854775807 := by unfold maxLen at hcm; omega
  have hlen := hR.len
  by_cases c0 : 200 < n
  · go_enter Try.func3, Try.ntmps3
    go_wp2_with fail
    refine (awake_any _).mono ?_
    rintro e w1 ⟨rfl, hb1⟩
    go_wp2_with fail
    go_ret
    exact ⟨rfl, hB0.trans (hb1.mono hB0.size)⟩
  · obtain ⟨⟨Ta, La, Ea⟩, hPa⟩ : ∃ q, newP l = q := ⟨_, rfl⟩
    have hLa := newP_len l
    rw [hPa] at hLa
    dsimp only at hLa
    obtain ⟨y, hy⟩ : ∃ q, checkL t l = q := ⟨_, rfl⟩
    have k1 := fun w9 hR9 => New_any A n c l w9 hR9 (by omega)
    have k2 := fun w9 hR9 => refNew_any A n c l w9 hR9 (by omega)
    have k3 := fun w9 hR9 => Check_any t A n c l w9 hR9 hn63
    have k4 := fun w9 hR9 => refCheck_any t A n c l w9 hR9 hn63
    rw [hPa] at k1 k2
    rw [hy] at k3 k4
    clear hPa hy
    dsimp only at k1 k2
    have K := Lib.hid (And.intro k1 (And.intro k2 (And.intro k3 k4)))
    have HL := Lib.hid (And.intro hlen hLa)
    clear k1 k2 k3 k4 hlen hLa
    go_enter Try.func3, Try.ntmps3
    go_wp2_with fail
    refine (K.out.1 _ (hR.up hB0)).mono ?_
    rintro e w1 ⟨⟨A1, c1, rfl, hR1, _, _⟩, hb1⟩
    obtain ⟨hc1, _⟩ := bcell hb1
    have hz1 : w.heap.size < w1.heap.size := by have := hb1.size; simp at this; omega
    have hB1 := hB0.trans (hb1.mono hB0.size)
    go_wp2_with fail
    have hW1 : Below w1.heap.size w1 (w1.alloc (.cells #[.int .i64 Ta, .slice A1 La.length c1] 24)) := (Below.refl _ _).alloc (Nat.le_refl _) _
    refine (K.out.2.1 _ (hR.up (hB1.trans (hW1.mono hB1.size)))).mono ?_
    rintro e w2 ⟨⟨A2, c2, rfl, hR2, _, _⟩, hb2⟩
    obtain ⟨hc2, _⟩ := bcell hb2
    have hz2 : w1.heap.size < w2.heap.size := by have := hb2.size; simp at this; omega
    have hV2 := hW1.trans (hb2.mono hW1.size)
    have hB2 := hB1.trans (hV2.mono hB1.size)
    go_wp2_with fail
    have kb0 := (((Blk.new w 24 #[.int .i64 t, .slice A n c]).below hb1 (by simp)).alloc (.cells #[.int .i64 Ta, .slice A1 La.length c1] 24)).below hb2 (by simp; omega)
    have kb1 := (Blk.new w1 24 #[.int .i64 Ta, .slice A1 La.length c1]).below hb2 (by simp)
    have kb2 := Blk.new w2 24 #[.int .i64 Ta, .slice A2 La.length c2]
    have hU2 : Below w2.heap.size w2 (w2.alloc (.cells #[.int .i64 Ta, .slice A2 La.length c2] 24)) := (Below.refl _ _).alloc (Nat.le_refl _) _
    have hBX := hB2.trans (hU2.mono hB2.size)
    have hVX := hV2.trans (hU2.mono hV2.size)
    have kc0 := kb0.alloc (.cells #[.int .i64 Ta, .slice A2 La.length c2] 24)
    have kc1 := kb1.alloc (.cells #[.int .i64 Ta, .slice A2 La.length c2] 24)
    clear hc1 hc2 hW1 hb1 hb2 kb0 kb1
    generalize (w2.alloc (.cells #[.int .i64 Ta, .slice A2 La.length c2] 24)) = X at *
    have y0 : X.cell? ⟨w.heap.size, 0, none⟩ = some (.int .i64 t) := kc0.cell 0
    have y1 : X.cell? ⟨w.heap.size, 1, none⟩ = some (.slice A n c) := kc0.cell 1
    have y2 : X.cell? ⟨w1.heap.size, 0, none⟩ = some (.int .i64 Ta) := kc1.cell 0
    have y3 : X.cell? ⟨w1.heap.size, 1, none⟩ = some (.slice A1 La.length c1) := kc1.cell 1
    have y4 : X.cell? ⟨w2.heap.size, 0, none⟩ = some (.int .i64 Ta) := kb2.cell 0
    have y5 : X.cell? ⟨w2.heap.size, 1, none⟩ = some (.slice A2 La.length c2) := kb2.cell 1
    have l0 := kc0.lt
    have l1 := kc1.lt
    have l2 := kb2.lt
    have hLa : La.length ≤ 1000 := by have := HL.out; omega
    clear kc0 kc1 kb2
    go_region_held3 (fun w' => w'.cell? ⟨w.heap.size, 0, none⟩ = some (.int .i64 t) ∧ w'.cell? ⟨w.heap.size, 1, none⟩ = some (.slice A n c) ∧ w'.cell? ⟨w1.heap.size, 0, none⟩ = some (.int .i64 Ta) ∧ w'.cell? ⟨w1.heap.size, 1, none⟩ = some (.slice A1 La.length c1) ∧ w'.cell? ⟨w2.heap.size, 0, none⟩ = some (.int .i64 Ta) ∧ w'.cell? ⟨w2.heap.size, 1, none⟩ = some (.slice A2 La.length c2) ∧ Below X.heap.size X w')
      (first
        | exact six_cells ((Below.refl _ X).drew) y0 y1 y2 y3 y4 y5 l0 l0 l1 l1 l2 l2
        | (go_split_ands; refine six_cells (below_step ?_ hb') y0 y1 y2 y3 y4 y5 l0 l0 l1 l1 l2 l2; assumption))
      (first
        | (go_at_call 11; refine (awake_any _).mono ?_; rintro e w' ⟨rfl, hb'⟩)
        | (go_at_call 14; refine (Same_true _ _ _ _ _ _ La _ (hR1.up (hVX.trans (Below.mono ?_ hVX.size))) (hR2.up (hU2.trans (Below.mono ?_ hU2.size))) hLa).mono ?_; (go_split_ands; assumption); (go_split_ands; assumption); rintro e w' ⟨rfl, hb'⟩)
        | (go_at_call 15; refine (K.out.2.2.1 _ (hR.up (hBX.trans (Below.mono ?_ hBX.size)))).mono ?_; (go_split_ands; assumption); rintro e w' ⟨rfl, hb'⟩)
        | (go_at_call 16; refine (K.out.2.2.2 _ (hR.up (hBX.trans (Below.mono ?_ hBX.size)))).mono ?_; (go_split_ands; assumption); rintro e w' ⟨rfl, hb'⟩))
    rename_i hS
    have HS := Lib.hid hS
    clear hS
    go_wp2_with fail
    go_ret
    exact ⟨by simp, hBX.trans (HS.out.2.2.2.2.2.2.mono hBX.size)⟩
end Go.Proofs.Ytehfnanhamaenaa
