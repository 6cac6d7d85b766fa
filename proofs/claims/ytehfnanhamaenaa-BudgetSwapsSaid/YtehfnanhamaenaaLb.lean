/- The walk of the law BudgetSteps. No condition. -/
import Derived.Test.YtehfnanhamaenaaArgsB
import Derived.Test.YtehfnanhamaenaaMathH
namespace Go.Proofs.Ytehfnanhamaenaa
open Go.RowKit
theorem advance_now (t now : Int) (A : Option Addr) (q c : Nat) (l : List Bk) (w : World) (hR : RdB w A q l) (hn : q ≤ 1000) (hc : checkL t l = 0) (d0 : t ≤ now) (d1 : now ≤ 1073741824) :
    Calls Try.prog 17 #[budV t A q c, .int .i64 now] w fun e w' => (∃ A1 c1, e = .returned (.tuple #[budV now A1 q c1, .int .i64 0]) ∧ RdB w' A1 q (l.map (adv (now - t)))) ∧ Below w.heap.size w w' := by
  have := advance_fr t (now - t) A q c l w hR hn hc (by omega) (by omega)
  rw [show t + (now - t) = now by omega] at this
  exact this
theorem built_fr (A : Option Addr) (n c : Nat) (l : List Pl) (w : World) (hR : RdP w A n l) (hb : OkP l) (hn : n ≤ 8) :
    Calls Try.prog 25 #[.slice A n c] w fun e w' => (∃ A c, e = .returned (.tuple #[budV 0 A n c, .bool true]) ∧ RdB w' A n (startL l)) ∧ Below w.heap.size w w' := built_any A n c l w hR hb hn
theorem built_t {t : Int} (ht : t = 0) (A : Option Addr) (n c : Nat) (l : List Pl) (w : World) (hR : RdP w A n l) (hb : OkP l) (hn : n ≤ 8) :
    Calls Try.prog 25 #[.slice A n c] w fun e w' => (∃ A c, e = .returned (.tuple #[budV t A n c, .bool true]) ∧ RdB w' A n (startL l)) ∧ Below w.heap.size w w' := by
  subst ht; exact built_any A n c l w hR hb hn
theorem used_fr (l : List Pl) (n : Nat) (A : Option Addr) (c : Nat) (B : Option Addr) (m d : Nat) (us : List Us) (w : World) (hln : l.length = n) (hR : RdB w A n (startL l)) (hU : RdU w B m us) (hu : OkU us) (h8 : n ≤ 8) (h0 : 0 < n) (hm : m ≤ 9223372036854775807) :
    Calls Try.prog 26 #[budV 0 A n c, .slice B m d] w fun e w' => (∃ A1 c1 A2 c2 n2, e = .returned (.tuple #[budV (runS (0, startL l) (us.take 20)).1 A1 n c1, .slice A2 n2 c2, .bool true]) ∧ RdB w' A1 n (runS (0, startL l) (us.take 20)).2 ∧ n2 = (us.take 20).length ∧ Reads w' w'.heap.size 3 A2 n2 ((runT (0, startL l) (us.take 20)).flatMap encT)) ∧ Below w.heap.size w w' := by
  subst hln
  have hl := startL_len l
  have hR' : RdB w A (startL l).length (startL l) := by rw [hl]; exact hR
  have := used_any (startL l) 0 A c (startL l) B m d us w hR' hU hu (start_good l h8 h0) (by rw [hl]; exact h8) (by omega) hm
  rw [hl] at this
  refine this.mono fun e w' h => ?_
  unfold UsedR at h
  rw [hl] at h
  exact h
/-- what the uses leave -/
theorem used_state (l : List Pl) (us : List Us) (h8 : l.length ≤ 8) (h0 : 0 < l.length) : Good (startL l) (runS (0, startL l) (us.take 20)) ∧ 0 ≤ (runS (0, startL l) (us.take 20)).1 ∧ (runS (0, startL l) (us.take 20)).1 ≤ 100 := by
  have hl : (us.take 20).length ≤ 20 := by rw [List.length_take]; omega
  have := (start_good l h8 h0).run (us.take 20) (by show (0 : Int) + _ ≤ _; omega)
  refine ⟨this.1, this.2.1, Int.le_trans this.2.2 ?_⟩
  show (0 : Int) + _ ≤ _
  omega
theorem steps_tail (x0 x1 : Nat) (t : Int) (L : List Bk) (hc : checkL t L = 0) (ht : t ≤ 100) (hx0 : x0 < 256) (hx1 : x1 < 256) :
    ((L.map (adv (t + x0 - t))).map (adv (t + x0 + x1 - (t + x0))) = L.map (adv (t + x0 + x1 - t))) ∧ checkL (t + x0) (L.map (adv (t + x0 - t))) = 0 := by
  have h1 : t + (x0 : Int) - t = x0 := by omega
  have h2 : t + (x0 : Int) + x1 - (t + x0) = x1 := by omega
  have h3 : t + (x0 : Int) + x1 - t = x0 + x1 := by omega
  rw [h1, h2, h3]
  exact ⟨adv_two hc (by omega) (by omega), adv_ok hc (by omega) (by omega)⟩
set_option maxRecDepth 100000 in
set_option maxHeartbeats 2000000 in
theorem walkBudgetSteps (w : World) (v0 v1 v2 : Value) (h0 : Arg47 w v0) (h1 : Arg48 w v1) (h2 : Arg60 w v2) : Calls Try.prog 9 #[v0, v1, v2] w fun e w' => e = .returned (.bool true) ∧ Below w.heap.size w w' := by
  obtain ⟨A, n, c, l, rfl, hR, hl, hnc, hcm⟩ := h0
  obtain ⟨B, m, d, us, rfl, hU, hu, hmd, hdm⟩ := h1
  obtain ⟨x0, x1, rfl, hx0, hx1⟩ := h2
  have hB0 : Below w.heap.size w (w.alloc (.cells #[.int .u8 (x0 : Int), .int .u8 (x1 : Int)] 60)) := (Below.refl _ w).alloc (Nat.le_refl _) _
  have hn63 : n ≤ 9223372036854775807 := by unfold maxLen at hcm; omega
  have hm63 : m ≤ 9223372036854775807 := by unfold maxLen at hdm; omega
  have hlen : l.length = n := hR.count encP_len (by omega)
  by_cases c0 : 8 < n
  · go_enter Try.func9, Try.ntmps9
    go_wp2_with fail
    refine (awake_any _).mono ?_
    rintro e w1 ⟨rfl, hb1⟩
    go_wp2_with fail
    go_ret
    exact ⟨rfl, hB0.trans (hb1.mono hB0.size)⟩
  · have g0 : IntKind.i64.wrap (x0 : Int) = x0 := IntWalk.i64_in _ (by omega)
    have g1 : IntKind.i64.wrap (x1 : Int) = x1 := IntWalk.i64_in _ (by omega)
    by_cases c1 : n = 0
    · have hL : (startL l).length = n := by rw [startL_len]; exact hlen
      obtain ⟨t, ht⟩ : ∃ t : Int, t = 0 := ⟨0, rfl⟩
      have hc : checkL t (startL l) = 0 := by rw [ht]; exact startL_ok l (by omega)
      have HF := Lib.hid (fun A c w9 (hR : RdP w9 A n l) => built_t ht A n c l w9 hR hl (by omega))
      obtain ⟨L, hLL⟩ : ∃ L, startL l = L := ⟨_, rfl⟩
      rw [hLL] at hc hL HF
      have ht0 : 0 ≤ t := by omega
      have ht1 : t ≤ 100 := by omega
      have HS := Lib.hid (steps_tail x0 x1 t L hc ht1 hx0 hx1)
      have HH := Lib.hid (And.intro hc (And.intro hL (And.intro hlen ht)))
      have hn0 : decide ((0 : Int) < (n : Int)) = false := by rw [decide_eq_false_iff_not]; omega
      have hn1' : decide (0 < n) = false := by rw [decide_eq_false_iff_not]; omega
      have C1 := Lib.hid c1
      clear hc hL hlen ht hLL c1
      go_enter Try.func9, Try.ntmps9
      go_wp2_with fail
      refine (HF.out _ _ _ (hR.up hB0)).mono ?_
      rintro e w1 ⟨⟨A2, c2, rfl, hR1⟩, hb1⟩
      have kx0 := (Blk.new w 60 #[.int .u8 (x0 : Int), .int .u8 (x1 : Int)]).below hb1 (by simp)
      have q0 : w1.cell? ⟨w.heap.size, 0, none⟩ = some (.int .u8 (x0 : Int)) := kx0.cell 0
      have q1 : w1.cell? ⟨w.heap.size, 1, none⟩ = some (.int .u8 (x1 : Int)) := kx0.cell 1
      have hz1 := kx0.lt
      have hB1 := hB0.trans (hb1.mono hB0.size)
      have hWa : Below w1.heap.size w1 (w1.alloc (.cells #[.int .i64 t, .slice A2 n c2] 24)) := (Below.refl _ _).alloc (Nat.le_refl _) _
      go_wp2_with fail
      have kb := Blk.new w1 24 #[.int .i64 t, .slice A2 n c2]
      have kx := kx0.alloc (.cells #[.int .i64 t, .slice A2 n c2] 24)
      have hRX := hR1.up hWa
      have hBX := hB1.trans (hWa.mono hB1.size)
      clear kx0 hR1 hWa q0 q1
      generalize (w1.alloc (.cells #[.int .i64 t, .slice A2 n c2] 24)) = WX at *
      have y0 : WX.cell? ⟨w1.heap.size, 0, none⟩ = some (.int .i64 t) := kb.cell 0
      have y1 : WX.cell? ⟨w1.heap.size, 1, none⟩ = some (.slice A2 n c2) := kb.cell 1
      have x0' : WX.cell? ⟨w.heap.size, 0, none⟩ = some (.int .u8 (x0 : Int)) := kx.cell 0
      have x1' : WX.cell? ⟨w.heap.size, 1, none⟩ = some (.int .u8 (x1 : Int)) := kx.cell 1
      have lb := kb.lt
      have lx := kx.lt
      have KX := Lib.hid (And.intro kb kx)
      clear kb kx
      refine (advance_now t (t + x0) A2 n c2 L WX hRX (by omega) HH.out.1 (by omega) (by omega)).mono ?_
      rintro e w3 ⟨⟨A3, c3, rfl, hR3⟩, hb3⟩
      obtain ⟨hc3, _⟩ := bcell hb3
      have l3 := hb3.size
      have l3a : w1.heap.size < w3.heap.size := by omega
      have l3b : w.heap.size < w3.heap.size := by omega
      generalize hL1 : L.map (adv (t + x0 - t)) = L1 at *
      go_wp2_with fail
      have hWY : Below w3.heap.size w3 (w3.alloc (.cells #[.int .i64 (t + x0), .slice A3 n c3] 24)) := (Below.refl _ _).alloc (Nat.le_refl _) _
      have kz0 := Blk.new w3 24 #[.int .i64 (t + x0), .slice A3 n c3]
      refine (advance_now (t + x0) (t + x0 + x1) A3 n c3 L1 _ (hR3.up hWY) (by omega) HS.out.2 (by omega) (by omega)).mono ?_
      rintro e w4 ⟨⟨A4, c4, rfl, hR4⟩, hb4⟩
      have kz := kz0.below hb4 (by simp)
      have hX4 : Below WX.heap.size WX w4 := hb3.trans ((hWY.trans (hb4.mono hWY.size)).mono l3)
      have z0 := kz.cell 0
      have z1 := kz.cell 1
      have zf0 := kz.frozen 0
      have zf1 := kz.frozen 1
      have l4 := kz.lt
      have hR4' : RdB ((w4.setCell ⟨w3.heap.size, 0, none⟩ (.int .i64 (t + x0 + x1))).setCell ⟨w3.heap.size, 1, none⟩ (.slice A4 n c4)) A4 n _ := rdB_far kz hR4 (fun p h1 _ => (World.cell?_of_block (Below.heap_setCell _ _ _ _ h1)).trans (World.cell?_of_block (Below.heap_setCell _ _ _ _ h1))) (by rw [size_set2]; exact Nat.le_refl _)
      have kz' := (kz.set_ 0 (.int .i64 (t + x0 + x1))).set_ 1 (.slice A4 n c4)
      have hX5 : Below WX.heap.size WX ((w4.setCell ⟨w3.heap.size, 0, none⟩ (.int .i64 (t + x0 + x1))).setCell ⟨w3.heap.size, 1, none⟩ (.slice A4 n c4)) := (hX4.setCell (p := ⟨w3.heap.size, 0, none⟩) l3 _).setCell (p := ⟨w3.heap.size, 1, none⟩) l3 _
      have x0'' := (hX4.cell (p := ⟨w.heap.size, 0, none⟩) lx).trans x0'
      have x1'' := (hX4.cell (p := ⟨w.heap.size, 1, none⟩) lx).trans x1'
      have y0'' := (hX4.cell (p := ⟨w1.heap.size, 0, none⟩) lb).trans y0
      have y1'' := (hX4.cell (p := ⟨w1.heap.size, 1, none⟩) lb).trans y1
      have x0b := (hc3 w.heap.size 0 lx).trans x0'
      have x1b := (hc3 w.heap.size 1 lx).trans x1'
      have y0b := (hc3 w1.heap.size 0 lb).trans y0
      have HZ := Lib.hid (And.intro hR4' (And.intro kz' hX5))
      have hn1 : w.heap.size ≠ w3.heap.size := by omega
      have hn2 : w1.heap.size ≠ w3.heap.size := by omega
      clear hR4' kz' hX5 kz hc3 kz0
      go_wp2_with fail
      have hX5 := HZ.out.2.2
      have hR4' := HZ.out.1
      have kz' := HZ.out.2.1
      clear z0 z1 zf0 zf1 x0'' x1'' y0'' y1'' HZ
      generalize ((w4.setCell ⟨w3.heap.size, 0, none⟩ (.int .i64 (t + x0 + x1))).setCell ⟨w3.heap.size, 1, none⟩ (.slice A4 n c4)) = W5 at *
      refine (advance_now t (t + x0 + x1) A2 n c2 L W5 (hRX.up hX5) (by omega) HH.out.1 (by omega) (by omega)).mono ?_
      rintro e w6 ⟨⟨A6, c6, rfl, hR6⟩, hb6⟩
      rw [← HS.out.1] at hR6
      have kz6 := kz'.below hb6 kz'.lt
      have hX6 := hX5.trans (hb6.mono hX5.size)
      have l6 := kz6.lt
      have z0 : w6.cell? ⟨w3.heap.size, 0, none⟩ = some (.int .i64 (t + x0 + x1)) := kz6.cell 0
      have z1 : w6.cell? ⟨w3.heap.size, 1, none⟩ = some (.slice A4 n c4) := kz6.cell 1
      have hW7 : Below w6.heap.size w6 (w6.alloc (.cells #[.int .i64 (t + x0 + x1), .slice A6 n c6] 24)) := (Below.refl _ _).alloc (Nat.le_refl _) _
      clear kz6 kz'
      go_wp2_with fail
      refine (awake_any _).mono ?_
      rintro e w8 ⟨rfl, hb8⟩
      obtain ⟨hc8, _⟩ := bcell hb8
      have l8 : w6.heap.size < w8.heap.size := by have := hb8.size; simp at this; omega
      have l8b : w3.heap.size < w8.heap.size := by omega
      have hW8 := hW7.trans (hb8.mono hW7.size)
      have hR46 : RdB w8 A4 n _ := (hR4'.up hb6).up hW8
      have hR66 : RdB w8 A6 n _ := hR6.up hW8
      have hBz := (hBX.trans (hX6.mono hBX.size)).trans (hW8.mono (Nat.le_trans hBX.size hX6.size))
      clear hR4' hR6
      go_wp2_with fail
      refine (Same_true _ _ _ _ _ _ _ _ hR46 hR66 (by omega)).mono ?_
      rintro e w9 ⟨rfl, hb9⟩
      go_wp2_with fail
      go_ret
      exact ⟨rfl, hBz.trans (hb9.mono hBz.size)⟩
    · have hus := used_state l us (by omega) (by omega)
      obtain ⟨hg, ht0, ht1⟩ := hus
      have hc := hg.ok
      have hL : (runS (0, startL l) (us.take 20)).2.length = n := by rw [hg.len, startL_len, hlen]
      have HF := Lib.hid (fun A c B m d w hR hU hm => used_fr l n A c B m d us w hlen hR hU hu (by omega) (by omega) hm)
      clear hg
      generalize runS (0, startL l) (us.take 20) = s at *
      obtain ⟨t, L⟩ := s
      dsimp only at hc hL ht0 ht1 HF
      have HS := Lib.hid (steps_tail x0 x1 t L hc ht1 hx0 hx1)
      have HH := Lib.hid (And.intro hc (And.intro hL hlen))
      clear hc hL hlen
      go_enter Try.func9, Try.ntmps9
      go_wp2_with fail
      refine (built_fr _ _ _ l _ (hR.up hB0) hl (by omega)).mono ?_
      rintro e w1 ⟨⟨A1, c1, rfl, hR1⟩, hb1⟩
      have kx := (Blk.new w 60 #[.int .u8 (x0 : Int), .int .u8 (x1 : Int)]).below hb1 (by simp)
      have hz1 := kx.lt
      have hB1 := hB0.trans (hb1.mono hB0.size)
      have hWa : Below w1.heap.size w1 (w1.alloc (.cells #[.int .i64 0, .slice A1 n c1] 24)) := (Below.refl _ _).alloc (Nat.le_refl _) _
      have hBa := hB1.trans (hWa.mono hB1.size)
      go_wp2_with fail
      refine (HF.out A1 c1 B m d _ (hR1.up hWa) (hU.up hBa) hm63).mono ?_
      rintro e w2 ⟨⟨A2, c2, A3, c3, n3, rfl, hR2, _, _⟩, hb2⟩
      have kb := (Blk.new w1 24 #[.int .i64 0, .slice A1 n c1]).below hb2 (by simp)
      have kx2 := (kx.alloc (.cells #[.int .i64 0, .slice A1 n c1] 24)).below hb2 (by simp; omega)
      have hBb := hBa.trans (hb2.mono hBa.size)
      have hz2 := kb.lt
      have u0 : w2.cell? ⟨w1.heap.size, 0, none⟩ = some (.int .i64 0) := kb.cell 0
      have u1 : w2.cell? ⟨w1.heap.size, 1, none⟩ = some (.slice A1 n c1) := kb.cell 1
      have uf0 : w2.frozen? ⟨w1.heap.size, 0, none⟩ = false := kb.frozen 0
      have uf1 : w2.frozen? ⟨w1.heap.size, 1, none⟩ = false := kb.frozen 1
      have q0 : w2.cell? ⟨w.heap.size, 0, none⟩ = some (.int .u8 (x0 : Int)) := kx2.cell 0
      have q1 : w2.cell? ⟨w.heap.size, 1, none⟩ = some (.int .u8 (x1 : Int)) := kx2.cell 1
      have hne : w.heap.size ≠ w1.heap.size := by omega
      have hKB := Lib.hid (And.intro kb (And.intro kx2 hR2))
      clear kb kx kx2 hR2
      go_wp2_with fail
      have kb := (hKB.out.1.set_ 0 (.int .i64 t)).set_ 1 (.slice A2 n c2)
      have kx := (hKB.out.2.1.far (p := ⟨w1.heap.size, 0, none⟩) hne (.int .i64 t)).far (p := ⟨w1.heap.size, 1, none⟩) hne (.slice A2 n c2)
      have hRX : RdB ((w2.setCell ⟨w1.heap.size, 0, none⟩ (.int .i64 t)).setCell ⟨w1.heap.size, 1, none⟩ (.slice A2 n c2)) A2 n L := rdB_far hKB.out.1 hKB.out.2.2 (fun p h1 _ => (World.cell?_of_block (Below.heap_setCell _ _ _ _ h1)).trans (World.cell?_of_block (Below.heap_setCell _ _ _ _ h1))) (by rw [size_set2]; exact Nat.le_refl _)
      have hBX : Below w.heap.size w ((w2.setCell ⟨w1.heap.size, 0, none⟩ (.int .i64 t)).setCell ⟨w1.heap.size, 1, none⟩ (.slice A2 n c2)) := (hBb.setCell (p := ⟨w1.heap.size, 0, none⟩) (by dsimp only; omega) _).setCell (p := ⟨w1.heap.size, 1, none⟩) (by dsimp only; omega) _
      clear u0 u1 uf0 uf1 q0 q1 hKB
      generalize ((w2.setCell ⟨w1.heap.size, 0, none⟩ (.int .i64 t)).setCell ⟨w1.heap.size, 1, none⟩ (.slice A2 n c2)) = WX at *
      have y0 : WX.cell? ⟨w1.heap.size, 0, none⟩ = some (.int .i64 t) := kb.cell 0
      have y1 : WX.cell? ⟨w1.heap.size, 1, none⟩ = some (.slice A2 n c2) := kb.cell 1
      have x0' : WX.cell? ⟨w.heap.size, 0, none⟩ = some (.int .u8 (x0 : Int)) := kx.cell 0
      have x1' : WX.cell? ⟨w.heap.size, 1, none⟩ = some (.int .u8 (x1 : Int)) := kx.cell 1
      have lb := kb.lt
      have lx := kx.lt
      have KX := Lib.hid (And.intro kb kx)
      clear kb kx
      refine (advance_now t (t + x0) A2 n c2 L WX hRX (by omega) HH.out.1 (by omega) (by omega)).mono ?_
      rintro e w3 ⟨⟨A3, c3, rfl, hR3⟩, hb3⟩
      obtain ⟨hc3, _⟩ := bcell hb3
      have l3 := hb3.size
      have l3a : w1.heap.size < w3.heap.size := by omega
      have l3b : w.heap.size < w3.heap.size := by omega
      generalize hL1 : L.map (adv (t + x0 - t)) = L1 at *
      go_wp2_with fail
      have hWY : Below w3.heap.size w3 (w3.alloc (.cells #[.int .i64 (t + x0), .slice A3 n c3] 24)) := (Below.refl _ _).alloc (Nat.le_refl _) _
      have kz0 := Blk.new w3 24 #[.int .i64 (t + x0), .slice A3 n c3]
      refine (advance_now (t + x0) (t + x0 + x1) A3 n c3 L1 _ (hR3.up hWY) (by omega) HS.out.2 (by omega) (by omega)).mono ?_
      rintro e w4 ⟨⟨A4, c4, rfl, hR4⟩, hb4⟩
      have kz := kz0.below hb4 (by simp)
      have hX4 : Below WX.heap.size WX w4 := hb3.trans ((hWY.trans (hb4.mono hWY.size)).mono l3)
      have z0 := kz.cell 0
      have z1 := kz.cell 1
      have zf0 := kz.frozen 0
      have zf1 := kz.frozen 1
      have l4 := kz.lt
      have hR4' : RdB ((w4.setCell ⟨w3.heap.size, 0, none⟩ (.int .i64 (t + x0 + x1))).setCell ⟨w3.heap.size, 1, none⟩ (.slice A4 n c4)) A4 n _ := rdB_far kz hR4 (fun p h1 _ => (World.cell?_of_block (Below.heap_setCell _ _ _ _ h1)).trans (World.cell?_of_block (Below.heap_setCell _ _ _ _ h1))) (by rw [size_set2]; exact Nat.le_refl _)
      have kz' := (kz.set_ 0 (.int .i64 (t + x0 + x1))).set_ 1 (.slice A4 n c4)
      have hX5 : Below WX.heap.size WX ((w4.setCell ⟨w3.heap.size, 0, none⟩ (.int .i64 (t + x0 + x1))).setCell ⟨w3.heap.size, 1, none⟩ (.slice A4 n c4)) := (hX4.setCell (p := ⟨w3.heap.size, 0, none⟩) l3 _).setCell (p := ⟨w3.heap.size, 1, none⟩) l3 _
      have x0'' := (hX4.cell (p := ⟨w.heap.size, 0, none⟩) lx).trans x0'
      have x1'' := (hX4.cell (p := ⟨w.heap.size, 1, none⟩) lx).trans x1'
      have y0'' := (hX4.cell (p := ⟨w1.heap.size, 0, none⟩) lb).trans y0
      have y1'' := (hX4.cell (p := ⟨w1.heap.size, 1, none⟩) lb).trans y1
      have x0b := (hc3 w.heap.size 0 lx).trans x0'
      have x1b := (hc3 w.heap.size 1 lx).trans x1'
      have y0b := (hc3 w1.heap.size 0 lb).trans y0
      have HZ := Lib.hid (And.intro hR4' (And.intro kz' hX5))
      have hn1 : w.heap.size ≠ w3.heap.size := by omega
      have hn2 : w1.heap.size ≠ w3.heap.size := by omega
      clear hR4' kz' hX5 kz hc3 kz0
      go_wp2_with fail
      have hX5 := HZ.out.2.2
      have hR4' := HZ.out.1
      have kz' := HZ.out.2.1
      clear z0 z1 zf0 zf1 x0'' x1'' y0'' y1'' HZ
      generalize ((w4.setCell ⟨w3.heap.size, 0, none⟩ (.int .i64 (t + x0 + x1))).setCell ⟨w3.heap.size, 1, none⟩ (.slice A4 n c4)) = W5 at *
      refine (advance_now t (t + x0 + x1) A2 n c2 L W5 (hRX.up hX5) (by omega) HH.out.1 (by omega) (by omega)).mono ?_
      rintro e w6 ⟨⟨A6, c6, rfl, hR6⟩, hb6⟩
      rw [← HS.out.1] at hR6
      have kz6 := kz'.below hb6 kz'.lt
      have hX6 := hX5.trans (hb6.mono hX5.size)
      have l6 := kz6.lt
      have z0 : w6.cell? ⟨w3.heap.size, 0, none⟩ = some (.int .i64 (t + x0 + x1)) := kz6.cell 0
      have z1 : w6.cell? ⟨w3.heap.size, 1, none⟩ = some (.slice A4 n c4) := kz6.cell 1
      have hW7 : Below w6.heap.size w6 (w6.alloc (.cells #[.int .i64 (t + x0 + x1), .slice A6 n c6] 24)) := (Below.refl _ _).alloc (Nat.le_refl _) _
      clear kz6 kz'
      go_wp2_with fail
      refine (awake_any _).mono ?_
      rintro e w8 ⟨rfl, hb8⟩
      obtain ⟨hc8, _⟩ := bcell hb8
      have l8 : w6.heap.size < w8.heap.size := by have := hb8.size; simp at this; omega
      have l8b : w3.heap.size < w8.heap.size := by omega
      have hW8 := hW7.trans (hb8.mono hW7.size)
      have hR46 : RdB w8 A4 n _ := (hR4'.up hb6).up hW8
      have hR66 : RdB w8 A6 n _ := hR6.up hW8
      have hBz := (hBX.trans (hX6.mono hBX.size)).trans (hW8.mono (Nat.le_trans hBX.size hX6.size))
      clear hR4' hR6
      go_wp2_with fail
      refine (Same_true _ _ _ _ _ _ _ _ hR46 hR66 (by omega)).mono ?_
      rintro e w9 ⟨rfl, hb9⟩
      go_wp2_with fail
      go_ret
      exact ⟨rfl, hBz.trans (hb9.mono hBz.size)⟩
end Go.Proofs.Ytehfnanhamaenaa
