/- The walk of the law BudgetSwaps. No condition. -/
import Derived.Test.YtehfnanhamaenaaLd
namespace Go.Proofs.Ytehfnanhamaenaa
open Go.RowKit
theorem takV_lenB (t k n : Int) (l : List Bk) : (takV t l k n).l.length ≤ l.length := by
  unfold takV
  (repeat' split) <;> simp [takeP_len]
theorem swap_spec {t : Int} {l : List Bk} (h : checkL t l = 0) {i k : Nat} (hi : i < l.length) (hk : k < l.length) {n m : Int} (n0 : 0 ≤ n) (m0 : 0 ≤ m) :
    (((takV t l i n).err ≠ 0 ∨ (takV (takV t l i n).t (takV t l i n).l k m).err ≠ 0) ∧ ((takV t l k m).err ≠ 0 ∨ (takV (takV t l k m).t (takV t l k m).l i n).err ≠ 0)) ∨
    (0 = (takV t l i n).err ∧ 0 = (takV (takV t l i n).t (takV t l i n).l k m).err ∧ 0 = (takV t l k m).err ∧ 0 = (takV (takV t l k m).t (takV t l k m).l i n).err ∧ t = (takV (takV t l i n).t (takV t l i n).l k m).t ∧ t = (takV (takV t l k m).t (takV t l k m).l i n).t ∧
      (takV (takV t l i n).t (takV t l i n).l k m).l = (takV (takV t l k m).t (takV t l k m).l i n).l ∧ (takV (takV t l i n).t (takV t l i n).l k m).l.length = l.length ∧
      ∀ j, (bkAt (takV (takV t l i n).t (takV t l i n).l k m).l j).tok = (bkAt l j).tok - ind (pathL l i) j n - ind (pathL l k) j m) := by
  have two : ∀ {i k : Nat} {n m : Int}, i < l.length → k < l.length → 0 ≤ n → 0 ≤ m → (n ≤ availL l i ∧ m ≤ availL (takeP n l (pathL l i)) k ∧ takV t l i n = ⟨t, takeP n l (pathL l i), 0⟩ ∧ takV t (takeP n l (pathL l i)) k m = ⟨t, takeP m (takeP n l (pathL l i)) (pathL (takeP n l (pathL l i)) k), 0⟩) ∨
      (¬ (n ≤ availL l i ∧ m ≤ availL (takeP n l (pathL l i)) k) ∧ ((takV t l i n).err ≠ 0 ∨ (takV (takV t l i n).t (takV t l i n).l k m).err ≠ 0)) := by
    intro i k n m hi hk n0 m0
    rcases tak_cases h hi n0 with ⟨h1, e1⟩ | ⟨h1, e1⟩
    · rcases tak_cases (takeP_ok h i hi n0 h1) (k := k) (by rw [takeP_len]; exact hk) m0 with ⟨h2, e2⟩ | ⟨h2, e2⟩
      · exact .inl ⟨h1, h2, e1, e2⟩
      · refine .inr ⟨fun hh => by omega, .inr ?_⟩
        rw [e1]
        dsimp only
        rw [e2]; decide
    · refine .inr ⟨fun hh => by omega, .inl ?_⟩
      rw [e1]; decide
  rcases two hi hk n0 m0 with ⟨a1, a2, e1, e2⟩ | ⟨a, b⟩
  · obtain ⟨b1, b2⟩ := two_swap h hi hk n0 m0 a1 a2
    rcases two hk hi m0 n0 with ⟨_, _, f1, f2⟩ | ⟨c, _⟩
    · have hq := two_eq h hi hk n0 m0 a1 a2
      rw [e1, f1]
      dsimp only
      rw [e2, f2]
      exact .inr ⟨rfl, rfl, rfl, rfl, rfl, rfl, hq.1, by simp only [takeP_len], hq.2⟩
    · exact absurd ⟨b1, b2⟩ c
  · rcases two hk hi m0 n0 with ⟨c1, c2, _, _⟩ | ⟨_, d⟩
    · exact absurd (two_swap h hk hi m0 n0 c1 c2) a
    · exact .inl ⟨b, d⟩
set_option maxRecDepth 100000 in
set_option maxHeartbeats 2000000 in
theorem walkBudgetSwaps (w : World) (v0 v1 v2 : Value) (h0 : Arg47 w v0) (h1 : Arg48 w v1) (h2 : Arg62 w v2) : Calls Try.prog 10 #[v0, v1, v2] w fun e w' => e = .returned (.bool true) ∧ Below w.heap.size w w' := by
  obtain ⟨A, n, c, l, rfl, hR, hl, hnc, hcm⟩ := h0
  obtain ⟨B, m, d, us, rfl, hU, hu, hmd, hdm⟩ := h1
  obtain ⟨x0, x1, x2, x3, rfl, hx0, hx1, hx2, hx3⟩ := h2
  have hB0 : Below w.heap.size w (w.alloc (.cells #[.int .u8 (x0 : Int), .int .u8 (x1 : Int), .int .u8 (x2 : Int), .int .u8 (x3 : Int)] 62)) := (Below.refl _ w).alloc (Nat.le_refl _) _
  have hn63 : n ≤ 9223372036854775807 := by unfold maxLen at hcm; omega
  have hm63 : m ≤ 9223372036854775807 := by unfold maxLen at hdm; omega
  have hlen : l.length = n := hR.count encP_len (by omega)
  rcases Nat.eq_zero_or_pos n with hn0 | hn0
  · subst hn0
    go_enter Try.func10, Try.ntmps10
    go_wp2_with fail
    refine (awake_any _).mono ?_
    rintro e w1 ⟨rfl, hb1⟩
    go_wp2_with fail
    go_ret
    exact ⟨rfl, hB0.trans (hb1.mono hB0.size)⟩
  · have k1 : ((n : Int) == 0) = false := by rw [beq_eq_false_iff_ne]; omega
    have k1' : ¬ (n : Int) = 0 := by omega
    by_cases hn8 : 8 < n
    · go_enter Try.func10, Try.ntmps10
      go_wp2_with fail
      refine (awake_any _).mono ?_
      rintro e w1 ⟨rfl, hb1⟩
      go_wp2_with fail
      go_ret
      exact ⟨rfl, hB0.trans (hb1.mono hB0.size)⟩
    · have hus := used_state l us (by omega) (by omega)
      obtain ⟨hg, ht0, ht1⟩ := hus
      have hc := hg.ok
      have hL : (runS (0, startL l) (us.take 20)).2.length = n := by rw [hg.len, startL_len, hlen]
      have HF := Lib.hid (fun A c B d w hR hU => used_fr l n A c B m d us w hlen hR hU hu (by omega) hn0 hm63)
      have hpar : ∀ z : Int, pathL (runS (0, startL l) (us.take 20)).2 z = pathL (startL l) z := fun z => pathL_congr hg.par z
      clear hg
      generalize runS (0, startL l) (us.take 20) = s at *
      obtain ⟨t, L⟩ := s
      dsimp only at hc hL ht0 ht1 HF hpar
      have HPAR := Lib.hid hpar
      clear hpar
      have g0 : IntKind.i64.wrap (x0 : Int) = x0 := IntWalk.i64_in _ (by omega)
      have g1 : IntKind.i64.wrap (x1 : Int) = x1 := IntWalk.i64_in _ (by omega)
      have g2 : IntKind.i64.wrap (x2 : Int) = x2 := IntWalk.i64_in _ (by omega)
      have g3 : IntKind.i64.wrap (x3 : Int) = x3 := IntWalk.i64_in _ (by omega)
      obtain ⟨i, hi⟩ : ∃ i, x0 % n = i := ⟨_, rfl⟩
      have hil : i < n := by rw [← hi]; exact Nat.mod_lt _ hn0
      have d0 : (x0 : Int).tmod (n : Int) = i := by rw [Int.tmod_eq_emod_of_nonneg (by omega), ← hi]; rfl
      obtain ⟨k, hk⟩ : ∃ k, x1 % n = k := ⟨_, rfl⟩
      have hkl : k < n := by rw [← hk]; exact Nat.mod_lt _ hn0
      have d1 : (x1 : Int).tmod (n : Int) = k := by rw [Int.tmod_eq_emod_of_nonneg (by omega), ← hk]; rfl
      obtain ⟨q, hq⟩ : ∃ q : Int, (x2 : Int) % 40 = q := ⟨_, rfl⟩
      have d2 : (x2 : Int).tmod 40 = q := by rw [Int.tmod_eq_emod_of_nonneg (by omega), hq]
      have hq0 : 0 ≤ q ∧ q ≤ 39 := by omega
      obtain ⟨r, hr⟩ : ∃ r : Int, (x3 : Int) % 40 = r := ⟨_, rfl⟩
      have d3 : (x3 : Int).tmod 40 = r := by rw [Int.tmod_eq_emod_of_nonneg (by omega), hr]
      have hr0 : 0 ≤ r ∧ r ≤ 39 := by omega
      clear hi hk hq hr
      have hsw := swap_spec hc (i := i) (k := k) (by rw [hL]; exact hil) (by rw [hL]; exact hkl) hq0.1 hr0.1
      obtain ⟨⟨T1, L1, E1⟩, hV1⟩ : ∃ v, takV t L i q = v := ⟨_, rfl⟩
      obtain ⟨⟨T3, L3, E3⟩, hV3⟩ : ∃ v, takV t L k r = v := ⟨_, rfl⟩
      rw [hV1, hV3] at hsw
      dsimp only at hsw
      obtain ⟨⟨T2, L2, E2⟩, hV2⟩ : ∃ v, takV T1 L1 k r = v := ⟨_, rfl⟩
      obtain ⟨⟨T4, L4, E4⟩, hV4⟩ : ∃ v, takV T3 L3 i q = v := ⟨_, rfl⟩
      rw [hV2, hV4] at hsw
      dsimp only at hsw
      have n1 := takV_lenB t i q L
      have n3 := takV_lenB t k r L
      rw [hV1] at n1
      rw [hV3] at n3
      dsimp only at n1 n3
      have n2 := takV_lenB T1 k r L1
      have n4 := takV_lenB T3 i q L3
      rw [hV2] at n2
      rw [hV4] at n4
      dsimp only at n2 n4
      have t1 := fun A c w9 (h9 : RdB w9 A n L) => Take_any t i q A n c L w9 h9 (by omega)
      have t3 := fun A c w9 (h9 : RdB w9 A n L) => Take_any t k r A n c L w9 h9 (by omega)
      have t2 := fun A c w9 (h9 : RdB w9 A L1.length L1) => Take_any T1 k r A L1.length c L1 w9 h9 (by omega)
      have t4 := fun A c w9 (h9 : RdB w9 A L3.length L3) => Take_any T3 i q A L3.length c L3 w9 h9 (by omega)
      rw [hV1] at t1
      rw [hV2] at t2
      rw [hV3] at t3
      rw [hV4] at t4
      dsimp only at t1 t2 t3 t4
      have HT := Lib.hid (And.intro t1 (And.intro t2 (And.intro t3 t4)))
      have HN := Lib.hid (And.intro n1 (And.intro n2 (And.intro n3 n4)))
      have HH := Lib.hid (And.intro hc (And.intro hL hlen))
      have HSW := Lib.hid hsw
      clear hc hL hlen hV1 hV2 hV3 hV4 t1 t2 t3 t4 n1 n2 n3 n4 hsw
      go_enter Try.func10, Try.ntmps10
      go_wp2_with fail
      refine (built_fr _ _ _ l _ (hR.up hB0) hl (by omega)).mono ?_
      rintro e w1 ⟨⟨A1, c1, rfl, hR1⟩, hb1⟩
      have kx := (Blk.new w 62 #[.int .u8 (x0 : Int), .int .u8 (x1 : Int), .int .u8 (x2 : Int), .int .u8 (x3 : Int)]).below hb1 (by simp)
      have hz1 := kx.lt
      have hB1 := hB0.trans (hb1.mono hB0.size)
      have hWa : Below w1.heap.size w1 (w1.alloc (.cells #[.int .i64 0, .slice A1 n c1] 24)) := (Below.refl _ _).alloc (Nat.le_refl _) _
      have hBa := hB1.trans (hWa.mono hB1.size)
      go_wp2_with fail
      refine (HF.out A1 c1 B d _ (hR1.up hWa) (hU.up hBa)).mono ?_
      rintro e w2 ⟨⟨A2, c2, A3, c3, n3, rfl, hR2, _, _⟩, hb2⟩
      have kb := (Blk.new w1 24 #[.int .i64 0, .slice A1 n c1]).below hb2 (by simp)
      have kx2 := (kx.alloc (.cells #[.int .i64 0, .slice A1 n c1] 24)).below hb2 (by simp; omega)
      have hBb := hBa.trans (hb2.mono hBa.size)
      have hz2 := kb.lt
      have u0 : w2.cell? ⟨w1.heap.size, 0, none⟩ = some (.int .i64 0) := kb.cell 0
      have u1 : w2.cell? ⟨w1.heap.size, 1, none⟩ = some (.slice A1 n c1) := kb.cell 1
      have uf0 : w2.frozen? ⟨w1.heap.size, 0, none⟩ = false := kb.frozen 0
      have uf1 : w2.frozen? ⟨w1.heap.size, 1, none⟩ = false := kb.frozen 1
      have q0 : w2.cell? ⟨w.heap.size, 0, none⟩ = some (.int .u8 (x0 : Int)) := kx2.cell 0
      have q1 : w2.cell? ⟨w.heap.size, 1, none⟩ = some (.int .u8 (x1 : Int)) := kx2.cell 1
      have q2 : w2.cell? ⟨w.heap.size, 2, none⟩ = some (.int .u8 (x2 : Int)) := kx2.cell 2
      have q3 : w2.cell? ⟨w.heap.size, 3, none⟩ = some (.int .u8 (x3 : Int)) := kx2.cell 3
      have hne : w.heap.size ≠ w1.heap.size := by omega
      have kb' := (kb.set_ 0 (.int .i64 t)).set_ 1 (.slice A2 n c2)
      have hRX : RdB ((w2.setCell ⟨w1.heap.size, 0, none⟩ (.int .i64 t)).setCell ⟨w1.heap.size, 1, none⟩ (.slice A2 n c2)) A2 n L := rdB_far kb hR2 (fun p h1 _ => (World.cell?_of_block (Below.heap_setCell _ _ _ _ h1)).trans (World.cell?_of_block (Below.heap_setCell _ _ _ _ h1))) (by rw [size_set2]; exact Nat.le_refl _)
      have hBX : Below w.heap.size w ((w2.setCell ⟨w1.heap.size, 0, none⟩ (.int .i64 t)).setCell ⟨w1.heap.size, 1, none⟩ (.slice A2 n c2)) := (hBb.setCell (p := ⟨w1.heap.size, 0, none⟩) (by dsimp only; omega) _).setCell (p := ⟨w1.heap.size, 1, none⟩) (by dsimp only; omega) _
      have hszX := size_set2 w2 ⟨w1.heap.size, 0, none⟩ ⟨w1.heap.size, 1, none⟩ (.int .i64 t) (.slice A2 n c2)
      have HX := Lib.hid (And.intro kb' (And.intro hRX (And.intro hBX hszX)))
      clear kb kx kx2 hR2 kb' hRX hBX hszX
      go_wp2_with fail
      go_quiet (fail)
      go_wp2_with fail
      obtain ⟨kb, hRX, hBX, hszX⟩ := HX.out
      clear u0 u1 uf0 uf1 q0 q1 q2 q3 HX
      have kbX := kb.drewN nq
      have hRXX : RdB (((w2.setCell ⟨w1.heap.size, 0, none⟩ (.int .i64 t)).setCell ⟨w1.heap.size, 1, none⟩ (.slice A2 n c2)).drewN nq) A2 n L := hRX.drewN nq
      have hBXX : Below w.heap.size w (((w2.setCell ⟨w1.heap.size, 0, none⟩ (.int .i64 t)).setCell ⟨w1.heap.size, 1, none⟩ (.slice A2 n c2)).drewN nq) := below_drewN hBX nq
      clear kb hRX hBX hszX
      generalize ((w2.setCell ⟨w1.heap.size, 0, none⟩ (.int .i64 t)).setCell ⟨w1.heap.size, 1, none⟩ (.slice A2 n c2)).drewN nq = X at *
      have y0 : X.cell? ⟨w1.heap.size, 0, none⟩ = some (.int .i64 t) := kbX.cell 0
      have y1 : X.cell? ⟨w1.heap.size, 1, none⟩ = some (.slice A2 n c2) := kbX.cell 1
      have lb := kbX.lt
      refine (HT.out.1 A2 c2 X hRXX).mono ?_
      rintro e w3 ⟨⟨A3, c3, rfl, hR3, _, _⟩, hb3⟩
      have l3 := hb3.size
      have l3a : w1.heap.size < w3.heap.size := by omega
      have hW3 : Below w3.heap.size w3 (w3.alloc (.cells #[.int .i64 T1, .slice A3 L1.length c3] 24)) := (Below.refl _ _).alloc (Nat.le_refl _) _
      obtain ⟨hc3, _⟩ := bcell hb3
      go_wp2_with fail
      refine (HT.out.2.1 A3 c3 _ (hR3.up hW3)).mono ?_
      rintro e w4 ⟨⟨A4, c4, rfl, hR4, _, _⟩, hb4⟩
      have kz := (Blk.new w3 24 #[.int .i64 T1, .slice A3 L1.length c3]).below hb4 (by simp)
      have l4 := kz.lt
      have hX4 : Below X.heap.size X w4 := hb3.trans ((hW3.trans (hb4.mono hW3.size)).mono l3)
      have z0 : w4.cell? ⟨w3.heap.size, 0, none⟩ = some (.int .i64 T1) := kz.cell 0
      have z1 : w4.cell? ⟨w3.heap.size, 1, none⟩ = some (.slice A3 L1.length c3) := kz.cell 1
      have zf0 : w4.frozen? ⟨w3.heap.size, 0, none⟩ = false := kz.frozen 0
      have zf1 : w4.frozen? ⟨w3.heap.size, 1, none⟩ = false := kz.frozen 1
      have y0'' := (hX4.cell (p := ⟨w1.heap.size, 0, none⟩) lb).trans y0
      have y1'' := (hX4.cell (p := ⟨w1.heap.size, 1, none⟩) lb).trans y1
      have hn2 : w1.heap.size ≠ w3.heap.size := by omega
      have hR4' : RdB ((w4.setCell ⟨w3.heap.size, 0, none⟩ (.int .i64 T2)).setCell ⟨w3.heap.size, 1, none⟩ (.slice A4 L2.length c4)) A4 L2.length L2 := rdB_far kz hR4 (fun p h1 _ => (World.cell?_of_block (Below.heap_setCell _ _ _ _ h1)).trans (World.cell?_of_block (Below.heap_setCell _ _ _ _ h1))) (by rw [size_set2]; exact Nat.le_refl _)
      have kz' := (kz.set_ 0 (.int .i64 T2)).set_ 1 (.slice A4 L2.length c4)
      have hX5 : Below X.heap.size X ((w4.setCell ⟨w3.heap.size, 0, none⟩ (.int .i64 T2)).setCell ⟨w3.heap.size, 1, none⟩ (.slice A4 L2.length c4)) := (hX4.setCell (p := ⟨w3.heap.size, 0, none⟩) l3 _).setCell (p := ⟨w3.heap.size, 1, none⟩) l3 _
      have HZ := Lib.hid (And.intro hR4' (And.intro kz' hX5))
      clear hR4' kz' hX5 kz hc3
      go_wp2_with fail
      obtain ⟨hR4', kz', hX5⟩ := HZ.out
      clear z0 z1 zf0 zf1 y0'' y1'' HZ
      generalize ((w4.setCell ⟨w3.heap.size, 0, none⟩ (.int .i64 T2)).setCell ⟨w3.heap.size, 1, none⟩ (.slice A4 L2.length c4)) = Y at *
      refine (HT.out.2.2.1 A2 c2 Y (hRXX.up hX5)).mono ?_
      rintro e w5 ⟨⟨A5, c5, rfl, hR5, _, _⟩, hb5⟩
      have l5 := hb5.size
      have lz := kz'.lt
      have hW5 : Below w5.heap.size w5 (w5.alloc (.cells #[.int .i64 T3, .slice A5 L3.length c5] 24)) := (Below.refl _ _).alloc (Nat.le_refl _) _
      obtain ⟨hc5, _⟩ := bcell hb5
      go_wp2_with fail
      refine (HT.out.2.2.2 A5 c5 _ (hR5.up hW5)).mono ?_
      rintro e w6 ⟨⟨A6, c6, rfl, hR6, _, _⟩, hb6⟩
      have kv := (Blk.new w5 24 #[.int .i64 T3, .slice A5 L3.length c5]).below hb6 (by simp)
      have l6 := kv.lt
      have hY6 : Below Y.heap.size Y w6 := hb5.trans ((hW5.trans (hb6.mono hW5.size)).mono l5)
      have z0 : w6.cell? ⟨w5.heap.size, 0, none⟩ = some (.int .i64 T3) := kv.cell 0
      have z1 : w6.cell? ⟨w5.heap.size, 1, none⟩ = some (.slice A5 L3.length c5) := kv.cell 1
      have zf0 : w6.frozen? ⟨w5.heap.size, 0, none⟩ = false := kv.frozen 0
      have zf1 : w6.frozen? ⟨w5.heap.size, 1, none⟩ = false := kv.frozen 1
      have hR6' : RdB ((w6.setCell ⟨w5.heap.size, 0, none⟩ (.int .i64 T4)).setCell ⟨w5.heap.size, 1, none⟩ (.slice A6 L4.length c6)) A6 L4.length L4 := rdB_far kv hR6 (fun p h1 _ => (World.cell?_of_block (Below.heap_setCell _ _ _ _ h1)).trans (World.cell?_of_block (Below.heap_setCell _ _ _ _ h1))) (by rw [size_set2]; exact Nat.le_refl _)
      have kv' := (kv.set_ 0 (.int .i64 T4)).set_ 1 (.slice A6 L4.length c6)
      have hY7 : Below Y.heap.size Y ((w6.setCell ⟨w5.heap.size, 0, none⟩ (.int .i64 T4)).setCell ⟨w5.heap.size, 1, none⟩ (.slice A6 L4.length c6)) := (hY6.setCell (p := ⟨w5.heap.size, 0, none⟩) l5 _).setCell (p := ⟨w5.heap.size, 1, none⟩) l5 _
      have HV := Lib.hid (And.intro hR6' (And.intro kv' hY7))
      clear hR6' kv' hY7 kv hc5
      have l35 : w3.heap.size < w5.heap.size := Nat.lt_of_lt_of_le lz l5
      have hn5 : w3.heap.size ≠ w5.heap.size := by omega
      have hn6 : w1.heap.size ≠ w5.heap.size := by omega
      have lb6 : w1.heap.size < Y.heap.size := Nat.lt_of_lt_of_le lb hX5.size
      have k6 := kz'.below hY6 lz
      have b6 := (kbX.below hX5 lb).below hY6 lb6
      have p0 : w6.cell? ⟨w3.heap.size, 0, none⟩ = some (.int .i64 T2) := k6.cell 0
      have p1 : w6.cell? ⟨w3.heap.size, 1, none⟩ = some (.slice A4 L2.length c4) := k6.cell 1
      have b0 : w6.cell? ⟨w1.heap.size, 0, none⟩ = some (.int .i64 t) := b6.cell 0
      have b1 : w6.cell? ⟨w1.heap.size, 1, none⟩ = some (.slice A2 n c2) := b6.cell 1
      have HKB := Lib.hid (And.intro k6 b6)
      have hBY := hBXX.trans (hX5.mono hBXX.size)
      clear k6 b6
      rcases HSW.out with ⟨he, hg⟩ | ⟨rfl, rfl, rfl, rfl, rfl, rfl, rfl, hlen2, htok⟩
      · have hb8 := hBY.trans (HV.out.2.2.mono hBY.size)
        have HB8 := Lib.hid hb8
        clear hb8
        by_cases e1 : E1 = 0
        · have e2 : E2 ≠ 0 := by omega
          have e2' : (E2 != 0) = true := by rw [bne_iff_ne]; exact e2
          by_cases f1 : E3 = 0
          · have f2 : E4 ≠ 0 := by omega
            have f2' : (E4 != 0) = true := by rw [bne_iff_ne]; exact f2
            subst e1 f1
            clear he hg e2 f2
            go_wp2_with fail
            refine (awake_any _).mono ?_
            rintro e w8 ⟨rfl, hb9⟩
            go_wp2_with fail
            go_ret
            exact ⟨rfl, HB8.out.trans (hb9.mono HB8.out.size)⟩
          · have f1' : (E3 != 0) = true := by rw [bne_iff_ne]; exact f1
            subst e1
            clear he hg e2 f1
            go_wp2_with fail
            refine (awake_any _).mono ?_
            rintro e w8 ⟨rfl, hb9⟩
            go_wp2_with fail
            go_ret
            exact ⟨rfl, HB8.out.trans (hb9.mono HB8.out.size)⟩
        · have e1' : (E1 != 0) = true := by rw [bne_iff_ne]; exact e1
          by_cases f1 : E3 = 0
          · have f2 : E4 ≠ 0 := by omega
            have f2' : (E4 != 0) = true := by rw [bne_iff_ne]; exact f2
            subst f1
            clear he hg e1 f2
            go_wp2_with fail
            refine (awake_any _).mono ?_
            rintro e w8 ⟨rfl, hb9⟩
            go_wp2_with fail
            go_ret
            exact ⟨rfl, HB8.out.trans (hb9.mono HB8.out.size)⟩
          · have f1' : (E3 != 0) = true := by rw [bne_iff_ne]; exact f1
            clear he hg e1 f1
            go_wp2_with fail
            refine (awake_any _).mono ?_
            rintro e w8 ⟨rfl, hb9⟩
            go_wp2_with fail
            go_ret
            exact ⟨rfl, HB8.out.trans (hb9.mono HB8.out.size)⟩
      · have hlN : L2.length = n := hlen2.trans HH.out.2.1
        have HTK := Lib.hid htok
        clear htok hlen2
        rw [hlN] at HV HKB hR4' p1
        rw [hlN]
        go_wp2_with fail
        have hk8 : Blk ((w6.setCell ⟨w5.heap.size, 0, none⟩ (.int .i64 t)).setCell ⟨w5.heap.size, 1, none⟩ (.slice A6 n c6)) w3.heap.size 24 #[.int .i64 t, .slice A4 n c4] := (HKB.out.1.far (p := ⟨w5.heap.size, 0, none⟩) hn5 _).far (p := ⟨w5.heap.size, 1, none⟩) hn5 _
        have hb8 : Blk ((w6.setCell ⟨w5.heap.size, 0, none⟩ (.int .i64 t)).setCell ⟨w5.heap.size, 1, none⟩ (.slice A6 n c6)) w1.heap.size 24 #[.int .i64 t, .slice A2 n c2] := (HKB.out.2.far (p := ⟨w5.heap.size, 0, none⟩) hn6 _).far (p := ⟨w5.heap.size, 1, none⟩) hn6 _
        have hR6 : RdB ((w6.setCell ⟨w5.heap.size, 0, none⟩ (.int .i64 t)).setCell ⟨w5.heap.size, 1, none⟩ (.slice A6 n c6)) A6 n L2 := HV.out.1
        have hBZ := hBY.trans (HV.out.2.2.mono hBY.size)
        have hR4z : RdB ((w6.setCell ⟨w5.heap.size, 0, none⟩ (.int .i64 t)).setCell ⟨w5.heap.size, 1, none⟩ (.slice A6 n c6)) A4 n L2 := hR4'.up HV.out.2.2
        have hR2z : RdB ((w6.setCell ⟨w5.heap.size, 0, none⟩ (.int .i64 t)).setCell ⟨w5.heap.size, 1, none⟩ (.slice A6 n c6)) A2 n L := (hRXX.up hX5).up HV.out.2.2
        clear p0 p1 b0 b1 z0 z1 zf0 zf1 HKB HV
        generalize ((w6.setCell ⟨w5.heap.size, 0, none⟩ (.int .i64 t)).setCell ⟨w5.heap.size, 1, none⟩ (.slice A6 n c6)) = Z at *
        refine (Same_true t A4 A6 n c4 c6 L2 Z hR4z hR6 (by omega)).mono ?_
        rintro e w8 ⟨rfl, hb9⟩
        obtain ⟨hc9, _⟩ := bcell hb9
        have hB9 := hBZ.trans (hb9.mono hBZ.size)
        have hk9 := hk8.below hb9 hk8.lt
        have hb9' := hb8.below hb9 hb8.lt
        have hR4w := hR4z.up hb9
        have hR2w := hR2z.up hb9
        have hRw := hR.up hB9
        obtain ⟨ga, oa, rfl, hga, hca⟩ := hR4w.cells hn0
        obtain ⟨gb, ob, rfl, hgb, hcb⟩ := hR2w.cells hn0
        have s0 : w8.cell? ⟨w3.heap.size, 0, none⟩ = some (.int .i64 t) := hk9.cell 0
        have s1 : w8.cell? ⟨w3.heap.size, 1, none⟩ = some (.slice (some ⟨ga, oa, none⟩) n c4) := hk9.cell 1
        have r0 : w8.cell? ⟨w1.heap.size, 0, none⟩ = some (.int .i64 t) := hb9'.cell 0
        have r1 : w8.cell? ⟨w1.heap.size, 1, none⟩ = some (.slice (some ⟨gb, ob, none⟩) n c2) := hb9'.cell 1
        have HCC := Lib.hid (And.intro hca (And.intro hcb hRw))
        have HB9 := Lib.hid hB9
        have HLN := Lib.hid hlN
        clear hca hcb hRw hB9 hk9 hb9' hk8 hb8 hlN hc9 hb9 hR4z hR2z hR6 hBZ
        go_wp2_with fail
        go_loop [19] (fun v => ∃ j : Nat, j ≤ n ∧ v = .int .i64 j) (fun v => n - (intOf v).toNat)
        case atStart => exact ⟨0, by omega, rfl⟩
        case round =>
          obtain ⟨j, hj, rfl⟩ := hrel
          by_cases hlt : j < n
          · have hjl : j < l.length := by have := HH.out.2.2; omega
            have hjL : j < L.length := by have := HH.out.2.1; omega
            have hjL2 : j < L2.length := by have := HLN.out; omega
            obtain ⟨_, _, _, v3⟩ := HCC.out.1 j hjL2
            obtain ⟨_, _, _, u3⟩ := HCC.out.2.1 j hjL
            rw [← bkAt_lt L2 j hjL2] at v3
            rw [← bkAt_lt L j hjL] at u3
            have htk := HTK.out j
            rw [HPAR.out, HPAR.out] at htk
            have htb := tok_bd HH.out.1 j
            have hbe1 := below_any A n c i j l w8 HCC.out.2.2 hl (by omega) hil hlt
            have hbe2 := below_any A n c k j l w8 HCC.out.2.2 hl (by omega) hkl hlt
            have hji : (j : Int) < n := by omega
            unfold ind at htk
            unfold onP at hbe1 hbe2
            generalize (bkAt L j).tok = tj at *
            generalize (bkAt L2 j).tok = tj2 at *
            by_cases hm1 : j ∈ pathL (startL l) i
            · by_cases hm2 : j ∈ pathL (startL l) k
              · rw [if_pos hm1, if_pos hm2] at htk
                rw [decide_eq_true hm1] at hbe1
                rw [decide_eq_true hm2] at hbe2
                have HB1 := Lib.hid hbe1
                have HB2 := Lib.hid hbe2
                rw [htk] at v3
                clear hbe1 hbe2 htk hm1 hm2
                go_wp2_with fail
                refine HB1.out.mono ?_
                rintro e w10 ⟨rfl, rfl⟩
                go_wp2_with fail
                refine HB2.out.mono ?_
                rintro e w11 ⟨rfl, rfl⟩
                go_wp2_with fail
                go_round
                case rel => exact ⟨j + 1, by omega, by go_num⟩
                case measure => simp [intOf]; omega

              · rw [if_pos hm1, if_neg hm2] at htk
                rw [decide_eq_true hm1] at hbe1
                rw [decide_eq_false hm2] at hbe2
                have HB1 := Lib.hid hbe1
                have HB2 := Lib.hid hbe2
                rw [htk] at v3
                clear hbe1 hbe2 htk hm1 hm2
                go_wp2_with fail
                refine HB1.out.mono ?_
                rintro e w10 ⟨rfl, rfl⟩
                go_wp2_with fail
                refine HB2.out.mono ?_
                rintro e w11 ⟨rfl, rfl⟩
                go_wp2_with fail
                go_round
                case rel => exact ⟨j + 1, by omega, by go_num⟩
                case measure => simp [intOf]; omega

            · by_cases hm2 : j ∈ pathL (startL l) k
              · rw [if_neg hm1, if_pos hm2] at htk
                rw [decide_eq_false hm1] at hbe1
                rw [decide_eq_true hm2] at hbe2
                have HB1 := Lib.hid hbe1
                have HB2 := Lib.hid hbe2
                rw [htk] at v3
                clear hbe1 hbe2 htk hm1 hm2
                go_wp2_with fail
                refine HB1.out.mono ?_
                rintro e w10 ⟨rfl, rfl⟩
                go_wp2_with fail
                refine HB2.out.mono ?_
                rintro e w11 ⟨rfl, rfl⟩
                go_wp2_with fail
                go_round
                case rel => exact ⟨j + 1, by omega, by go_num⟩
                case measure => simp [intOf]; omega

              · rw [if_neg hm1, if_neg hm2] at htk
                rw [decide_eq_false hm1] at hbe1
                rw [decide_eq_false hm2] at hbe2
                have HB1 := Lib.hid hbe1
                have HB2 := Lib.hid hbe2
                rw [htk] at v3
                clear hbe1 hbe2 htk hm1 hm2
                go_wp2_with fail
                refine HB1.out.mono ?_
                rintro e w10 ⟨rfl, rfl⟩
                go_wp2_with fail
                refine HB2.out.mono ?_
                rintro e w11 ⟨rfl, rfl⟩
                go_wp2_with fail
                go_round
                case rel => exact ⟨j + 1, by omega, by go_num⟩
                case measure => simp [intOf]; omega

          · have hjn : j = n := by omega
            subst hjn
            go_wp2_with fail
            refine (awake_any _).mono ?_
            rintro e w10 ⟨rfl, hb10⟩
            go_wp2_with fail
            go_ret
            exact ⟨rfl, HB9.out.trans (hb10.mono HB9.out.size)⟩
end Go.Proofs.Ytehfnanhamaenaa
