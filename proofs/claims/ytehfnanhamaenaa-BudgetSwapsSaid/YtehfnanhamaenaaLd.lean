/- The walk of the law BudgetFirst. No condition. -/
import Derived.Test.YtehfnanhamaenaaLc
import Derived.Test.YtehfnanhamaenaaMathJ
namespace Go.Proofs.Ytehfnanhamaenaa
open Go.RowKit
theorem first_now {t : Int} {l : List Bk} (h : checkL t l = 0) {k : Nat} (hk : k < l.length) {n : Int} (n0 : 0 ≤ n) : (whenV t l k n = (0, 21) ∧ availL (l.map (adv (1073741824 - t))) k < n ∧ checkL 1073741824 (l.map (adv (1073741824 - t))) = 0) ∨
    ∃ u, t ≤ u ∧ u ≤ 1073741824 ∧ whenV t l k n = (u, 0) ∧ n ≤ availL (l.map (adv (u - t))) k ∧ checkL u (l.map (adv (u - t))) = 0 ∧ (u = t ∨ (t ≤ u - 1 ∧ availL (l.map (adv (u - 1 - t))) k < n ∧ checkL (u - 1) (l.map (adv (u - 1 - t))) = 0)) := by
  have hz := checkL_zero h
  have hadv : ∀ u, t ≤ u → u ≤ 1073741824 → checkL u (l.map (adv (u - t))) = 0 := fun u h1 h2 => by
    have := adv_ok (d := u - t) h (by omega) (by omega)
    rwa [show t + (u - t) = u by omega] at this
  rcases first_spec h hk n0 with ⟨h1, h2⟩ | ⟨m, m0, m1, h1, h2, h3⟩
  · exact .inl ⟨h1, h2, hadv _ (by omega) (by omega)⟩
  · have e : t + m - t = m := by omega
    refine .inr ⟨t + m, by omega, m1, h1, by rw [e]; exact h2, hadv _ (by omega) m1, ?_⟩
    rcases h3 with h3 | h3
    · exact .inl (by omega)
    · by_cases hm : m = 0
      · exact .inl (by omega)
      · refine .inr ⟨by omega, ?_, hadv _ (by omega) (by omega)⟩
        rw [show t + m - 1 - t = m - 1 by omega]
        exact h3
set_option maxRecDepth 100000 in
set_option maxHeartbeats 2000000 in
theorem walkBudgetFirst (w : World) (v0 v1 v2 : Value) (h0 : Arg47 w v0) (h1 : Arg48 w v1) (h2 : Arg60 w v2) : Calls Try.prog 8 #[v0, v1, v2] w fun e w' => e = .returned (.bool true) ∧ Below w.heap.size w w' := by
  obtain ⟨A, n, c, l, rfl, hR, hl, hnc, hcm⟩ := h0
  obtain ⟨B, m, d, us, rfl, hU, hu, hmd, hdm⟩ := h1
  obtain ⟨x0, x1, rfl, hx0, hx1⟩ := h2
  have hB0 : Below w.heap.size w (w.alloc (.cells #[.int .u8 (x0 : Int), .int .u8 (x1 : Int)] 60)) := (Below.refl _ w).alloc (Nat.le_refl _) _
  have hn63 : n ≤ 9223372036854775807 := by unfold maxLen at hcm; omega
  have hm63 : m ≤ 9223372036854775807 := by unfold maxLen at hdm; omega
  have hlen : l.length = n := hR.count encP_len (by omega)
  rcases Nat.eq_zero_or_pos n with hn0 | hn0
  · subst hn0
    go_enter Try.func8, Try.ntmps8
    go_wp2_with fail
    refine (awake_any _).mono ?_
    rintro e w1 ⟨rfl, hb1⟩
    go_wp2_with fail
    go_ret
    exact ⟨rfl, hB0.trans (hb1.mono hB0.size)⟩
  · have k1 : ((n : Int) == 0) = false := by rw [beq_eq_false_iff_ne]; omega
    have k1' : ¬ (n : Int) = 0 := by omega
    by_cases hn8 : 8 < n
    · go_enter Try.func8, Try.ntmps8
      go_wp2_with fail
      refine (awake_any _).mono ?_
      rintro e w1 ⟨rfl, hb1⟩
      go_wp2_with fail
      go_ret
      exact ⟨rfl, hB0.trans (hb1.mono hB0.size)⟩
    · have hus := used_state l us (by omega) (by omega)
      obtain ⟨hg, ht0, ht1⟩ := hus
      have hc := hg.ok
      have hL : (runS (0, startL l) (us.take 20)).2.length = n := by rw [hg.len, startL_len, hlen]
      have HF := Lib.hid (fun A c B d w hR hU => used_fr l n A c B m d us w hlen hR hU hu (by omega) hn0 hm63)
      clear hg
      generalize runS (0, startL l) (us.take 20) = s at *
      obtain ⟨t, L⟩ := s
      dsimp only at hc hL ht0 ht1 HF
      have g0 : IntKind.i64.wrap (x0 : Int) = x0 := IntWalk.i64_in _ (by omega)
      have g1 : IntKind.i64.wrap (x1 : Int) = x1 := IntWalk.i64_in _ (by omega)
      obtain ⟨k, hk⟩ : ∃ k, x0 % n = k := ⟨_, rfl⟩
      have hkl : k < n := by rw [← hk]; exact Nat.mod_lt _ hn0
      have d0 : (x0 : Int).tmod (n : Int) = k := by rw [Int.tmod_eq_emod_of_nonneg (by omega), ← hk]; rfl
      obtain ⟨q, hq⟩ : ∃ q : Int, (x1 : Int) % 70 = q := ⟨_, rfl⟩
      have d1 : (x1 : Int).tmod 70 = q := by rw [Int.tmod_eq_emod_of_nonneg (by omega), hq]
      have hq0 : 0 ≤ q ∧ q ≤ 69 := by omega
      clear hk hq
      have hfs := first_now hc (k := k) (by rw [hL]; exact hkl) hq0.1
      have hwh := fun A c w9 (h9 : RdB w9 A n L) => When_any t k q A n c L w9 h9 (by omega) (by omega)
      have HH := Lib.hid (And.intro hc (And.intro hL hlen))
      have HW := Lib.hid hwh
      have HFS := Lib.hid hfs
      clear hc hL hlen hwh hfs
      go_enter Try.func8, Try.ntmps8
      go_wp2_with fail
      refine (built_fr _ _ _ l _ (hR.up hB0) hl (by omega)).mono ?_
      rintro e w1 ⟨⟨A1, c1, rfl, hR1⟩, hb1⟩
      have kx := (Blk.new w 60 #[.int .u8 (x0 : Int), .int .u8 (x1 : Int)]).below hb1 (by simp)
      have hz1 := kx.lt
      have hB1 := hB0.trans (hb1.mono hB0.size)
      have hWa : Below w1.heap.size w1 (w1.alloc (.cells #[.int .i64 0, .slice A1 n c1] 24)) := (Below.refl _ _).alloc (Nat.le_refl _) _
      have hBa := hB1.trans (hWa.mono hB1.size)
      go_wp2_with fail
      refine (HF.out A1 c1 B d _ (hR1.up hWa) (hU.up hBa)).mono ?_
      rintro e w2 ⟨⟨A2, c2, A3, c3, n3, rfl, hR2, _, _⟩, hb2⟩
      have kb := (Blk.new w1 24 #[.int .i64 0, .slice A1 n c1]).below hb2 (by simp)
      have kx2 := (kx.alloc (.cells #[.int .i64 0, .slice A1 n c1] 24)).below hb2 (by simp; omega)
      have hBb := hBa.trans (hb2.mono hBa.size)
      have hz2 := kb.lt
      have u0 : w2.cell? ⟨w1.heap.size, 0, none⟩ = some (.int .i64 0) := kb.cell 0
      have u1 : w2.cell? ⟨w1.heap.size, 1, none⟩ = some (.slice A1 n c1) := kb.cell 1
      have uf0 : w2.frozen? ⟨w1.heap.size, 0, none⟩ = false := kb.frozen 0
      have uf1 : w2.frozen? ⟨w1.heap.size, 1, none⟩ = false := kb.frozen 1
      have q0 : w2.cell? ⟨w.heap.size, 0, none⟩ = some (.int .u8 (x0 : Int)) := kx2.cell 0
      have q1 : w2.cell? ⟨w.heap.size, 1, none⟩ = some (.int .u8 (x1 : Int)) := kx2.cell 1
      have hne : w.heap.size ≠ w1.heap.size := by omega
      have kb' := (kb.set_ 0 (.int .i64 t)).set_ 1 (.slice A2 n c2)
      have hRX : RdB ((w2.setCell ⟨w1.heap.size, 0, none⟩ (.int .i64 t)).setCell ⟨w1.heap.size, 1, none⟩ (.slice A2 n c2)) A2 n L := rdB_far kb hR2 (fun p h1 _ => (World.cell?_of_block (Below.heap_setCell _ _ _ _ h1)).trans (World.cell?_of_block (Below.heap_setCell _ _ _ _ h1))) (by rw [size_set2]; exact Nat.le_refl _)
      have hBX : Below w.heap.size w ((w2.setCell ⟨w1.heap.size, 0, none⟩ (.int .i64 t)).setCell ⟨w1.heap.size, 1, none⟩ (.slice A2 n c2)) := (hBb.setCell (p := ⟨w1.heap.size, 0, none⟩) (by dsimp only; omega) _).setCell (p := ⟨w1.heap.size, 1, none⟩) (by dsimp only; omega) _
      have hszX := size_set2 w2 ⟨w1.heap.size, 0, none⟩ ⟨w1.heap.size, 1, none⟩ (.int .i64 t) (.slice A2 n c2)
      have HX := Lib.hid (And.intro kb' (And.intro hRX (And.intro hBX hszX)))
      clear kb kx kx2 hR2 kb' hRX hBX hszX
      go_wp2_with fail
      go_quiet (fail)
      go_wp2_with fail
      obtain ⟨kb, hRX, hBX, hszX⟩ := HX.out
      clear u0 u1 uf0 uf1 q0 q1 HX
      have kbX := kb.drewN nq
      have hRXX : RdB (((w2.setCell ⟨w1.heap.size, 0, none⟩ (.int .i64 t)).setCell ⟨w1.heap.size, 1, none⟩ (.slice A2 n c2)).drewN nq) A2 n L := hRX.drewN nq
      have hBXX : Below w.heap.size w (((w2.setCell ⟨w1.heap.size, 0, none⟩ (.int .i64 t)).setCell ⟨w1.heap.size, 1, none⟩ (.slice A2 n c2)).drewN nq) := below_drewN hBX nq
      clear kb hRX hBX hszX
      generalize ((w2.setCell ⟨w1.heap.size, 0, none⟩ (.int .i64 t)).setCell ⟨w1.heap.size, 1, none⟩ (.slice A2 n c2)).drewN nq = X at *
      have y0 : X.cell? ⟨w1.heap.size, 0, none⟩ = some (.int .i64 t) := kbX.cell 0
      have y1 : X.cell? ⟨w1.heap.size, 1, none⟩ = some (.slice A2 n c2) := kbX.cell 1
      have lb := kbX.lt
      refine (HW.out A2 c2 X hRXX).mono ?_
      rintro e w3 ⟨he, hb3⟩
      obtain ⟨hc3, _⟩ := bcell hb3
      have l3 := hb3.size
      have l3a : w1.heap.size < w3.heap.size := by omega
      have hB3 := hBXX.trans (hb3.mono hBXX.size)
      have hR3 := hRXX.up hb3
      rcases HFS.out with ⟨h1, h2, h3⟩ | ⟨u, u0, u1, h1, h2, h3, h4⟩
      · rw [h1] at he
        subst he
        have hav := fun A c w9 h9 => avail_fr 1073741824 k A n c _ w9 h9 (by omega) h3 hkl
        generalize availL (L.map (adv (1073741824 - t))) k = mo at *
        have HAV := Lib.hid hav
        clear hav h1 h3
        go_wp2_with fail
        refine (advance_now t 1073741824 A2 n c2 L w3 hR3 (by omega) HH.out.1 (by omega) (by omega)).mono ?_
        rintro e w4 ⟨⟨A4, c4, rfl, hR4⟩, hb4⟩
        have hB4 := hB3.trans (hb4.mono hB3.size)
        have hWY : Below w4.heap.size w4 (w4.alloc (.cells #[.int .i64 1073741824, .slice A4 n c4] 24)) := (Below.refl _ _).alloc (Nat.le_refl _) _
        go_wp2_with fail
        refine (HAV.out A4 c4 _ (hR4.up hWY)).mono ?_
        rintro e w5 ⟨rfl, hb5⟩
        have hB5 := hB4.trans ((hWY.trans (hb5.mono hWY.size)).mono hB4.size)
        go_wp2_with fail
        refine (awake_any _).mono ?_
        rintro e w6 ⟨rfl, hb6⟩
        go_wp2_with fail
        go_ret
        exact ⟨rfl, hB5.trans (hb6.mono hB5.size)⟩
      · rw [h1] at he
        subst he
        have hav := fun A c w9 h9 => avail_fr u k A n c _ w9 h9 (by omega) h3 hkl
        obtain ⟨mo, hmo⟩ : ∃ x, availL (L.map (adv (u - t))) k = x := ⟨_, rfl⟩
        rw [hmo] at h2 hav
        have HAV := Lib.hid hav
        clear hav h1 h3 hmo
        have hun : ¬ u < t := by omega
        rcases h4 with h4 | ⟨v0', v1, v2⟩
        · subst h4
          go_wp2_with fail
          refine (advance_now u u A2 n c2 L w3 hR3 (by omega) HH.out.1 (by omega) (by omega)).mono ?_
          rintro e w4 ⟨⟨A4, c4, rfl, hR4⟩, hb4⟩
          obtain ⟨hc4, _⟩ := bcell hb4
          have l4 : w1.heap.size < w4.heap.size := Nat.lt_of_lt_of_le l3a hb4.size
          have hB4 := hB3.trans (hb4.mono hB3.size)
          have hWY : Below w4.heap.size w4 (w4.alloc (.cells #[.int .i64 u, .slice A4 n c4] 24)) := (Below.refl _ _).alloc (Nat.le_refl _) _
          go_wp2_with fail
          refine (HAV.out A4 c4 _ (hR4.up hWY)).mono ?_
          rintro e w5 ⟨rfl, hb5⟩
          obtain ⟨hc5, _⟩ := bcell hb5
          have l5 : w1.heap.size < w5.heap.size := by have := hb5.size; simp at this; omega
          have hB5 := hB4.trans ((hWY.trans (hb5.mono hWY.size)).mono hB4.size)
          go_wp2_with fail
          refine (awake_any _).mono ?_
          rintro e w6 ⟨rfl, hb6⟩
          go_wp2_with fail
          go_ret
          exact ⟨rfl, hB5.trans (hb6.mono hB5.size)⟩
        · have hut : ¬ u = t := by omega
          have hut2 : (u == t) = false := by rw [beq_eq_false_iff_ne]; exact hut
          have hav2 := fun A c w9 h9 => avail_fr (u - 1) k A n c _ w9 h9 (by omega) v2 hkl
          obtain ⟨mp, hmp⟩ : ∃ x, availL (L.map (adv (u - 1 - t))) k = x := ⟨_, rfl⟩
          rw [hmp] at v1 hav2
          have HAV2 := Lib.hid hav2
          clear hav2 v2 hmp
          go_wp2_with fail
          refine (advance_now t u A2 n c2 L w3 hR3 (by omega) HH.out.1 (by omega) (by omega)).mono ?_
          rintro e w4 ⟨⟨A4, c4, rfl, hR4⟩, hb4⟩
          obtain ⟨hc4, _⟩ := bcell hb4
          have l4 : w1.heap.size < w4.heap.size := Nat.lt_of_lt_of_le l3a hb4.size
          have hB4 := hB3.trans (hb4.mono hB3.size)
          have hWY : Below w4.heap.size w4 (w4.alloc (.cells #[.int .i64 u, .slice A4 n c4] 24)) := (Below.refl _ _).alloc (Nat.le_refl _) _
          go_wp2_with fail
          refine (HAV.out A4 c4 _ (hR4.up hWY)).mono ?_
          rintro e w5 ⟨rfl, hb5⟩
          obtain ⟨hc5, hf5⟩ := bcell hb5
          have l5 : w1.heap.size < w5.heap.size := by have := hb5.size; simp at this; omega
          have l5b : w4.heap.size < w5.heap.size := by have := hb5.size; simp at this; omega
          have hV5 := hWY.trans (hb5.mono hWY.size)
          have hB5 := hB4.trans (hV5.mono hB4.size)
          have hR5 : RdB w5 A2 n L := (hR3.up hb4).up hV5
          have hne4 : w1.heap.size ≠ w4.heap.size := by omega
          go_wp2_with fail
          refine (advance_now t (u - 1) A2 n c2 L w5 hR5 (by omega) HH.out.1 (by omega) (by omega)).mono ?_
          rintro e w6 ⟨⟨A6, c6, rfl, hR6⟩, hb6⟩
          have kz := ((Blk.new w4 24 #[.int .i64 u, .slice A4 n c4]).below hb5 (by simp)).below hb6 l5b
          have z0 : w6.cell? ⟨w4.heap.size, 0, none⟩ = some (.int .i64 u) := kz.cell 0
          have z1 : w6.cell? ⟨w4.heap.size, 1, none⟩ = some (.slice A4 n c4) := kz.cell 1
          have zf0 : w6.frozen? ⟨w4.heap.size, 0, none⟩ = false := kz.frozen 0
          have zf1 : w6.frozen? ⟨w4.heap.size, 1, none⟩ = false := kz.frozen 1
          have hB6 := hB5.trans (hb6.mono hB5.size)
          have hR6' : RdB ((w6.setCell ⟨w4.heap.size, 0, none⟩ (.int .i64 (u - 1))).setCell ⟨w4.heap.size, 1, none⟩ (.slice A6 n c6)) A6 n _ := rdB_far kz hR6 (fun p h1 _ => (World.cell?_of_block (Below.heap_setCell _ _ _ _ h1)).trans (World.cell?_of_block (Below.heap_setCell _ _ _ _ h1))) (by rw [size_set2]; exact Nat.le_refl _)
          have hB7 : Below w.heap.size w ((w6.setCell ⟨w4.heap.size, 0, none⟩ (.int .i64 (u - 1))).setCell ⟨w4.heap.size, 1, none⟩ (.slice A6 n c6)) := (hB6.setCell (p := ⟨w4.heap.size, 0, none⟩) hB4.size _).setCell (p := ⟨w4.heap.size, 1, none⟩) hB4.size _
          have HZ := Lib.hid (And.intro hR6' hB7)
          clear kz hR6' hB7 hc3 hc4 hc5 hf5
          go_wp2_with fail
          refine (HAV2.out A6 c6 _ HZ.out.1).mono ?_
          rintro e w7 ⟨rfl, hb7⟩
          have hB8 := HZ.out.2.trans (hb7.mono HZ.out.2.size)
          go_wp2_with fail
          refine (awake_any _).mono ?_
          rintro e w8 ⟨rfl, hb8⟩
          go_wp2_with fail
          go_ret
          exact ⟨rfl, hB8.trans (hb8.mono hB8.size)⟩
end Go.Proofs.Ytehfnanhamaenaa
