/- The walk of the reference Write. Condition: at most 1000 marks. -/
import Derived.Test.YthkpkjigfaannaaWh
import Derived.Test.YthkpkjigfaannaaMathB
namespace Go.Proofs.Ythkpkjigfaannaa
open Go.RowKit
theorem writeR_adv {o r t b : Int} {l : List Mk} {now : Int} (h1 : chkTh o r t b l = 0) (h2 : t ≤ now ∧ now ≤ 1073741824) : Th.adv ⟨o, r, t, b, l⟩ now = 0 := by
  show advE o r t b l now = 0
  rw [advE, if_pos h1]
  have : betwB now t 1073741824 = true := by simp [betwB]; omega
  rw [this]; rfl
theorem cells55 {X : World} {g g' : Nat} {ty ty' : TypeId} {v0 v1 v2 v3 v4 u0 u1 u2 u3 u4 : Value} (h : Blk X g ty #[v0, v1, v2, v3, v4]) (h' : Blk X g' ty' #[u0, u1, u2, u3, u4]) :
    X.cell? ⟨g, 0, none⟩ = some v0 ∧ X.cell? ⟨g, 1, none⟩ = some v1 ∧ X.cell? ⟨g, 2, none⟩ = some v2 ∧ X.cell? ⟨g, 3, none⟩ = some v3 ∧ X.cell? ⟨g, 4, none⟩ = some v4 ∧
    X.cell? ⟨g', 0, none⟩ = some u0 ∧ X.cell? ⟨g', 1, none⟩ = some u1 ∧ X.cell? ⟨g', 2, none⟩ = some u2 ∧ X.cell? ⟨g', 3, none⟩ = some u3 ∧ X.cell? ⟨g', 4, none⟩ = some u4 :=
  ⟨h.cell 0, h.cell 1, h.cell 2, h.cell 3, h.cell 4, h'.cell 0, h'.cell 1, h'.cell 2, h'.cell 3, h'.cell 4⟩
set_option maxRecDepth 100000 in
set_option maxHeartbeats 4000000 in
theorem refWrite_any (T : Th) (now k : Int) (A : Option Addr) (n c : Nat) (w : World) (hR : RdM w A n T.l) (hn9 : n ≤ 900) :
    Calls Try.prog 18 #[.agg #[.int .i64 T.o, .int .i64 T.r, .int .i64 T.t, .int .i64 T.b, .slice A n c], .int .i64 now, .int .i64 k] w fun e w' => WriR (writeR T now k) e w' ∧ Below w.heap.size w w' := by
  obtain ⟨o, r, t, b, l⟩ := T
  dsimp only at hR ⊢
  have hn : n ≤ 1000 := by omega
  obtain ⟨W0, hW0⟩ : ∃ W0, (w.alloc (.cells #[.int .i64 o, .int .i64 r, .int .i64 t, .int .i64 b, .slice A n c] 24)).alloc (.cells #[.int .i64 0, .int .i64 0, .int .i64 0, .int .i64 0, .slice none 0 0] 24) = W0 := ⟨_, rfl⟩
  have hB0 : Below w.heap.size w W0 := by rw [← hW0]; exact ((Below.refl _ w).alloc (Nat.le_refl _) _).alloc (by simp) _
  have hs0 : W0.heap.size = w.heap.size + 2 := by rw [← hW0]; simp
  have hT0 : Blk W0 w.heap.size 24 #[.int .i64 o, .int .i64 r, .int .i64 t, .int .i64 b, .slice A n c] := by rw [← hW0]; exact (Blk.new _ _ _).alloc _
  have hR0 : Blk W0 (w.heap.size + 1) 24 #[.int .i64 0, .int .i64 0, .int .i64 0, .int .i64 0, .slice none 0 0] := by
    have := Blk.new (w.alloc (.cells #[.int .i64 o, .int .i64 r, .int .i64 t, .int .i64 b, .slice A n c] 24)) 24 #[.int .i64 0, .int .i64 0, .int .i64 0, .int .i64 0, .slice none 0 0]
    rw [World.size_alloc] at this
    rw [← hW0]; exact this
  have hCk := refCheck_any o r t b A n c l W0 (hR.up hB0) hn
  obtain ⟨ce, hce⟩ : ∃ ce, chkTh o r t b l = ce := ⟨_, rfl⟩
  rw [hce] at hCk
  have HCk := Lib.hid hCk
  have HW := Lib.hid hW0
  have HT0 := Lib.hid hT0
  have HR0 := Lib.hid hR0
  have HB0 := Lib.hid hB0
  have HRD := Lib.hid hR
  clear hCk hW0 hR0 hB0 hT0 hR
  by_cases hc0 : ce = 0
  · subst hc0
    obtain ⟨⟨o1, o2⟩, ⟨r1, r2⟩, ⟨t01, t02⟩, hmk, b1, b2, t2, hopen⟩ := chk_zero hce
    obtain ⟨m1, m2⟩ := mul_bd r1 r2 o1 o2
    by_cases hnow : t ≤ now ∧ now ≤ 1073741824
    · have hTa := writeR_adv hce hnow
      have hWR : writeR ⟨o, r, t, b, l⟩ now k = if 1 ≤ k ∧ k ≤ 4096 then (if k ≤ r * o then (if b + k ≤ r * o then (if totM l + k ≤ 1073741824 then (⟨o, r, now, b + k, admL now b k l⟩, 0, 0) else (Th.zero, 0, 11)) else (⟨o, r, now, b, l⟩, (b + k - r * o + r - 1) / r, 0)) else (Th.zero, 0, 21)) else (Th.zero, 0, 2) := by rw [writeR, if_pos hTa]
      obtain ⟨hn1, hn2⟩ := hnow
      have hdl := delay_eq (b + k) r o (by omega)
      obtain ⟨B, hB⟩ : ∃ B, r * o = B := ⟨_, rfl⟩
      rw [hB] at m1 m2 hWR hdl
      have hw64 : wrap64 (r * o) = B := by rw [IntWalk.wrap64_in _ (by rw [hB]; omega), hB]
      have HWR := Lib.hid hWR
      have HML := Lib.hid (And.intro hmk hopen)
      have HDL := Lib.hid hdl
      clear hWR hTa hce hmk hopen hdl hB
      by_cases hk1 : 1 ≤ k
      · by_cases hk2 : k ≤ 4096
        · by_cases hkB : k ≤ B
          · by_cases hbk : b + k ≤ B
            · by_cases hT : totM l + k ≤ 1073741824
              · have HW9 : Hid (writeR ⟨o, r, t, b, l⟩ now k = (⟨o, r, now, b + k, admL now b k l⟩, 0, 0)) := by rw [Hid, HWR.out, if_pos ⟨hk1, hk2⟩, if_pos hkB, if_pos hbk, if_pos hT]
                go_enter Try.func18, Try.ntmps18
                go_wp2_with fail
                rw [HW.out]
                refine HCk.out.mono ?_
                rintro e w1 ⟨rfl, hb1⟩
                have HT1 := Lib.hid (HT0.out.below hb1 HT0.out.lt)
                have HR1 := Lib.hid (HR0.out.below hb1 HR0.out.lt)
                have HB1 := Lib.hid (HB0.out.trans (hb1.mono HB0.out.size))
                have hs1 := hb1.size
                obtain ⟨f0, f1, f2, f3, f4, _⟩ := blk5 (Below.refl _ w1) HT1.out HT1.out.lt
                have lT := HT1.out.lt
                clear hb1
                have hb2a : Below w1.heap.size w1 (w1.alloc (.cells #[.int .i64 o, .int .i64 r, .int .i64 now, .int .i64 b, .slice A n c] 24)) := (Below.refl _ w1).alloc (Nat.le_refl _) _
                have HC1 : Hid (Blk (w1.alloc (.cells #[.int .i64 o, .int .i64 r, .int .i64 now, .int .i64 b, .slice A n c] 24)) w1.heap.size 24 #[.int .i64 o, .int .i64 r, .int .i64 now, .int .i64 b, .slice A n c]) := Blk.new _ _ _
                have HTi := Lib.hid (tidy_any A n c 0 l _ (HRD.out.up (HB1.out.trans (hb2a.mono HB1.out.size))) hn)
                rw [tidyM_all HML.out.1 (Int.le_refl 0)] at HTi
                have HB1a := Lib.hid hb2a
                clear hb2a
                go_wp2_with fail
                refine HTi.out.mono ?_
                rintro e w2 ⟨⟨v2, rfl, hown⟩, hb2⟩
                have hs2 := hb2.size
                rw [World.size_alloc] at hs2
                have hbw : Below w1.heap.size w1 w2 := HB1a.out.trans (hb2.mono HB1a.out.size)
                have HC2 := Lib.hid (HC1.out.below hb2 HC1.out.lt)
                have HT2 := Lib.hid (HT1.out.below hbw HT1.out.lt)
                have HR2 := Lib.hid (HR1.out.below hbw HR1.out.lt)
                have HB2 := Lib.hid (HB1.out.trans (hbw.mono HB1.out.size))
                have hown : w2.ownsRow (w1.heap.size + 1) 74 2 v2 l.length (l.flatMap encM) := by rw [World.size_alloc] at hown; exact hown
                have HO2 := Lib.hid hown
                have HL := Lib.hid HRD.out.len
                obtain ⟨A2, c2, rfl, hnc2, hcm2, _⟩ := own_slice hown
                rw [HL.out] at HO2 hnc2 ⊢
                obtain ⟨f0, f1, f2, f3, f4, _⟩ := blk5 (Below.refl _ w2) HT2.out HT2.out.lt
                obtain ⟨e0, e1, e2, e3, e4, _⟩ := blk5 (Below.refl _ w2) HC2.out HC2.out.lt
                have y3 := HC2.out.frozen 3
                have y4 := HC2.out.frozen 4
                have lT2 := HT2.out.lt
                have lC2 := HC2.out.lt
                clear hown hb2 hbw
                go_wp2_with fail
                have hbb : w.heap.size + 2 ≤ w1.heap.size := by omega
                have hCX := HC2.out.set_ 4 (.slice A2 n c2)
                change Blk _ _ _ #[.int .i64 o, .int .i64 r, .int .i64 now, .int .i64 b, .slice A2 n c2] at hCX
                have hTX := HT2.out.far (p := ⟨w1.heap.size, 4, none⟩) (show w.heap.size ≠ w1.heap.size by omega) (.slice A2 n c2)
                have hRX := HR2.out.far (p := ⟨w1.heap.size, 4, none⟩) (show w.heap.size + 1 ≠ w1.heap.size by omega) (.slice A2 n c2)
                have hBX := HB2.out.setCell (p := ⟨w1.heap.size, 4, none⟩) (show w.heap.size ≤ w1.heap.size by omega) (.slice A2 n c2)
                have hOX := own_far HO2.out (p := ⟨w1.heap.size, 4, none⟩) (fun h => by have := own_block_ge HO2.out w1.heap.size h; omega) (.slice A2 n c2)
                obtain ⟨X, hX⟩ : ∃ X, w2.setCell ⟨w1.heap.size, 4, none⟩ (.slice A2 n c2) = X := ⟨_, rfl⟩
                rw [hX] at hCX hTX hRX hBX hOX ⊢
                have HX := Lib.hid (And.intro hCX (And.intro hTX (And.intro hRX (And.intro hBX hOX))))
                clear hX f0 f1 f2 f3 f4 e0 e1 e2 e3 e4 y3 y4 lT2 lC2
                obtain ⟨f0, f1, f2, f3, f4, _⟩ := blk5 (Below.refl _ X) hTX hTX.lt
                obtain ⟨e0, e1, e2, e3, e4, _⟩ := blk5 (Below.refl _ X) hCX hCX.lt
                have lT := hTX.lt
                have lC := hCX.lt
                have lR := hRX.lt
                clear hCX hTX hBX hOX
                have hTo := fun w9 (h9 : Below X.heap.size X w9) => refTotal_any o r t b A n c l w9 ((HRD.out.up HX.out.2.2.2.1).up h9) hn
                obtain ⟨TT, hTT⟩ : ∃ TT, totM l = TT := ⟨_, rfl⟩
                have HTT := Lib.hid hTT
                rw [hTT] at hTo hT b2 t2
                have HTo := Lib.hid hTo
                clear hTo hTT
                go_wp2_with fail
                refine (HTo.out _ (Below.refl _ X)).mono ?_
                rintro e w3 ⟨rfl, hb3⟩
                have HT3 := Lib.hid (HX.out.2.1.below hb3 HX.out.2.1.lt)
                have HC3 := Lib.hid (HX.out.1.below hb3 HX.out.1.lt)
                have HR3 := Lib.hid (HX.out.2.2.1.below hb3 HX.out.2.2.1.lt)
                have HB3 := Lib.hid (HX.out.2.2.2.1.trans (hb3.mono HX.out.2.2.2.1.size))
                have HO3 := Lib.hid (own_below HX.out.2.2.2.2 hb3)
                have HB33 := Lib.hid hb3
                clear f0 f1 f2 f3 f4 e0 e1 e2 e3 e4 lT lC lR hRX
                obtain ⟨f0, f1, f2, f3, f4, _⟩ := blk5 (Below.refl _ w3) HT3.out HT3.out.lt
                obtain ⟨e0, e1, e2, e3, e4, _⟩ := blk5 (Below.refl _ w3) HC3.out HC3.out.lt
                have lT := HT3.out.lt
                have lC := HC3.out.lt
                clear hb3
                go_wp2_with fail
                go_region_held3 (fun w' => w'.cell? ⟨w.heap.size, 0, none⟩ = some (.int .i64 o) ∧ w'.cell? ⟨w.heap.size, 1, none⟩ = some (.int .i64 r) ∧ w'.cell? ⟨w.heap.size, 2, none⟩ = some (.int .i64 t) ∧ w'.cell? ⟨w.heap.size, 3, none⟩ = some (.int .i64 b) ∧ w'.cell? ⟨w.heap.size, 4, none⟩ = some (.slice A n c) ∧ Below w3.heap.size w3 w')
                  (first
                    | exact blk5 ((Below.refl _ w3).drew) HT3.out lT
                    | (go_split_ands; refine blk5 (below_step ?_ hb') HT3.out lT; assumption))
                  (((go_at_call 37; refine (HTo.out _ (HB33.out.trans (Below.mono ?_ HB33.out.size))).mono ?_; (go_split_ands; assumption); rintro e w' ⟨rfl, hb'⟩)))
                rename_i hS
                have hb4 := hS.2.2.2.2.2
                generalize w' = w4 at *
                have HC4 := Lib.hid (HC3.out.below hb4 HC3.out.lt)
                have HR4 := Lib.hid (HR3.out.below hb4 HR3.out.lt)
                have HT4 := Lib.hid (HT3.out.below hb4 HT3.out.lt)
                have HB4 := Lib.hid (HB3.out.trans (hb4.mono HB3.out.size))
                have HO4 := Lib.hid (own_below HO3.out hb4)
                have hs4 := hb4.size
                have hs3 := HB33.out.size
                clear hS f0 f1 f2 f3 f4 e0 e1 e2 e3 e4 lT lC hb4
                obtain ⟨f0, f1, f2, f3, f4, _⟩ := blk5 (Below.refl _ w4) HT4.out HT4.out.lt
                obtain ⟨e0, e1, e2, e3, e4, _⟩ := blk5 (Below.refl _ w4) HC4.out HC4.out.lt
                have y3 := HC4.out.frozen 3
                have y4 := HC4.out.frozen 4
                have lT := HT4.out.lt
                have lC := HC4.out.lt
                have hgk := HR4.out
                obtain ⟨g0, g1, g2, g3, g4, _⟩ := blk5 (Below.refl _ w4) hgk hgk.lt
                have z0 := hgk.frozen 0
                have z1 := hgk.frozen 1
                have z2 := hgk.frozen 2
                have z3 := hgk.frozen 3
                have z4 := hgk.frozen 4
                have lR := hgk.lt
                clear hgk
                obtain ⟨i0, hi0, hz0, hz1, hz2⟩ := info_parts info74
                have HI := Lib.hid (And.intro hi0 (And.intro hz0 (And.intro hz1 hz2)))
                clear hi0 hz0 hz1 hz2
                by_cases hn0 : n = 0
                · subst hn0
                  have HLN : Hid (¬(l ≠ [] ∧ (lastM ⟨-1, 0⟩ l).t = now)) := fun h => h.1 (List.eq_nil_of_length_eq_zero HL.out)
                  go_wp2_with (at_builtin; go_must (refine wpList_append_elem w4 rfl (.tmp 111) (.tmp 115) _ rfl (w1.heap.size + 1) 74 i0 _ 2 16 Try.underlying22 HI.out.1 HI.out.2.1 HI.out.2.2.1 HI.out.2.2.2 rfl (by omega) (.slice A2 0 c2) 0 (l.flatMap encM) #[.int .i64 now, .int .i64 (TT + k)] rfl rfl rfl HO4.out (one2 _ _) (by simp only [maxLen]; omega) (by omega) (by omega) ?_; intro v5 w5 h5 hb5; obtain ⟨A5, c5, rfl, _, _, _⟩ := own_slice h5; have H5 := Lib.hid (And.intro h5 hb5); clear h5 hb5))
                  have h5e : w5.ownsRow (w1.heap.size + 1) 74 2 (.slice A5 (0 + 1) c5) (0 + 1) ((l ++ [(⟨now, TT + k⟩ : Mk)]).flatMap encM) := by
                    have h9 := H5.out.1
                    rw [List.flatMap_append]
                    exact h9
                  have hTi5 := tidy_any A5 (0 + 1) c5 (TT - b) (l ++ [⟨now, TT + k⟩]) w5 (Reads.of_own h5e) (by omega)
                  rw [tidyM_snoc HML.out.1] at hTi5
                  have HTi5 := Lib.hid hTi5
                  clear h5e hTi5
                  refine HTi5.out.mono ?_
                  rintro e w6 ⟨⟨v6, rfl, hown6⟩, hb6⟩
                  have hb5 := H5.out.2
                  have HR6 := Lib.hid ((HR4.out.below hb5 (by omega)).below hb6 (by have := hb5.size; omega))
                  have HC6 := Lib.hid ((HC4.out.below hb5 (by omega)).below hb6 (by have := hb5.size; omega))
                  have HT6 := Lib.hid ((HT4.out.below hb5 (by omega)).below hb6 (by have := hb5.size; omega))
                  have HB6 := Lib.hid ((HB4.out.trans (hb5.mono (by omega))).trans (hb6.mono (by have := hb5.size; have := HB4.out.size; omega)))
                  have hs5 := hb5.size
                  obtain ⟨A6, c6, rfl, hnc6, hcm6, _⟩ := own_slice hown6
                  have hown6' := own_base hown6 (show w1.heap.size + 1 ≤ w5.heap.size by omega)
                  have hlen6 : ((l.drop (openM (TT - b) l) ++ [(⟨now, TT + k⟩ : Mk)]).length : Int) ≤ 4096 := by
                    rw [List.length_append, List.length_drop, HL.out, List.length_singleton]; omega
                  have HF := Lib.hid (And.intro hown6' (And.intro hnc6 hcm6))
                  clear f0 f1 f2 f3 f4 e0 e1 e2 e3 e4 y3 y4 g0 g1 g2 g3 g4 z0 z1 z2 z3 z4 lT lC lR hown6 hown6' hnc6 hcm6 hb5 hb6
                  obtain ⟨f0, f1, f2, f3, f4, _⟩ := blk5 (Below.refl _ w6) HT6.out HT6.out.lt
                  obtain ⟨e0, e1, e2, e3, e4, _⟩ := blk5 (Below.refl _ w6) HC6.out HC6.out.lt
                  obtain ⟨g0, g1, g2, g3, g4, _⟩ := blk5 (Below.refl _ w6) HR6.out HR6.out.lt
                  have y3 := HC6.out.frozen 3
                  have y4 := HC6.out.frozen 4
                  have z0 := HR6.out.frozen 0
                  have z1 := HR6.out.frozen 1
                  have z2 := HR6.out.frozen 2
                  have z3 := HR6.out.frozen 3
                  have z4 := HR6.out.frozen 4
                  have lT := HT6.out.lt
                  have lC := HC6.out.lt
                  have lR := HR6.out.lt
                  have HNP : w1.heap.size ≠ w.heap.size + 1 := by omega
                  have HNQ : w.heap.size + 1 ≠ w1.heap.size := by omega
                  have HNR : w.heap.size ≠ w1.heap.size := by omega
                  obtain ⟨n6, hn6⟩ : ∃ n6, (l.drop (openM (TT - b) l) ++ [(⟨now, TT + k⟩ : Mk)]).length = n6 := ⟨_, rfl⟩
                  rw [hn6] at hlen6 HF ⊢
                  clear hn6
                  go_wp2_with fail
                  have hK9 := set5 (x := .int .i64 o) (y := .int .i64 r) (z := .int .i64 now) (u := .int .i64 (b + k)) (v := .slice A6 n6 c6) ((HR6.out.far (p := ⟨w1.heap.size, 4, none⟩) HNQ (.slice A6 n6 c6)).far (p := ⟨w1.heap.size, 3, none⟩) HNQ (.int .i64 (b + k)))
                  refine bodyPost_ret (results_cell_tmp2 rfl _ _ _ _ _ _ rfl hK9 Try.underlying24 rfl info24) rfl ?_
                  rw [HW9.out]
                  refine ⟨⟨_, rfl, A6, n6, c6, rfl, ?_, HF.out.2⟩, bel5 ((HB6.out.setCell (p := ⟨w1.heap.size, 4, none⟩) (show w.heap.size ≤ w1.heap.size by omega) _).setCell (p := ⟨w1.heap.size, 3, none⟩) (show w.heap.size ≤ w1.heap.size by omega) _) (by omega)⟩
                  have hne : ∀ ad, A6 = some ad → w1.heap.size + 1 ≤ ad.block := fun ad h => own_block_ge HF.out.1 ad.block (by rw [h]; rfl)
                  show RdM _ A6 n6 (admL now b k l)
                  rw [show admL now b k l = l.drop (openM (TT - b) l) ++ [⟨now, TT + k⟩] by rw [admL, if_neg HLN.out, HTT.out]]
                  exact RdM.far5 (RdM.far1 (RdM.far1 (show RdM w6 A6 n6 _ from Reads.of_own HF.out.1) (p := ⟨w1.heap.size, 4, none⟩) (fun ad h => by have := hne ad h; show ad.block ≠ w1.heap.size; omega) _) (p := ⟨w1.heap.size, 3, none⟩) (fun ad h => by have := hne ad h; show ad.block ≠ w1.heap.size; omega) _) (fun ad h => by have := hne ad h; omega)
                · obtain ⟨j, rfl⟩ : ∃ j, n = j + 1 := ⟨n - 1, by omega⟩
                  have hne : l ≠ [] := by intro h; have := HL.out; rw [h] at this; cases this
                  obtain ⟨g, cap, cur, hv, hgb, hcur, hncap, hcapm, hcs, hct⟩ := own_blk HO4.out (by omega)
                  injection hv with eA _ ec
                  subst eA ec
                  have hlast : l.length = j + 1 := HL.out
                  obtain ⟨g', off, hA, hc⟩ := (show RdM w4 (some ⟨g, 0, none⟩) (j + 1) l from Reads.of_own HO4.out).cells
                  obtain ⟨hA, hgw⟩ := hA (by omega)
                  injection hA with hA
                  injection hA with e91 e92 _
                  subst e91 e92
                  obtain ⟨d0, _⟩ := hc j (by omega)
                  rw [← lastM_at ⟨-1, 0⟩ l j hlast, Nat.zero_add] at d0
                  have jw : IntKind.i64.wrap ((j : Int) + 1 - 1) = j := by rw [IntWalk.i64_in _ (by omega)]; omega
                  have jw2 : IntKind.i64.wrap (j : Int) = j := IntWalk.i64_in _ (by omega)
                  obtain ⟨mt, hmt⟩ : ∃ mt, (lastM ⟨-1, 0⟩ l).t = mt := ⟨_, rfl⟩
                  rw [hmt] at d0
                  have HMT := Lib.hid hmt
                  have HLS := Lib.hid hlast
                  have HCUR := Lib.hid (And.intro hcur (And.intro hcs hct))
                  clear hc hmt hlast hcur hcs hct
                  by_cases hm : mt = now
                  · rw [hm] at d0 HMT
                    have HLE : Hid (l ≠ [] ∧ (lastM ⟨-1, 0⟩ l).t = now) := ⟨hne, HMT.out⟩
                    clear hm
                    have hjl : j < l.length := by rw [HLS.out]; omega
                    have hsz : j * 2 + 1 < cur.size := by have := HCUR.out.2.1; omega
                    have hcu : w4.cell? ⟨g, j * 2 + 1, none⟩ = some cur[j * 2 + 1] := ((show Blk w4 g 74 cur from HCUR.out.1).cell _).trans (Array.getElem?_eq_getElem hsz)
                    have zcu := (show Blk w4 g 74 cur from HCUR.out.1).frozen (j * 2 + 1)
                    obtain ⟨u, hu⟩ : ∃ u, cur[j * 2 + 1] = u := ⟨_, rfl⟩
                    rw [hu] at hcu
                    clear hu hsz hne
                    have hg1 : g ≠ w1.heap.size := by omega
                    have hg2 : g ≠ w.heap.size + 1 := by omega
                    have hg3 : g ≠ w.heap.size := by omega
                    have hg4 : w1.heap.size ≠ g := by omega
                    have hg5 : w.heap.size + 1 ≠ g := by omega
                    have hg6 : w.heap.size ≠ g := by omega
                    have HNP : w1.heap.size ≠ w.heap.size + 1 := by omega
                    have HNQ : w.heap.size + 1 ≠ w1.heap.size := by omega
                    have HNR : w.heap.size ≠ w1.heap.size := by omega
                    have hj4 : ((j : Int) + 1) ≤ 4096 := by omega
                    go_wp2_with fail
                    have hK9 := set5 (x := .int .i64 o) (y := .int .i64 r) (z := .int .i64 now) (u := .int .i64 (b + k)) (v := .slice (some ⟨g, 0, none⟩) (j + 1) c2) ((HR4.out.far (p := ⟨g, j * 2 + 1, none⟩) hg5 (.int .i64 (TT + k))).far (p := ⟨w1.heap.size, 3, none⟩) HNQ (.int .i64 (b + k)))
                    refine bodyPost_ret (results_cell_tmp2 rfl _ _ _ _ _ _ rfl hK9 Try.underlying24 rfl info24) rfl ?_
                    rw [HW9.out]
                    refine ⟨⟨_, rfl, some ⟨g, 0, none⟩, j + 1, c2, rfl, ?_, hnc2, hcm2⟩, bel5 ((HB4.out.setCell (p := ⟨g, j * 2 + 1, none⟩) (show w.heap.size ≤ g by omega) _).setCell (p := ⟨w1.heap.size, 3, none⟩) (show w.heap.size ≤ w1.heap.size by omega) _) (by omega)⟩
                    have hoq := own_set HO4.out (j * 2 + 1) (.int .i64 (TT + k))
                    have hse : (l.flatMap encM).set (j * 2 + 1) (.int .i64 (TT + k)) = (l.set j ⟨now, TT + k⟩).flatMap encM := by
                      refine flatMap_set (E := encM) (sz := 2) (fun _ => rfl) l j hjl _ 1 _ (by omega) ?_
                      have h9 := HMT.out
                      rw [lastM_at _ l j HLS.out] at h9
                      have ha : atM l j = l[j] := by simp [atM, hjl]
                      rw [ha] at h9
                      rw [← h9]
                      rfl
                    rw [hse] at hoq
                    show RdM _ _ _ (admL now b k l)
                    rw [show admL now b k l = l.set j ⟨now, TT + k⟩ by rw [admL, if_pos HLE.out, HTT.out, HLS.out, Nat.add_sub_cancel]]
                    exact RdM.far5 (RdM.far1 (show RdM _ (some ⟨g, 0, none⟩) (j + 1) _ from Reads.of_own hoq) (p := ⟨w1.heap.size, 3, none⟩) (fun ad h => by injection h with h; rw [← h]; exact hg1) _) (fun ad h => by injection h with h; rw [← h]; exact hg2)
                  · have HLN : Hid (¬(l ≠ [] ∧ (lastM ⟨-1, 0⟩ l).t = now)) := fun h => hm (HMT.out.symm.trans h.2)
                    have hmb : (mt == now) = false := by rw [beq_eq_false_iff_ne]; exact hm
                    clear hm
                    go_wp2_with (at_builtin; go_must (refine wpList_append_elem w4 rfl (.tmp 111) (.tmp 115) _ rfl (w1.heap.size + 1) 74 i0 _ 2 16 Try.underlying22 HI.out.1 HI.out.2.1 HI.out.2.2.1 HI.out.2.2.2 rfl (by omega) (.slice (some ⟨g, 0, none⟩) (j + 1) c2) (j + 1) (l.flatMap encM) #[.int .i64 now, .int .i64 (TT + k)] rfl rfl rfl HO4.out (one2 _ _) (by simp only [maxLen]; omega) (by omega) (by omega) ?_; intro v5 w5 h5 hb5; obtain ⟨A5, c5, rfl, _, _, _⟩ := own_slice h5; have H5 := Lib.hid (And.intro h5 hb5); clear h5 hb5))
                    have h5e : w5.ownsRow (w1.heap.size + 1) 74 2 (.slice A5 ((j + 1) + 1) c5) ((j + 1) + 1) ((l ++ [(⟨now, TT + k⟩ : Mk)]).flatMap encM) := by
                      have h9 := H5.out.1
                      rw [List.flatMap_append]
                      exact h9
                    have hTi5 := tidy_any A5 ((j + 1) + 1) c5 (TT - b) (l ++ [⟨now, TT + k⟩]) w5 (Reads.of_own h5e) (by omega)
                    rw [tidyM_snoc HML.out.1] at hTi5
                    have HTi5 := Lib.hid hTi5
                    clear h5e hTi5
                    refine HTi5.out.mono ?_
                    rintro e w6 ⟨⟨v6, rfl, hown6⟩, hb6⟩
                    have hb5 := H5.out.2
                    have HR6 := Lib.hid ((HR4.out.below hb5 (by omega)).below hb6 (by have := hb5.size; omega))
                    have HC6 := Lib.hid ((HC4.out.below hb5 (by omega)).below hb6 (by have := hb5.size; omega))
                    have HT6 := Lib.hid ((HT4.out.below hb5 (by omega)).below hb6 (by have := hb5.size; omega))
                    have HB6 := Lib.hid ((HB4.out.trans (hb5.mono (by omega))).trans (hb6.mono (by have := hb5.size; have := HB4.out.size; omega)))
                    have hs5 := hb5.size
                    obtain ⟨A6, c6, rfl, hnc6, hcm6, _⟩ := own_slice hown6
                    have hown6' := own_base hown6 (show w1.heap.size + 1 ≤ w5.heap.size by omega)
                    have hlen6 : ((l.drop (openM (TT - b) l) ++ [(⟨now, TT + k⟩ : Mk)]).length : Int) ≤ 4096 := by
                      rw [List.length_append, List.length_drop, HL.out, List.length_singleton]; omega
                    have HF := Lib.hid (And.intro hown6' (And.intro hnc6 hcm6))
                    clear f0 f1 f2 f3 f4 e0 e1 e2 e3 e4 y3 y4 g0 g1 g2 g3 g4 z0 z1 z2 z3 z4 lT lC lR hown6 hown6' hnc6 hcm6 hb5 hb6
                    obtain ⟨f0, f1, f2, f3, f4, _⟩ := blk5 (Below.refl _ w6) HT6.out HT6.out.lt
                    obtain ⟨e0, e1, e2, e3, e4, _⟩ := blk5 (Below.refl _ w6) HC6.out HC6.out.lt
                    obtain ⟨g0, g1, g2, g3, g4, _⟩ := blk5 (Below.refl _ w6) HR6.out HR6.out.lt
                    have y3 := HC6.out.frozen 3
                    have y4 := HC6.out.frozen 4
                    have z0 := HR6.out.frozen 0
                    have z1 := HR6.out.frozen 1
                    have z2 := HR6.out.frozen 2
                    have z3 := HR6.out.frozen 3
                    have z4 := HR6.out.frozen 4
                    have lT := HT6.out.lt
                    have lC := HC6.out.lt
                    have lR := HR6.out.lt
                    have HNP : w1.heap.size ≠ w.heap.size + 1 := by omega
                    have HNQ : w.heap.size + 1 ≠ w1.heap.size := by omega
                    have HNR : w.heap.size ≠ w1.heap.size := by omega
                    obtain ⟨n6, hn6⟩ : ∃ n6, (l.drop (openM (TT - b) l) ++ [(⟨now, TT + k⟩ : Mk)]).length = n6 := ⟨_, rfl⟩
                    rw [hn6] at hlen6 HF ⊢
                    clear hn6
                    go_wp2_with fail
                    have hK9 := set5 (x := .int .i64 o) (y := .int .i64 r) (z := .int .i64 now) (u := .int .i64 (b + k)) (v := .slice A6 n6 c6) ((HR6.out.far (p := ⟨w1.heap.size, 4, none⟩) HNQ (.slice A6 n6 c6)).far (p := ⟨w1.heap.size, 3, none⟩) HNQ (.int .i64 (b + k)))
                    refine bodyPost_ret (results_cell_tmp2 rfl _ _ _ _ _ _ rfl hK9 Try.underlying24 rfl info24) rfl ?_
                    rw [HW9.out]
                    refine ⟨⟨_, rfl, A6, n6, c6, rfl, ?_, HF.out.2⟩, bel5 ((HB6.out.setCell (p := ⟨w1.heap.size, 4, none⟩) (show w.heap.size ≤ w1.heap.size by omega) _).setCell (p := ⟨w1.heap.size, 3, none⟩) (show w.heap.size ≤ w1.heap.size by omega) _) (by omega)⟩
                    have hne : ∀ ad, A6 = some ad → w1.heap.size + 1 ≤ ad.block := fun ad h => own_block_ge HF.out.1 ad.block (by rw [h]; rfl)
                    show RdM _ A6 n6 (admL now b k l)
                    rw [show admL now b k l = l.drop (openM (TT - b) l) ++ [⟨now, TT + k⟩] by rw [admL, if_neg HLN.out, HTT.out]]
                    exact RdM.far5 (RdM.far1 (RdM.far1 (show RdM w6 A6 n6 _ from Reads.of_own HF.out.1) (p := ⟨w1.heap.size, 4, none⟩) (fun ad h => by have := hne ad h; show ad.block ≠ w1.heap.size; omega) _) (p := ⟨w1.heap.size, 3, none⟩) (fun ad h => by have := hne ad h; show ad.block ≠ w1.heap.size; omega) _) (fun ad h => by have := hne ad h; omega)
              · have HW9 : Hid (writeR ⟨o, r, t, b, l⟩ now k = (Th.zero, 0, 11)) := by rw [Hid, HWR.out, if_pos ⟨hk1, hk2⟩, if_pos hkB, if_pos hbk, if_neg hT]
                go_enter Try.func18, Try.ntmps18
                go_wp2_with fail
                rw [HW.out]
                refine HCk.out.mono ?_
                rintro e w1 ⟨rfl, hb1⟩
                have HT1 := Lib.hid (HT0.out.below hb1 HT0.out.lt)
                have HR1 := Lib.hid (HR0.out.below hb1 HR0.out.lt)
                have HB1 := Lib.hid (HB0.out.trans (hb1.mono HB0.out.size))
                have hs1 := hb1.size
                obtain ⟨f0, f1, f2, f3, f4, _⟩ := blk5 (Below.refl _ w1) HT1.out HT1.out.lt
                have lT := HT1.out.lt
                clear hb1
                have hb2a : Below w1.heap.size w1 (w1.alloc (.cells #[.int .i64 o, .int .i64 r, .int .i64 now, .int .i64 b, .slice A n c] 24)) := (Below.refl _ w1).alloc (Nat.le_refl _) _
                have HC1 : Hid (Blk (w1.alloc (.cells #[.int .i64 o, .int .i64 r, .int .i64 now, .int .i64 b, .slice A n c] 24)) w1.heap.size 24 #[.int .i64 o, .int .i64 r, .int .i64 now, .int .i64 b, .slice A n c]) := Blk.new _ _ _
                have HTi := Lib.hid (tidy_any A n c 0 l _ (HRD.out.up (HB1.out.trans (hb2a.mono HB1.out.size))) hn)
                rw [tidyM_all HML.out.1 (Int.le_refl 0)] at HTi
                have HB1a := Lib.hid hb2a
                clear hb2a
                go_wp2_with fail
                refine HTi.out.mono ?_
                rintro e w2 ⟨⟨v2, rfl, hown⟩, hb2⟩
                have hs2 := hb2.size
                rw [World.size_alloc] at hs2
                have hbw : Below w1.heap.size w1 w2 := HB1a.out.trans (hb2.mono HB1a.out.size)
                have HC2 := Lib.hid (HC1.out.below hb2 HC1.out.lt)
                have HT2 := Lib.hid (HT1.out.below hbw HT1.out.lt)
                have HR2 := Lib.hid (HR1.out.below hbw HR1.out.lt)
                have HB2 := Lib.hid (HB1.out.trans (hbw.mono HB1.out.size))
                have hown : w2.ownsRow (w1.heap.size + 1) 74 2 v2 l.length (l.flatMap encM) := by rw [World.size_alloc] at hown; exact hown
                have HO2 := Lib.hid hown
                have HL := Lib.hid HRD.out.len
                obtain ⟨A2, c2, rfl, hnc2, hcm2, _⟩ := own_slice hown
                rw [HL.out] at HO2 hnc2 ⊢
                obtain ⟨f0, f1, f2, f3, f4, _⟩ := blk5 (Below.refl _ w2) HT2.out HT2.out.lt
                obtain ⟨e0, e1, e2, e3, e4, _⟩ := blk5 (Below.refl _ w2) HC2.out HC2.out.lt
                have y3 := HC2.out.frozen 3
                have y4 := HC2.out.frozen 4
                have lT2 := HT2.out.lt
                have lC2 := HC2.out.lt
                clear hown hb2 hbw
                go_wp2_with fail
                have hbb : w.heap.size + 2 ≤ w1.heap.size := by omega
                have hCX := HC2.out.set_ 4 (.slice A2 n c2)
                change Blk _ _ _ #[.int .i64 o, .int .i64 r, .int .i64 now, .int .i64 b, .slice A2 n c2] at hCX
                have hTX := HT2.out.far (p := ⟨w1.heap.size, 4, none⟩) (show w.heap.size ≠ w1.heap.size by omega) (.slice A2 n c2)
                have hRX := HR2.out.far (p := ⟨w1.heap.size, 4, none⟩) (show w.heap.size + 1 ≠ w1.heap.size by omega) (.slice A2 n c2)
                have hBX := HB2.out.setCell (p := ⟨w1.heap.size, 4, none⟩) (show w.heap.size ≤ w1.heap.size by omega) (.slice A2 n c2)
                have hOX := own_far HO2.out (p := ⟨w1.heap.size, 4, none⟩) (fun h => by have := own_block_ge HO2.out w1.heap.size h; omega) (.slice A2 n c2)
                obtain ⟨X, hX⟩ : ∃ X, w2.setCell ⟨w1.heap.size, 4, none⟩ (.slice A2 n c2) = X := ⟨_, rfl⟩
                rw [hX] at hCX hTX hRX hBX hOX ⊢
                have HX := Lib.hid (And.intro hCX (And.intro hTX (And.intro hRX (And.intro hBX hOX))))
                clear hX f0 f1 f2 f3 f4 e0 e1 e2 e3 e4 y3 y4 lT2 lC2
                obtain ⟨f0, f1, f2, f3, f4, _⟩ := blk5 (Below.refl _ X) hTX hTX.lt
                obtain ⟨e0, e1, e2, e3, e4, _⟩ := blk5 (Below.refl _ X) hCX hCX.lt
                have lT := hTX.lt
                have lC := hCX.lt
                have lR := hRX.lt
                clear hCX hTX hBX hOX
                have hTo := fun w9 (h9 : Below X.heap.size X w9) => refTotal_any o r t b A n c l w9 ((HRD.out.up HX.out.2.2.2.1).up h9) hn
                obtain ⟨TT, hTT⟩ : ∃ TT, totM l = TT := ⟨_, rfl⟩
                have HTT := Lib.hid hTT
                rw [hTT] at hTo hT b2 t2
                have HTo := Lib.hid hTo
                clear hTo hTT
                go_wp2_with fail
                refine (HTo.out _ (Below.refl _ X)).mono ?_
                rintro e w3 ⟨rfl, hb3⟩
                have HT3 := Lib.hid (HX.out.2.1.below hb3 HX.out.2.1.lt)
                have HC3 := Lib.hid (HX.out.1.below hb3 HX.out.1.lt)
                have HR3 := Lib.hid (HX.out.2.2.1.below hb3 HX.out.2.2.1.lt)
                have HB3 := Lib.hid (HX.out.2.2.2.1.trans (hb3.mono HX.out.2.2.2.1.size))
                have HO3 := Lib.hid (own_below HX.out.2.2.2.2 hb3)
                have HB33 := Lib.hid hb3
                clear f0 f1 f2 f3 f4 e0 e1 e2 e3 e4 lT lC lR hRX
                obtain ⟨f0, f1, f2, f3, f4, _⟩ := blk5 (Below.refl _ w3) HT3.out HT3.out.lt
                obtain ⟨e0, e1, e2, e3, e4, _⟩ := blk5 (Below.refl _ w3) HC3.out HC3.out.lt
                have lT := HT3.out.lt
                have lC := HC3.out.lt
                clear hb3
                have hk := HR3.out
                obtain ⟨g0, g1, g2, g3, g4, _⟩ := blk5 (Below.refl _ w3) hk hk.lt
                have z0 := hk.frozen 0
                have z1 := hk.frozen 1
                have z2 := hk.frozen 2
                have z3 := hk.frozen 3
                have z4 := hk.frozen 4
                have l1 := hk.lt
                clear hk
                go_wp2_with fail
                refine bodyPost_ret (results_cell_tmp2 rfl _ _ _ _ _ _ rfl (set5 HR3.out) Try.underlying24 rfl info24) rfl ?_
                rw [HW9.out]
                exact ⟨⟨_, rfl, ThR.zero _⟩, bel5 HB3.out (by omega)⟩
            · have HW9 : Hid (writeR ⟨o, r, t, b, l⟩ now k = (⟨o, r, now, b, l⟩, (b + k - B + r - 1) / r, 0)) := by rw [Hid, HWR.out, if_pos ⟨hk1, hk2⟩, if_pos hkB, if_neg hbk]
              go_enter Try.func18, Try.ntmps18
              go_wp2_with fail
              rw [HW.out]
              refine HCk.out.mono ?_
              rintro e w1 ⟨rfl, hb1⟩
              have HT1 := Lib.hid (HT0.out.below hb1 HT0.out.lt)
              have HR1 := Lib.hid (HR0.out.below hb1 HR0.out.lt)
              have HB1 := Lib.hid (HB0.out.trans (hb1.mono HB0.out.size))
              have hs1 := hb1.size
              obtain ⟨f0, f1, f2, f3, f4, _⟩ := blk5 (Below.refl _ w1) HT1.out HT1.out.lt
              have lT := HT1.out.lt
              clear hb1
              have hb2a : Below w1.heap.size w1 (w1.alloc (.cells #[.int .i64 o, .int .i64 r, .int .i64 now, .int .i64 b, .slice A n c] 24)) := (Below.refl _ w1).alloc (Nat.le_refl _) _
              have HC1 : Hid (Blk (w1.alloc (.cells #[.int .i64 o, .int .i64 r, .int .i64 now, .int .i64 b, .slice A n c] 24)) w1.heap.size 24 #[.int .i64 o, .int .i64 r, .int .i64 now, .int .i64 b, .slice A n c]) := Blk.new _ _ _
              have HTi := Lib.hid (tidy_any A n c 0 l _ (HRD.out.up (HB1.out.trans (hb2a.mono HB1.out.size))) hn)
              rw [tidyM_all HML.out.1 (Int.le_refl 0)] at HTi
              have HB1a := Lib.hid hb2a
              clear hb2a
              go_wp2_with fail
              refine HTi.out.mono ?_
              rintro e w2 ⟨⟨v2, rfl, hown⟩, hb2⟩
              have hs2 := hb2.size
              rw [World.size_alloc] at hs2
              have hbw : Below w1.heap.size w1 w2 := HB1a.out.trans (hb2.mono HB1a.out.size)
              have HC2 := Lib.hid (HC1.out.below hb2 HC1.out.lt)
              have HT2 := Lib.hid (HT1.out.below hbw HT1.out.lt)
              have HR2 := Lib.hid (HR1.out.below hbw HR1.out.lt)
              have HB2 := Lib.hid (HB1.out.trans (hbw.mono HB1.out.size))
              have hown : w2.ownsRow (w1.heap.size + 1) 74 2 v2 l.length (l.flatMap encM) := by rw [World.size_alloc] at hown; exact hown
              have HO2 := Lib.hid hown
              have HL := Lib.hid HRD.out.len
              obtain ⟨A2, c2, rfl, hnc2, hcm2, _⟩ := own_slice hown
              rw [HL.out] at HO2 hnc2 ⊢
              obtain ⟨f0, f1, f2, f3, f4, _⟩ := blk5 (Below.refl _ w2) HT2.out HT2.out.lt
              obtain ⟨e0, e1, e2, e3, e4, _⟩ := blk5 (Below.refl _ w2) HC2.out HC2.out.lt
              have y3 := HC2.out.frozen 3
              have y4 := HC2.out.frozen 4
              have lT2 := HT2.out.lt
              have lC2 := HC2.out.lt
              clear hown hb2 hbw
              go_wp2_with fail
              have hbb : w.heap.size + 2 ≤ w1.heap.size := by omega
              have hCX := HC2.out.set_ 4 (.slice A2 n c2)
              change Blk _ _ _ #[.int .i64 o, .int .i64 r, .int .i64 now, .int .i64 b, .slice A2 n c2] at hCX
              have hTX := HT2.out.far (p := ⟨w1.heap.size, 4, none⟩) (show w.heap.size ≠ w1.heap.size by omega) (.slice A2 n c2)
              have hRX := HR2.out.far (p := ⟨w1.heap.size, 4, none⟩) (show w.heap.size + 1 ≠ w1.heap.size by omega) (.slice A2 n c2)
              have hBX := HB2.out.setCell (p := ⟨w1.heap.size, 4, none⟩) (show w.heap.size ≤ w1.heap.size by omega) (.slice A2 n c2)
              have hOX := own_far HO2.out (p := ⟨w1.heap.size, 4, none⟩) (fun h => by have := own_block_ge HO2.out w1.heap.size h; omega) (.slice A2 n c2)
              obtain ⟨X, hX⟩ : ∃ X, w2.setCell ⟨w1.heap.size, 4, none⟩ (.slice A2 n c2) = X := ⟨_, rfl⟩
              rw [hX] at hCX hTX hRX hBX hOX ⊢
              have HX := Lib.hid (And.intro hCX (And.intro hTX (And.intro hRX (And.intro hBX hOX))))
              clear hX f0 f1 f2 f3 f4 e0 e1 e2 e3 e4 y3 y4 lT2 lC2
              obtain ⟨f0, f1, f2, f3, f4, _⟩ := blk5 (Below.refl _ X) hTX hTX.lt
              obtain ⟨e0, e1, e2, e3, e4, _⟩ := blk5 (Below.refl _ X) hCX hCX.lt
              have lT := hTX.lt
              have lC := hCX.lt
              have lR := hRX.lt
              clear hCX hTX hBX hOX
              obtain ⟨g0, g1, g2, g3, g4, _⟩ := blk5 (Below.refl _ X) hRX hRX.lt
              have z0 := hRX.frozen 0
              have z1 := hRX.frozen 1
              have z2 := hRX.frozen 2
              have z3 := hRX.frozen 3
              have z4 := hRX.frozen 4
              obtain ⟨D, hD⟩ : ∃ D, (b + k + r - 1) / r = D := ⟨_, rfl⟩
              have hD0 : 0 ≤ D := by rw [← hD]; exact Int.ediv_nonneg (by omega) (by omega)
              have hD1 : D ≤ b + k + r - 1 := by rw [← hD]; exact Int.ediv_le_self _ (by omega)
              have hwa : IntKind.i64.wrap (b + k) = b + k := IntWalk.i64_in _ (by omega)
              have hw1 : IntKind.i64.wrap (b + k + r) = b + k + r := IntWalk.i64_in _ (by omega)
              have hw2 : IntKind.i64.wrap (b + k + r - 1) = b + k + r - 1 := IntWalk.i64_in _ (by omega)
              have hw3 : IntKind.i64.wrap ((b + k + r - 1).tdiv r) = D := by rw [Int.tdiv_eq_ediv_of_nonneg (by omega), hD]; exact IntWalk.i64_in _ (by omega)
              have hw4 : IntKind.i64.wrap (D - o) = D - o := IntWalk.i64_in _ (by omega)
              have HV : Hid (IntKind.i64.wrap (IntKind.i64.wrap ((IntKind.i64.wrap (IntKind.i64.wrap (IntKind.i64.wrap (b + k) + r) - 1)).tdiv r) - o) = (b + k - B + r - 1) / r) := by rw [Hid, hwa, hw1, hw2, hw3, hw4, ← HDL.out, hD]
              have HV2 : Hid (IntKind.i64.wrap (IntKind.i64.wrap ((IntKind.i64.wrap (IntKind.i64.wrap (b + k + r) - 1)).tdiv r) - o) = (b + k - B + r - 1) / r) := by rw [Hid, hw1, hw2, hw3, hw4, ← HDL.out, hD]
              have HV3 : Hid (D - o = (b + k - B + r - 1) / r) := by rw [Hid, ← HDL.out, hD]
              have hr0 : ¬ r = 0 := by omega
              have HNP : w1.heap.size ≠ w.heap.size + 1 := by omega
              have HNQ : w.heap.size ≠ w.heap.size + 1 := by omega
              clear hwa hD hD0 hD1 hRX
              go_region_held3 (fun w' => w'.cell? ⟨w1.heap.size, 0, none⟩ = some (.int .i64 o) ∧ w'.cell? ⟨w1.heap.size, 1, none⟩ = some (.int .i64 r) ∧ w'.cell? ⟨w1.heap.size, 2, none⟩ = some (.int .i64 now) ∧ w'.cell? ⟨w1.heap.size, 3, none⟩ = some (.int .i64 b) ∧ w'.cell? ⟨w1.heap.size, 4, none⟩ = some (.slice A2 n c2) ∧ w'.cell? ⟨w.heap.size, 0, none⟩ = some (.int .i64 o) ∧ w'.cell? ⟨w.heap.size, 1, none⟩ = some (.int .i64 r) ∧ w'.cell? ⟨w.heap.size, 2, none⟩ = some (.int .i64 t) ∧ w'.cell? ⟨w.heap.size, 3, none⟩ = some (.int .i64 b) ∧ w'.cell? ⟨w.heap.size, 4, none⟩ = some (.slice A n c))
                (first
                  | with_reducible exact cells55 HX.out.1.drew HX.out.2.1.drew
                  | with_reducible exact cells55 (Blk.drew (Blk.far5 HX.out.1 HNP)) (Blk.drew (Blk.far5 HX.out.2.1 HNQ)))
                (fail)
              rename_i hS2
              clear hS2
              go_wp2_with fail
              refine bodyPost_ret (results_cell_tmp2 rfl _ _ _ _ _ _ rfl (Blk.drew (set5 HX.out.2.2.1)) Try.underlying24 rfl info24) rfl ?_
              rw [HW9.out]
              obtain ⟨_, _, hAe, hnc9, hcm9, hR9⟩ := own_slice HX.out.2.2.2.2
              injection hAe with eA _ ec
              subst eA ec
              refine ⟨⟨_, (by first | exact congrArg (fun q => Ending.returned (.tuple #[.agg #[.int .i64 o, .int .i64 r, .int .i64 now, .int .i64 b, .slice A2 n c2], .int .i64 q, .int .i64 0])) HV.out | exact congrArg (fun q => Ending.returned (.tuple #[.agg #[.int .i64 o, .int .i64 r, .int .i64 now, .int .i64 b, .slice A2 n c2], .int .i64 q, .int .i64 0])) HV2.out | exact congrArg (fun q => Ending.returned (.tuple #[.agg #[.int .i64 o, .int .i64 r, .int .i64 now, .int .i64 b, .slice A2 n c2], .int .i64 q, .int .i64 0])) HV3.out), A2, n, c2, rfl, ?_, hnc9, hcm9⟩, (bel5 HX.out.2.2.2.1 (by omega)).drew⟩
              exact RdM.drew (RdM.far5 (show RdM X A2 n l from hR9) (fun ad h => by
                have := own_block_ge HX.out.2.2.2.2 ad.block (by rw [h]; rfl)
                omega))
          · have HW9 : Hid (writeR ⟨o, r, t, b, l⟩ now k = (Th.zero, 0, 21)) := by rw [Hid, HWR.out, if_pos ⟨hk1, hk2⟩, if_neg hkB]
            go_enter Try.func18, Try.ntmps18
            go_wp2_with fail
            rw [HW.out]
            refine HCk.out.mono ?_
            rintro e w1 ⟨rfl, hb1⟩
            have HT1 := Lib.hid (HT0.out.below hb1 HT0.out.lt)
            have HR1 := Lib.hid (HR0.out.below hb1 HR0.out.lt)
            have HB1 := Lib.hid (HB0.out.trans (hb1.mono HB0.out.size))
            have hs1 := hb1.size
            obtain ⟨f0, f1, f2, f3, f4, _⟩ := blk5 (Below.refl _ w1) HT1.out HT1.out.lt
            have lT := HT1.out.lt
            clear hb1
            have hk := HR1.out
            obtain ⟨g0, g1, g2, g3, g4, _⟩ := blk5 (Below.refl _ w1) hk hk.lt
            have z0 := hk.frozen 0
            have z1 := hk.frozen 1
            have z2 := hk.frozen 2
            have z3 := hk.frozen 3
            have z4 := hk.frozen 4
            have l1 := hk.lt
            clear hk
            go_wp2_with fail
            refine bodyPost_ret (results_cell_tmp2 rfl _ _ _ _ _ _ rfl (set5 HR1.out) Try.underlying24 rfl info24) rfl ?_
            rw [HW9.out]
            exact ⟨⟨_, rfl, ThR.zero _⟩, bel5 HB1.out (by omega)⟩
        · have HW9 : Hid (writeR ⟨o, r, t, b, l⟩ now k = (Th.zero, 0, 2)) := by rw [Hid, HWR.out, if_neg (by omega)]
          go_enter Try.func18, Try.ntmps18
          go_wp2_with fail
          rw [HW.out]
          refine HCk.out.mono ?_
          rintro e w1 ⟨rfl, hb1⟩
          have HT1 := Lib.hid (HT0.out.below hb1 HT0.out.lt)
          have HR1 := Lib.hid (HR0.out.below hb1 HR0.out.lt)
          have HB1 := Lib.hid (HB0.out.trans (hb1.mono HB0.out.size))
          have hs1 := hb1.size
          obtain ⟨f0, f1, f2, f3, f4, _⟩ := blk5 (Below.refl _ w1) HT1.out HT1.out.lt
          have lT := HT1.out.lt
          clear hb1
          have hk := HR1.out
          obtain ⟨g0, g1, g2, g3, g4, _⟩ := blk5 (Below.refl _ w1) hk hk.lt
          have z0 := hk.frozen 0
          have z1 := hk.frozen 1
          have z2 := hk.frozen 2
          have z3 := hk.frozen 3
          have z4 := hk.frozen 4
          have l1 := hk.lt
          clear hk
          go_wp2_with fail
          refine bodyPost_ret (results_cell_tmp2 rfl _ _ _ _ _ _ rfl (set5 HR1.out) Try.underlying24 rfl info24) rfl ?_
          rw [HW9.out]
          exact ⟨⟨_, rfl, ThR.zero _⟩, bel5 HB1.out (by omega)⟩
      · have HW9 : Hid (writeR ⟨o, r, t, b, l⟩ now k = (Th.zero, 0, 2)) := by rw [Hid, HWR.out, if_neg (by omega)]
        go_enter Try.func18, Try.ntmps18
        go_wp2_with fail
        rw [HW.out]
        refine HCk.out.mono ?_
        rintro e w1 ⟨rfl, hb1⟩
        have HT1 := Lib.hid (HT0.out.below hb1 HT0.out.lt)
        have HR1 := Lib.hid (HR0.out.below hb1 HR0.out.lt)
        have HB1 := Lib.hid (HB0.out.trans (hb1.mono HB0.out.size))
        have hs1 := hb1.size
        obtain ⟨f0, f1, f2, f3, f4, _⟩ := blk5 (Below.refl _ w1) HT1.out HT1.out.lt
        have lT := HT1.out.lt
        clear hb1
        have hk := HR1.out
        obtain ⟨g0, g1, g2, g3, g4, _⟩ := blk5 (Below.refl _ w1) hk hk.lt
        have z0 := hk.frozen 0
        have z1 := hk.frozen 1
        have z2 := hk.frozen 2
        have z3 := hk.frozen 3
        have z4 := hk.frozen 4
        have l1 := hk.lt
        clear hk
        go_wp2_with fail
        refine bodyPost_ret (results_cell_tmp2 rfl _ _ _ _ _ _ rfl (set5 HR1.out) Try.underlying24 rfl info24) rfl ?_
        rw [HW9.out]
        exact ⟨⟨_, rfl, ThR.zero _⟩, bel5 HB1.out (by omega)⟩
    · have HW9 : Hid (writeR ⟨o, r, t, b, l⟩ now k = (Th.zero, 0, 24)) := by
        have h9 : advE o r t b l now = 24 := by
          rw [advE, if_pos hce]
          have : betwB now t 1073741824 = false := by
            rw [Bool.eq_false_iff]; intro h; simp only [betwB, decide_eq_true_eq] at h; exact hnow h
          rw [this]; rfl
        rw [Hid, writeR, if_neg (by show ¬ advE o r t b l now = 0; rw [h9]; decide)]
        show (Th.zero, 0, advE o r t b l now) = _
        rw [h9]
      clear hce
      by_cases hn1 : t ≤ now
      · have hn2 : ¬ now ≤ 1073741824 := fun h => hnow ⟨hn1, h⟩
        clear hnow
        go_enter Try.func18, Try.ntmps18
        go_wp2_with fail
        rw [HW.out]
        refine HCk.out.mono ?_
        rintro e w1 ⟨rfl, hb1⟩
        have HT1 := Lib.hid (HT0.out.below hb1 HT0.out.lt)
        have HR1 := Lib.hid (HR0.out.below hb1 HR0.out.lt)
        have HB1 := Lib.hid (HB0.out.trans (hb1.mono HB0.out.size))
        have hs1 := hb1.size
        obtain ⟨f0, f1, f2, f3, f4, _⟩ := blk5 (Below.refl _ w1) HT1.out HT1.out.lt
        have lT := HT1.out.lt
        clear hb1
        have hk := HR1.out
        obtain ⟨g0, g1, g2, g3, g4, _⟩ := blk5 (Below.refl _ w1) hk hk.lt
        have z0 := hk.frozen 0
        have z1 := hk.frozen 1
        have z2 := hk.frozen 2
        have z3 := hk.frozen 3
        have z4 := hk.frozen 4
        have l1 := hk.lt
        clear hk
        go_wp2_with fail
        refine bodyPost_ret (results_cell_tmp2 rfl _ _ _ _ _ _ rfl (set5 HR1.out) Try.underlying24 rfl info24) rfl ?_
        rw [HW9.out]
        exact ⟨⟨_, rfl, ThR.zero _⟩, bel5 HB1.out (by omega)⟩
      · clear hnow
        go_enter Try.func18, Try.ntmps18
        go_wp2_with fail
        rw [HW.out]
        refine HCk.out.mono ?_
        rintro e w1 ⟨rfl, hb1⟩
        have HT1 := Lib.hid (HT0.out.below hb1 HT0.out.lt)
        have HR1 := Lib.hid (HR0.out.below hb1 HR0.out.lt)
        have HB1 := Lib.hid (HB0.out.trans (hb1.mono HB0.out.size))
        have hs1 := hb1.size
        obtain ⟨f0, f1, f2, f3, f4, _⟩ := blk5 (Below.refl _ w1) HT1.out HT1.out.lt
        have lT := HT1.out.lt
        clear hb1
        have hk := HR1.out
        obtain ⟨g0, g1, g2, g3, g4, _⟩ := blk5 (Below.refl _ w1) hk hk.lt
        have z0 := hk.frozen 0
        have z1 := hk.frozen 1
        have z2 := hk.frozen 2
        have z3 := hk.frozen 3
        have z4 := hk.frozen 4
        have l1 := hk.lt
        clear hk
        go_wp2_with fail
        refine bodyPost_ret (results_cell_tmp2 rfl _ _ _ _ _ _ rfl (set5 HR1.out) Try.underlying24 rfl info24) rfl ?_
        rw [HW9.out]
        exact ⟨⟨_, rfl, ThR.zero _⟩, bel5 HB1.out (by omega)⟩
  · have HW9 : Hid (writeR ⟨o, r, t, b, l⟩ now k = (Th.zero, 0, ce)) := by
      have h9 : advE o r t b l now = ce := by rw [advE, if_neg (by rw [hce]; exact hc0), hce]
      rw [Hid, writeR, if_neg (by show ¬ advE o r t b l now = 0; rw [h9]; exact hc0)]
      show (Th.zero, 0, advE o r t b l now) = _
      rw [h9]
    have hc0' : (ce != 0) = true := by simpa using hc0
    clear hce
    go_enter Try.func18, Try.ntmps18
    go_wp2_with fail
    rw [HW.out]
    refine HCk.out.mono ?_
    rintro e w1 ⟨rfl, hb1⟩
    have HT1 := Lib.hid (HT0.out.below hb1 HT0.out.lt)
    have HR1 := Lib.hid (HR0.out.below hb1 HR0.out.lt)
    have HB1 := Lib.hid (HB0.out.trans (hb1.mono HB0.out.size))
    have hs1 := hb1.size
    obtain ⟨f0, f1, f2, f3, f4, _⟩ := blk5 (Below.refl _ w1) HT1.out HT1.out.lt
    have lT := HT1.out.lt
    clear hb1
    have hk := HR1.out
    obtain ⟨g0, g1, g2, g3, g4, _⟩ := blk5 (Below.refl _ w1) hk hk.lt
    have z0 := hk.frozen 0
    have z1 := hk.frozen 1
    have z2 := hk.frozen 2
    have z3 := hk.frozen 3
    have z4 := hk.frozen 4
    have l1 := hk.lt
    clear hk
    go_wp2_with fail
    refine bodyPost_ret (results_cell_tmp2 rfl _ _ _ _ _ _ rfl (set5 HR1.out) Try.underlying24 rfl info24) rfl ?_
    rw [HW9.out]
    exact ⟨⟨_, rfl, ThR.zero _⟩, bel5 HB1.out (by omega)⟩
end Go.Proofs.Ythkpkjigfaannaa
