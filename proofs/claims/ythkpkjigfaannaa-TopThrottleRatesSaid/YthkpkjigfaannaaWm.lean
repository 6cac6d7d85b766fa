/- The walk of Progress once more: its marks are new. Condition: at most 1000 marks. -/
import Derived.Test.YthkpkjigfaannaaWl
import Derived.Test.YthkpkjigfaannaaWj
namespace Go.Proofs.Ythkpkjigfaannaa
open Go.RowKit
def ProF (B : Nat) (R : Th × Int) (e : Ending) (w' : World) : Prop := ∃ v, e = .returned (.tuple #[v, .int .i64 R.2]) ∧ ThF B w' v R.1
set_option linter.unusedSimpArgs false in
set_option maxRecDepth 100000 in
set_option maxHeartbeats 4000000 in
theorem Progress_fresh (T : Th) (now x : Int) (A : Option Addr) (n c : Nat) (w : World) (hR : RdM w A n T.l) (hn : n ≤ 1000) :
    Calls Try.prog 20 #[.agg #[.int .i64 T.o, .int .i64 T.r, .int .i64 T.t, .int .i64 T.b, .slice A n c], .int .i64 now, .int .i64 x] w fun e w' => ProF w.heap.size (progR T now x) e w' ∧ Below w.heap.size w w' := by
  obtain ⟨o, r, t, b, l⟩ := T
  dsimp only at hR ⊢
  obtain ⟨W0, hW0⟩ : ∃ W0, ((w.alloc (.cells #[.int .i64 o, .int .i64 r, .int .i64 t, .int .i64 b, .slice A n c] 24)).alloc (.cells #[.int .i64 0, .int .i64 0, .int .i64 0, .int .i64 0, .slice none 0 0] 24)).alloc (.cells #[.int .i64 o, .int .i64 r, .int .i64 t, .int .i64 b, .slice A n c] 76) = W0 := ⟨_, rfl⟩
  have hB0 : Below w.heap.size w W0 := by rw [← hW0]; exact (((Below.refl _ w).alloc (Nat.le_refl _) _).alloc (by simp) _).alloc (by simp; omega) _
  have hs0 : W0.heap.size = w.heap.size + 3 := by rw [← hW0]; simp
  have hP0 : Blk W0 (w.heap.size + 2) 76 #[.int .i64 o, .int .i64 r, .int .i64 t, .int .i64 b, .slice A n c] := by
    have := Blk.new ((w.alloc (.cells #[.int .i64 o, .int .i64 r, .int .i64 t, .int .i64 b, .slice A n c] 24)).alloc (.cells #[.int .i64 0, .int .i64 0, .int .i64 0, .int .i64 0, .slice none 0 0] 24)) 76 #[.int .i64 o, .int .i64 r, .int .i64 t, .int .i64 b, .slice A n c]
    simp only [World.size_alloc] at this
    rw [← hW0]; exact this
  have hR0 : Blk W0 (w.heap.size + 1) 24 #[.int .i64 0, .int .i64 0, .int .i64 0, .int .i64 0, .slice none 0 0] := by
    have := (Blk.new (w.alloc (.cells #[.int .i64 o, .int .i64 r, .int .i64 t, .int .i64 b, .slice A n c] 24)) 24 #[.int .i64 0, .int .i64 0, .int .i64 0, .int .i64 0, .slice none 0 0]).alloc (.cells #[.int .i64 o, .int .i64 r, .int .i64 t, .int .i64 b, .slice A n c] 76)
    rw [World.size_alloc] at this
    rw [← hW0]; exact this
  have hAdv := advance_any (w.heap.size + 2) o r t b now A n c l W0 hP0 ((hR.below hB0).more (by omega)) hn
  obtain ⟨ae, hae⟩ : ∃ ae, advE o r t b l now = ae := ⟨_, rfl⟩
  rw [hae] at hAdv
  have HAdv := Lib.hid hAdv
  have HW := Lib.hid hW0
  have HR0 := Lib.hid hR0
  have HB0 := Lib.hid hB0
  have HLen := Lib.hid hR.len
  have hTa : Th.adv ⟨o, r, t, b, l⟩ now = ae := hae
  clear hAdv hW0 hR0 hB0 hP0 hae hR
  by_cases ha0 : ae = 0
  · subst ha0
    obtain ⟨hck, tn1, tn2⟩ := adv_zero (show advE o r t b l now = 0 from hTa)
    obtain ⟨_, _, _, _, b1, b2, t2, _⟩ := chk_zero hck
    have hPR : progR ⟨o, r, t, b, l⟩ now x = if totM l - b ≤ x ∧ x ≤ totM l then (⟨o, r, now, totM l - x, progL x l⟩, 0) else (Th.zero, 2) := by rw [progR, if_pos hTa]
    have HPR := Lib.hid hPR
    clear hTa hck hPR
    have hCo := fun A' c' w9 hR9 => confirmed_any o r now b A' n c' l w9 hR9 hn b1 (by omega) (by omega) t2
    have hTo := fun b' A' c' w9 hR9 => total_any o r now b' A' n c' l w9 hR9 hn
    obtain ⟨TT, hTT⟩ : ∃ TT, totM l = TT := ⟨_, rfl⟩
    have HTT := Lib.hid hTT
    rw [hTT] at hCo hTo b2 t2 HPR
    have HCo := Lib.hid hCo
    have HTo := Lib.hid hTo
    clear hTT hCo hTo
    by_cases hx : TT - b ≤ x ∧ x ≤ TT
    · have HBT : Hid (betwB x (TT - b) TT = true) := by simp [Hid, betwB]; omega
      have HW9 : Hid (progR ⟨o, r, t, b, l⟩ now x = (⟨o, r, now, TT - x, progL x l⟩, 0)) := by rw [Hid, HPR.out, if_pos hx]
      obtain ⟨x1, x2⟩ := hx
      go_enter Try.func20, Try.ntmps20
      go_wp2_with fail
      rw [HW.out]
      refine HAdv.out.mono ?_
      rintro e w1 ⟨rfl, hb1, hxx⟩
      obtain ⟨A', c', hkP, hown⟩ := hxx trivial
      have HKP := Lib.hid hkP
      have HOW := Lib.hid hown
      have HR1 := Lib.hid (HR0.out.below hb1 (by omega))
      have HB1 := Lib.hid (HB0.out.trans (hb1.mono (by omega)))
      obtain ⟨f0, f1, f2, f3, f4, _⟩ := blk5 (Below.refl _ w1) hkP hkP.lt
      have lP := hkP.lt
      have HRD := Lib.hid (show RdM w1 A' n l from Reads.of_own hown)
      clear hxx hkP hown hb1
      go_wp2_with fail
      go_region_held3 (fun w' => w'.cell? ⟨w.heap.size + 2, 0, none⟩ = some (.int .i64 o) ∧ w'.cell? ⟨w.heap.size + 2, 1, none⟩ = some (.int .i64 r) ∧ w'.cell? ⟨w.heap.size + 2, 2, none⟩ = some (.int .i64 now) ∧ w'.cell? ⟨w.heap.size + 2, 3, none⟩ = some (.int .i64 b) ∧ w'.cell? ⟨w.heap.size + 2, 4, none⟩ = some (.slice A' n c') ∧ Below w1.heap.size w1 w')
        (first
          | exact blk5 ((Below.refl _ w1).drew) HKP.out lP
          | (go_split_ands; refine blk5 (below_step ?_ hb') HKP.out lP; assumption)
          | (go_split_ands; refine ⟨?_, ?_, ?_, ?_, ?_, ?_⟩ <;> assumption))
        (first
          | (go_at_call 32; refine (HCo.out _ _ _ (HRD.out.up ?_)).mono ?_; (go_split_ands; assumption); rintro e w' ⟨rfl, hb'⟩)
          | (go_at_call 30; refine (HTo.out _ _ _ _ (HRD.out.up ?_)).mono ?_; (go_split_ands; assumption); rintro e w' ⟨rfl, hb'⟩)
          | (go_at_call 29; refine (between_any x _ _ _).mono ?_; rintro e w' ⟨rfl, rfl⟩; rw [HBT.out]))
      all_goals
        rename_i hS
        have hbw := hS.2.2.2.2.2
        generalize w' = w3 at *
        have HKP3 := Lib.hid (HKP.out.below hbw HKP.out.lt)
        have HOW3 := Lib.hid (own_below HOW.out hbw)
        have HR3 := Lib.hid (HR1.out.below hbw HR1.out.lt)
        have HB3 := Lib.hid (HB1.out.trans (hbw.mono HB1.out.size))
        clear hbw hS f0 f1 f2 f3 f4 lP
        obtain ⟨f0, f1, f2, f3, f4, _⟩ := blk5 (Below.refl _ w3) HKP3.out HKP3.out.lt
        have lP3 := HKP3.out.lt
      go_wp2_with fail
      refine (HTo.out b A' c' w3 (Reads.of_own HOW3.out)).mono ?_
      rintro e w4 ⟨rfl, hb4⟩
      have hkP4 := HKP3.out.below hb4 HKP3.out.lt
      have hR4 := HR3.out.below hb4 HR3.out.lt
      have hB4 := HB3.out.trans (hb4.mono HB3.out.size)
      have hO4 := own_below HOW3.out hb4
      clear f0 f1 f2 f3 f4 lP3 hb4
      obtain ⟨f0, f1, f2, f3, f4, _⟩ := blk5 (Below.refl _ w4) hkP4 hkP4.lt
      have y3 := hkP4.frozen 3
      have lP4 := hkP4.lt
      have hKX := hkP4.set_ 3 (.int .i64 (TT - x))
      change Blk _ _ _ #[.int .i64 o, .int .i64 r, .int .i64 now, .int .i64 (TT - x), .slice A' n c'] at hKX
      have hRX := hR4.far (p := ⟨w.heap.size + 2, 3, none⟩) (show w.heap.size + 1 ≠ w.heap.size + 2 by omega) (.int .i64 (TT - x))
      have hBX := hB4.setCell (p := ⟨w.heap.size + 2, 3, none⟩) (show w.heap.size ≤ w.heap.size + 2 by omega) (.int .i64 (TT - x))
      have hOX := own_far hO4 (p := ⟨w.heap.size + 2, 3, none⟩) (fun h => by have h9 : _ ≤ w.heap.size + 2 := own_block_ge hO4 _ h; omega) (.int .i64 (TT - x))
      obtain ⟨_, _, hAe, hnc9, hcm9, hRDX⟩ := own_slice hOX
      injection hAe with eA _ ec
      subst eA ec
      have HKX := Lib.hid hKX
      have HRX := Lib.hid hRX
      have HBX := Lib.hid hBX
      have HOX := Lib.hid hOX
      have HRDX := Lib.hid (show RdM _ A' n l from hRDX)
      clear hkP4 hR4 hB4 hO4 hBX hOX hRDX
      by_cases hn0 : n = 0
      · subst hn0
        have hln : l = [] := List.eq_nil_of_length_eq_zero HLen.out
        have HPL : Hid (progL x l = l) := by rw [hln]; rfl
        clear hln
        obtain ⟨e0, e1, e2, e3, e4, _⟩ := blk5 (Below.refl _ _) hKX hKX.lt
        obtain ⟨g0, g1, g2, g3, g4, _⟩ := blk5 (Below.refl _ _) hRX hRX.lt
        have z0 := hRX.frozen 0
        have z1 := hRX.frozen 1
        have z2 := hRX.frozen 2
        have z3 := hRX.frozen 3
        have z4 := hRX.frozen 4
        have l1 := hRX.lt
        have l2 := hKX.lt
        have hg1 := HR3.out
        clear hKX hRX hg1
        go_wp2_with fail
        refine bodyPost_ret (results_cell_tmp rfl _ _ _ _ _ _ rfl (set5 HRX.out) Try.underlying24 rfl info24) rfl ?_
        rw [HW9.out]
        refine ⟨⟨_, rfl, A', 0, c', rfl, ?_, hnc9, hcm9, fun ad h => by have := own_block_ge HOX.out ad.block (by rw [h]; rfl); omega⟩, bel5 HBX.out (by omega)⟩
        show RdM _ _ _ (progL x l)
        rw [HPL.out]
        exact RdM.far5 HRDX.out (fun ad h => by have := own_block_ge HOX.out ad.block (by rw [h]; rfl); omega)
      · obtain ⟨j, rfl⟩ : ∃ j, n = j + 1 := ⟨n - 1, by omega⟩
        obtain ⟨g, cap, _, hv, hgb, _, _, _, _, _⟩ := own_blk HOX.out (by omega)
        injection hv with eA _ ec2
        subst eA ec2
        have hOp := fun w9 (h9 : Below _ (w4.setCell ⟨w.heap.size + 2, 3, none⟩ (.int .i64 (TT - x))) w9) => open_any o r now (TT - x) _ _ c' l x w9 (HRDX.out.up h9) hn
        obtain ⟨q, hq⟩ : ∃ q, openM x l = q := ⟨_, rfl⟩
        rw [hq] at hOp
        have hq0 : q ≤ j + 1 := by rw [← hq, ← HLen.out]; exact openM_le _ _
        have jw : IntKind.i64.wrap ((j : Int) + 1 - 1) = j := by rw [IntWalk.i64_in _ (by omega)]; omega
        have jw2 : IntKind.i64.wrap (j : Int) = j := IntWalk.i64_in _ (by omega)
        have hjp : (0 : Int) < (j : Int) + 1 := by omega
        have hpl : progL x l = l.drop (min q j) := by rw [progL, hq, HLen.out, Nat.add_sub_cancel]
        clear hKX hRX hq
        go_wp2_with fail
        obtain ⟨X0, hX0⟩ : ∃ X0, w4.setCell ⟨w.heap.size + 2, 3, none⟩ (.int .i64 (TT - x)) = X0 := ⟨_, rfl⟩
        rw [hX0] at HKX HRX HBX HOX HRDX hOp ⊢
        have HOp := Lib.hid hOp
        clear hX0 hOp f0 f1 f2 f3 f4 y3
        by_cases hqj : q ≤ j
        · have HPL : Hid (progL x l = l.drop q) := by rw [Hid, hpl, Nat.min_eq_left hqj]
          have hqi : (q : Int) ≤ j := by omega
          have hnlt : ¬ j < q := by omega
          have hcq : ¬ c' = q := by omega
          have hqj1 : (q : Int) ≤ (j : Int) + 1 := by omega
          clear hpl
          refine wp_region_snoc_lit (S := fun w' => w'.cell? ⟨w.heap.size + 2, 0, none⟩ = some (.int .i64 o) ∧ w'.cell? ⟨w.heap.size + 2, 1, none⟩ = some (.int .i64 r) ∧ w'.cell? ⟨w.heap.size + 2, 2, none⟩ = some (.int .i64 now) ∧ w'.cell? ⟨w.heap.size + 2, 3, none⟩ = some (.int .i64 (TT - x)) ∧ w'.cell? ⟨w.heap.size + 2, 4, none⟩ = some (.slice (some ⟨g, 0, none⟩) (j + 1) c') ∧ Below X0.heap.size X0 w') _ rfl (by kernel_rfl) (by kernel_rfl) (blk5 ((Below.refl _ X0).drew) HKX.out HKX.out.lt) (fun hHeld => ?_)
          simp only [List.dropLast]
          refine wpAnyH_take (i := 0) (oi := _) (v := ?_) rfl (by kernel_rfl) (by kernel_rfl) (by kernel_rfl) (fun _ _ _ h => h) (Or.inl ⟨by rfl, ?_⟩) (by assumption) ?_
          rotate_left 1
          · (intro w9 hS9; (try dsimp only at hS9); go_simp <;> with_reducible rfl)
          try simp only [List.getElem_toArray, List.getElem_cons_succ, List.getElem_cons_zero, Act.put, List.setIfInBounds_toArray, List.set_cons_zero, List.set_cons_succ]
          refine wpAnyH_take (i := 1) (oi := _) (v := ?_) rfl (by kernel_rfl) (by kernel_rfl) (by kernel_rfl) (fun _ _ _ h => h) (Or.inl ⟨by rfl, ?_⟩) (by assumption) ?_
          rotate_left 1
          · (intro w9 hS9; (try dsimp only at hS9); go_simp <;> with_reducible rfl)
          try simp only [List.getElem_toArray, List.getElem_cons_succ, List.getElem_cons_zero, Act.put, List.setIfInBounds_toArray, List.set_cons_zero, List.set_cons_succ]
          refine wpAnyH_take (i := 2) (oi := _) (v := ?_) rfl (by kernel_rfl) (by kernel_rfl) (by kernel_rfl) (fun _ _ _ h => h) (Or.inl ⟨by rfl, ?_⟩) (by assumption) ?_
          rotate_left 1
          · (intro w9 hS9; (try dsimp only at hS9); go_simp <;> with_reducible rfl)
          try simp only [List.getElem_toArray, List.getElem_cons_succ, List.getElem_cons_zero, Act.put, List.setIfInBounds_toArray, List.set_cons_zero, List.set_cons_succ]
          refine wpAnyH_take (i := 3) (oi := _) (v := ?_) rfl (by kernel_rfl) (by kernel_rfl) (by kernel_rfl) (fun _ _ _ h => h) (Or.inl ⟨by rfl, ?_⟩) (by assumption) ?_
          rotate_left 1
          · (intro w9 hS9; (try dsimp only at hS9); go_simp <;> with_reducible rfl)
          try simp only [List.getElem_toArray, List.getElem_cons_succ, List.getElem_cons_zero, Act.put, List.setIfInBounds_toArray, List.set_cons_zero, List.set_cons_succ]
          refine wpAnyH_take (i := 4) (oi := _) (v := ?_) rfl (by kernel_rfl) (by kernel_rfl) (by kernel_rfl) (fun _ _ _ h => h) (Or.inl ⟨by rfl, ?_⟩) (by assumption) ?_
          rotate_left 1
          · (intro w9 hS9; (try dsimp only at hS9); go_simp <;> with_reducible rfl)
          try simp only [List.getElem_toArray, List.getElem_cons_succ, List.getElem_cons_zero, Act.put, List.setIfInBounds_toArray, List.set_cons_zero, List.set_cons_succ]
          refine wpAnyH_take (i := 6) (oi := _) (v := ?_) rfl (by kernel_rfl) (by kernel_rfl) (by kernel_rfl) (fun _ _ _ h => h) (Or.inl ⟨by rfl, ?_⟩) (by assumption) ?_
          rotate_left 1
          · (intro w9 hS9; (try dsimp only at hS9); go_simp <;> with_reducible rfl)
          try simp only [List.getElem_toArray, List.getElem_cons_succ, List.getElem_cons_zero, Act.put, List.setIfInBounds_toArray, List.set_cons_zero, List.set_cons_succ]
          refine wpAnyH_take (i := 7) (oi := _) (v := ?_) rfl (by kernel_rfl) (by kernel_rfl) (by kernel_rfl) (fun _ _ _ h => h) (Or.inl ⟨by rfl, ?_⟩) (by assumption) ?_
          rotate_left 1
          · (intro w9 hS9; (try dsimp only at hS9); go_simp <;> with_reducible rfl)
          try simp only [List.getElem_toArray, List.getElem_cons_succ, List.getElem_cons_zero, Act.put, List.setIfInBounds_toArray, List.set_cons_zero, List.set_cons_succ]
          refine wpAnyH_ready (rs := [5]) (by kernel_rfl) (by simp) ?_
          refine AllReadyH.cons (o := _) rfl (fun K hK => ?_) AllReadyH.nil
          try simp only [List.getElem_toArray, List.getElem_cons_succ, List.getElem_cons_zero]
          go_simp
          refine (HOp.out _ ((Below.refl _ X0).drew)).mono ?_
          rintro e w' ⟨rfl, hb'⟩
          go_wp2_with fail
          have hb6 : Below X0.heap.size X0 w' := ((Below.refl _ X0).drew).trans hb'
          refine hK.out _ _ (blk5 hb6 HKX.out HKX.out.lt) (fun hHeld => ?_)
          clear hK K hb'
          try simp only [List.getElem_toArray, List.getElem_cons_succ, List.getElem_cons_zero, Act.put, List.setIfInBounds_toArray, List.set_cons_zero, List.set_cons_succ]
          refine wpAnyH_take (i := 8) (oi := _) (v := ?_) rfl (by kernel_rfl) (by kernel_rfl) (by kernel_rfl) (fun _ _ _ h => h) (Or.inl ⟨by rfl, ?_⟩) (by assumption) ?_
          rotate_left 1
          · (intro w9 hS9; (try dsimp only at hS9); go_simp <;> with_reducible rfl)
          try simp only [List.getElem_toArray, List.getElem_cons_succ, List.getElem_cons_zero, Act.put, List.setIfInBounds_toArray, List.set_cons_zero, List.set_cons_succ]
          refine wpAnyH_take (i := 9) (oi := _) (v := ?_) rfl (by kernel_rfl) (by kernel_rfl) (by kernel_rfl) (fun _ _ _ h => h) (Or.inl ⟨by rfl, ?_⟩) (by assumption) ?_
          rotate_left 1
          · (intro w9 hS9; (try dsimp only at hS9); go_simp <;> with_reducible rfl)
          try simp only [List.getElem_toArray, List.getElem_cons_succ, List.getElem_cons_zero, Act.put, List.setIfInBounds_toArray, List.set_cons_zero, List.set_cons_succ]
          refine wpAnyH_take (i := 10) (oi := _) (v := ?_) rfl (by kernel_rfl) (by kernel_rfl) (by kernel_rfl) (fun _ _ _ h => h) (Or.inl ⟨by rfl, ?_⟩) (by assumption) ?_
          rotate_left 1
          · (intro w9 hS9; (try dsimp only at hS9); go_simp <;> with_reducible rfl)
          try simp only [List.getElem_toArray, List.getElem_cons_succ, List.getElem_cons_zero, Act.put, List.setIfInBounds_toArray, List.set_cons_zero, List.set_cons_succ]
          refine wpAnyH_take (i := 11) (oi := _) (v := ?_) rfl (by kernel_rfl) (by kernel_rfl) (by kernel_rfl) (fun _ _ _ h => h) (Or.inl ⟨by rfl, ?_⟩) (by assumption) ?_
          rotate_left 1
          · (intro w9 hS9; (try dsimp only at hS9); go_simp <;> with_reducible rfl)
          try simp only [List.getElem_toArray, List.getElem_cons_succ, List.getElem_cons_zero, Act.put, List.setIfInBounds_toArray, List.set_cons_zero, List.set_cons_succ]
          refine wpAnyH_done (by kernel_rfl) ?_ _
          refine snocQ_normal rfl ?_
          have hkP6 := HKX.out.below hb6 HKX.out.lt
          have HR6 := Lib.hid (HRX.out.below hb6 HRX.out.lt)
          have HB6 := Lib.hid (HBX.out.trans (hb6.mono HBX.out.size))
          have HRD6 := Lib.hid (HRDX.out.up hb6)
          have hk := HR6.out
          obtain ⟨f0, f1, f2, f3, f4, _⟩ := blk5 (Below.refl _ w') hkP6 hkP6.lt
          obtain ⟨g0, g1, g2, g3, g4, _⟩ := blk5 (Below.refl _ w') hk hk.lt
          have y4 := hkP6.frozen 4
          have z0 := hk.frozen 0
          have z1 := hk.frozen 1
          have z2 := hk.frozen 2
          have z3 := hk.frozen 3
          have z4 := hk.frozen 4
          have l1 := hk.lt
          have l2 := hkP6.lt
          clear hk hkP6 hHeld hb6
          go_wp2_with fail
          have hK9 := set5 (x := .int .i64 o) (y := .int .i64 r) (z := .int .i64 now) (u := .int .i64 (TT - x)) (v := .slice (some ⟨g, q * 2, none⟩) (j + 1 - q) (c' - q)) (HR6.out.far (p := ⟨w.heap.size + 2, 4, none⟩) (show w.heap.size + 1 ≠ w.heap.size + 2 by omega) (.slice (some ⟨g, q * 2, none⟩) (j + 1 - q) (c' - q)))
          refine bodyPost_ret (results_cell_tmp rfl _ _ _ _ _ _ rfl hK9 Try.underlying24 rfl info24) rfl ?_
          rw [HW9.out]
          refine ⟨⟨_, rfl, some ⟨g, q * 2, none⟩, (j + 1 - q), c' - q, rfl, ?_, by omega, by omega, fun ad h => by injection h with h; rw [← h]; exact (show w.heap.size ≤ g by omega)⟩, bel5 (HB6.out.setCell (p := ⟨w.heap.size + 2, 4, none⟩) (show w.heap.size ≤ w.heap.size + 2 by omega) _) (by omega)⟩
          show RdM _ _ _ (progL x l)
          rw [HPL.out]
          have hdr := HRD6.out.drop q (by omega)
          rw [show j + 1 - q = (j + 1 - q) by omega] at hdr
          exact RdM.far5 (RdM.far1 hdr (p := ⟨w.heap.size + 2, 4, none⟩) (fun ad h => by injection h with h; rw [← h]; exact (show g ≠ w.heap.size + 2 by omega)) _) (fun ad h => by injection h with h; rw [← h]; exact (show g ≠ w.heap.size + 1 by omega))
        · obtain rfl : q = j + 1 := by omega
          have HPL : Hid (progL x l = l.drop j) := by rw [Hid, hpl, Nat.min_eq_right (by omega)]
          have hqi : (j : Int) < (j : Int) + 1 := by omega
          have hcq : ¬ c' = j := by omega
          have hqj1 : (j : Int) ≤ (j : Int) + 1 := by omega
          clear hpl
          refine wp_region_snoc_lit (S := fun w' => w'.cell? ⟨w.heap.size + 2, 0, none⟩ = some (.int .i64 o) ∧ w'.cell? ⟨w.heap.size + 2, 1, none⟩ = some (.int .i64 r) ∧ w'.cell? ⟨w.heap.size + 2, 2, none⟩ = some (.int .i64 now) ∧ w'.cell? ⟨w.heap.size + 2, 3, none⟩ = some (.int .i64 (TT - x)) ∧ w'.cell? ⟨w.heap.size + 2, 4, none⟩ = some (.slice (some ⟨g, 0, none⟩) (j + 1) c') ∧ Below X0.heap.size X0 w') _ rfl (by kernel_rfl) (by kernel_rfl) (blk5 ((Below.refl _ X0).drew) HKX.out HKX.out.lt) (fun hHeld => ?_)
          simp only [List.dropLast]
          refine wpAnyH_take (i := 0) (oi := _) (v := ?_) rfl (by kernel_rfl) (by kernel_rfl) (by kernel_rfl) (fun _ _ _ h => h) (Or.inl ⟨by rfl, ?_⟩) (by assumption) ?_
          rotate_left 1
          · (intro w9 hS9; (try dsimp only at hS9); go_simp <;> with_reducible rfl)
          try simp only [List.getElem_toArray, List.getElem_cons_succ, List.getElem_cons_zero, Act.put, List.setIfInBounds_toArray, List.set_cons_zero, List.set_cons_succ]
          refine wpAnyH_take (i := 1) (oi := _) (v := ?_) rfl (by kernel_rfl) (by kernel_rfl) (by kernel_rfl) (fun _ _ _ h => h) (Or.inl ⟨by rfl, ?_⟩) (by assumption) ?_
          rotate_left 1
          · (intro w9 hS9; (try dsimp only at hS9); go_simp <;> with_reducible rfl)
          try simp only [List.getElem_toArray, List.getElem_cons_succ, List.getElem_cons_zero, Act.put, List.setIfInBounds_toArray, List.set_cons_zero, List.set_cons_succ]
          refine wpAnyH_take (i := 2) (oi := _) (v := ?_) rfl (by kernel_rfl) (by kernel_rfl) (by kernel_rfl) (fun _ _ _ h => h) (Or.inl ⟨by rfl, ?_⟩) (by assumption) ?_
          rotate_left 1
          · (intro w9 hS9; (try dsimp only at hS9); go_simp <;> with_reducible rfl)
          try simp only [List.getElem_toArray, List.getElem_cons_succ, List.getElem_cons_zero, Act.put, List.setIfInBounds_toArray, List.set_cons_zero, List.set_cons_succ]
          refine wpAnyH_take (i := 3) (oi := _) (v := ?_) rfl (by kernel_rfl) (by kernel_rfl) (by kernel_rfl) (fun _ _ _ h => h) (Or.inl ⟨by rfl, ?_⟩) (by assumption) ?_
          rotate_left 1
          · (intro w9 hS9; (try dsimp only at hS9); go_simp <;> with_reducible rfl)
          try simp only [List.getElem_toArray, List.getElem_cons_succ, List.getElem_cons_zero, Act.put, List.setIfInBounds_toArray, List.set_cons_zero, List.set_cons_succ]
          refine wpAnyH_take (i := 4) (oi := _) (v := ?_) rfl (by kernel_rfl) (by kernel_rfl) (by kernel_rfl) (fun _ _ _ h => h) (Or.inl ⟨by rfl, ?_⟩) (by assumption) ?_
          rotate_left 1
          · (intro w9 hS9; (try dsimp only at hS9); go_simp <;> with_reducible rfl)
          try simp only [List.getElem_toArray, List.getElem_cons_succ, List.getElem_cons_zero, Act.put, List.setIfInBounds_toArray, List.set_cons_zero, List.set_cons_succ]
          refine wpAnyH_take (i := 6) (oi := _) (v := ?_) rfl (by kernel_rfl) (by kernel_rfl) (by kernel_rfl) (fun _ _ _ h => h) (Or.inl ⟨by rfl, ?_⟩) (by assumption) ?_
          rotate_left 1
          · (intro w9 hS9; (try dsimp only at hS9); go_simp <;> with_reducible rfl)
          try simp only [List.getElem_toArray, List.getElem_cons_succ, List.getElem_cons_zero, Act.put, List.setIfInBounds_toArray, List.set_cons_zero, List.set_cons_succ]
          refine wpAnyH_take (i := 7) (oi := _) (v := ?_) rfl (by kernel_rfl) (by kernel_rfl) (by kernel_rfl) (fun _ _ _ h => h) (Or.inl ⟨by rfl, ?_⟩) (by assumption) ?_
          rotate_left 1
          · (intro w9 hS9; (try dsimp only at hS9); go_simp <;> with_reducible rfl)
          try simp only [List.getElem_toArray, List.getElem_cons_succ, List.getElem_cons_zero, Act.put, List.setIfInBounds_toArray, List.set_cons_zero, List.set_cons_succ]
          refine wpAnyH_ready (rs := [5]) (by kernel_rfl) (by simp) ?_
          refine AllReadyH.cons (o := _) rfl (fun K hK => ?_) AllReadyH.nil
          try simp only [List.getElem_toArray, List.getElem_cons_succ, List.getElem_cons_zero]
          go_simp
          refine (HOp.out _ ((Below.refl _ X0).drew)).mono ?_
          rintro e w' ⟨rfl, hb'⟩
          go_wp2_with fail
          have hb6 : Below X0.heap.size X0 w' := ((Below.refl _ X0).drew).trans hb'
          refine hK.out _ _ (blk5 hb6 HKX.out HKX.out.lt) (fun hHeld => ?_)
          clear hK K hb'
          try simp only [List.getElem_toArray, List.getElem_cons_succ, List.getElem_cons_zero, Act.put, List.setIfInBounds_toArray, List.set_cons_zero, List.set_cons_succ]
          refine wpAnyH_take (i := 8) (oi := _) (v := ?_) rfl (by kernel_rfl) (by kernel_rfl) (by kernel_rfl) (fun _ _ _ h => h) (Or.inl ⟨by rfl, ?_⟩) (by assumption) ?_
          rotate_left 1
          · (intro w9 hS9; (try dsimp only at hS9); go_simp <;> with_reducible rfl)
          try simp only [List.getElem_toArray, List.getElem_cons_succ, List.getElem_cons_zero, Act.put, List.setIfInBounds_toArray, List.set_cons_zero, List.set_cons_succ]
          refine wpAnyH_take (i := 9) (oi := _) (v := ?_) rfl (by kernel_rfl) (by kernel_rfl) (by kernel_rfl) (fun _ _ _ h => h) (Or.inl ⟨by rfl, ?_⟩) (by assumption) ?_
          rotate_left 1
          · (intro w9 hS9; (try dsimp only at hS9); go_simp <;> with_reducible rfl)
          try simp only [List.getElem_toArray, List.getElem_cons_succ, List.getElem_cons_zero, Act.put, List.setIfInBounds_toArray, List.set_cons_zero, List.set_cons_succ]
          refine wpAnyH_take (i := 10) (oi := _) (v := ?_) rfl (by kernel_rfl) (by kernel_rfl) (by kernel_rfl) (fun _ _ _ h => h) (Or.inl ⟨by rfl, ?_⟩) (by assumption) ?_
          rotate_left 1
          · (intro w9 hS9; (try dsimp only at hS9); go_simp <;> with_reducible rfl)
          try simp only [List.getElem_toArray, List.getElem_cons_succ, List.getElem_cons_zero, Act.put, List.setIfInBounds_toArray, List.set_cons_zero, List.set_cons_succ]
          refine wpAnyH_take (i := 11) (oi := _) (v := ?_) rfl (by kernel_rfl) (by kernel_rfl) (by kernel_rfl) (fun _ _ _ h => h) (Or.inl ⟨by rfl, ?_⟩) (by assumption) ?_
          rotate_left 1
          · (intro w9 hS9; (try dsimp only at hS9); go_simp <;> with_reducible rfl)
          try simp only [List.getElem_toArray, List.getElem_cons_succ, List.getElem_cons_zero, Act.put, List.setIfInBounds_toArray, List.set_cons_zero, List.set_cons_succ]
          refine wpAnyH_done (by kernel_rfl) ?_ _
          refine snocQ_normal rfl ?_
          have hkP6 := HKX.out.below hb6 HKX.out.lt
          have HR6 := Lib.hid (HRX.out.below hb6 HRX.out.lt)
          have HB6 := Lib.hid (HBX.out.trans (hb6.mono HBX.out.size))
          have HRD6 := Lib.hid (HRDX.out.up hb6)
          have hk := HR6.out
          obtain ⟨f0, f1, f2, f3, f4, _⟩ := blk5 (Below.refl _ w') hkP6 hkP6.lt
          obtain ⟨g0, g1, g2, g3, g4, _⟩ := blk5 (Below.refl _ w') hk hk.lt
          have y4 := hkP6.frozen 4
          have z0 := hk.frozen 0
          have z1 := hk.frozen 1
          have z2 := hk.frozen 2
          have z3 := hk.frozen 3
          have z4 := hk.frozen 4
          have l1 := hk.lt
          have l2 := hkP6.lt
          clear hk hkP6 hHeld hb6
          go_wp2_with fail
          have hK9 := set5 (x := .int .i64 o) (y := .int .i64 r) (z := .int .i64 now) (u := .int .i64 (TT - x)) (v := .slice (some ⟨g, j * 2, none⟩) 1 (c' - j)) (HR6.out.far (p := ⟨w.heap.size + 2, 4, none⟩) (show w.heap.size + 1 ≠ w.heap.size + 2 by omega) (.slice (some ⟨g, j * 2, none⟩) 1 (c' - j)))
          refine bodyPost_ret (results_cell_tmp rfl _ _ _ _ _ _ rfl hK9 Try.underlying24 rfl info24) rfl ?_
          rw [HW9.out]
          refine ⟨⟨_, rfl, some ⟨g, j * 2, none⟩, 1, c' - j, rfl, ?_, by omega, by omega, fun ad h => by injection h with h; rw [← h]; exact (show w.heap.size ≤ g by omega)⟩, bel5 (HB6.out.setCell (p := ⟨w.heap.size + 2, 4, none⟩) (show w.heap.size ≤ w.heap.size + 2 by omega) _) (by omega)⟩
          show RdM _ _ _ (progL x l)
          rw [HPL.out]
          have hdr := HRD6.out.drop j (by omega)
          rw [show j + 1 - j = 1 by omega] at hdr
          exact RdM.far5 (RdM.far1 hdr (p := ⟨w.heap.size + 2, 4, none⟩) (fun ad h => by injection h with h; rw [← h]; exact (show g ≠ w.heap.size + 2 by omega)) _) (fun ad h => by injection h with h; rw [← h]; exact (show g ≠ w.heap.size + 1 by omega))
    · have HBT : Hid (betwB x (TT - b) TT = false) := by rw [Hid, Bool.eq_false_iff]; intro h; simp only [betwB, decide_eq_true_eq] at h; exact hx h
      have HW9 : Hid (progR ⟨o, r, t, b, l⟩ now x = (Th.zero, 2)) := by rw [Hid, HPR.out, if_neg hx]
      clear hx
      go_enter Try.func20, Try.ntmps20
      go_wp2_with fail
      rw [HW.out]
      refine HAdv.out.mono ?_
      rintro e w1 ⟨rfl, hb1, hxx⟩
      obtain ⟨A', c', hkP, hown⟩ := hxx trivial
      have HKP := Lib.hid hkP
      have HOW := Lib.hid hown
      have HR1 := Lib.hid (HR0.out.below hb1 (by omega))
      have HB1 := Lib.hid (HB0.out.trans (hb1.mono (by omega)))
      obtain ⟨f0, f1, f2, f3, f4, _⟩ := blk5 (Below.refl _ w1) hkP hkP.lt
      have lP := hkP.lt
      have HRD := Lib.hid (show RdM w1 A' n l from Reads.of_own hown)
      clear hxx hkP hown hb1
      go_wp2_with fail
      go_region_held3 (fun w' => w'.cell? ⟨w.heap.size + 2, 0, none⟩ = some (.int .i64 o) ∧ w'.cell? ⟨w.heap.size + 2, 1, none⟩ = some (.int .i64 r) ∧ w'.cell? ⟨w.heap.size + 2, 2, none⟩ = some (.int .i64 now) ∧ w'.cell? ⟨w.heap.size + 2, 3, none⟩ = some (.int .i64 b) ∧ w'.cell? ⟨w.heap.size + 2, 4, none⟩ = some (.slice A' n c') ∧ Below w1.heap.size w1 w')
        (first
          | exact blk5 ((Below.refl _ w1).drew) HKP.out lP
          | (go_split_ands; refine blk5 (below_step ?_ hb') HKP.out lP; assumption)
          | (go_split_ands; refine ⟨?_, ?_, ?_, ?_, ?_, ?_⟩ <;> assumption))
        (first
          | (go_at_call 32; refine (HCo.out _ _ _ (HRD.out.up ?_)).mono ?_; (go_split_ands; assumption); rintro e w' ⟨rfl, hb'⟩)
          | (go_at_call 30; refine (HTo.out _ _ _ _ (HRD.out.up ?_)).mono ?_; (go_split_ands; assumption); rintro e w' ⟨rfl, hb'⟩)
          | (go_at_call 29; refine (between_any x _ _ _).mono ?_; rintro e w' ⟨rfl, rfl⟩; rw [HBT.out]))
      all_goals
        rename_i hS
        have hbw := hS.2.2.2.2.2
        generalize w' = w3 at *
        have HKP3 := Lib.hid (HKP.out.below hbw HKP.out.lt)
        have HOW3 := Lib.hid (own_below HOW.out hbw)
        have HR3 := Lib.hid (HR1.out.below hbw HR1.out.lt)
        have HB3 := Lib.hid (HB1.out.trans (hbw.mono HB1.out.size))
        clear hbw hS f0 f1 f2 f3 f4 lP
        obtain ⟨f0, f1, f2, f3, f4, _⟩ := blk5 (Below.refl _ w3) HKP3.out HKP3.out.lt
        have lP3 := HKP3.out.lt
      have hk := HR3.out
      obtain ⟨g0, g1, g2, g3, g4, _⟩ := blk5 (Below.refl _ w3) hk hk.lt
      have z0 := hk.frozen 0
      have z1 := hk.frozen 1
      have z2 := hk.frozen 2
      have z3 := hk.frozen 3
      have z4 := hk.frozen 4
      have l1 := hk.lt
      clear hk
      go_wp2_with fail
      refine bodyPost_ret (results_cell_tmp rfl _ _ _ _ _ _ rfl (set5 HR3.out) Try.underlying24 rfl info24) rfl ?_
      rw [HW9.out]
      exact ⟨⟨_, rfl, ThF.zero _ _⟩, bel5 HB3.out (by omega)⟩
  · have HW9 : Hid (progR ⟨o, r, t, b, l⟩ now x = (Th.zero, ae)) := by rw [Hid, progR, if_neg (by rw [hTa]; exact ha0), hTa]
    have ha0' : (ae != 0) = true := by simpa using ha0
    clear hTa
    go_enter Try.func20, Try.ntmps20
    go_wp2_with fail
    rw [HW.out]
    refine HAdv.out.mono ?_
    rintro e w3 ⟨rfl, hb1, _⟩
    have HR3 := Lib.hid (HR0.out.below hb1 (by omega))
    have HB3 := Lib.hid (HB0.out.trans (hb1.mono (by omega)))
    clear hb1
    have hk := HR3.out
    obtain ⟨g0, g1, g2, g3, g4, _⟩ := blk5 (Below.refl _ w3) hk hk.lt
    have z0 := hk.frozen 0
    have z1 := hk.frozen 1
    have z2 := hk.frozen 2
    have z3 := hk.frozen 3
    have z4 := hk.frozen 4
    have l1 := hk.lt
    clear hk
    go_wp2_with fail
    refine bodyPost_ret (results_cell_tmp rfl _ _ _ _ _ _ rfl (set5 HR3.out) Try.underlying24 rfl info24) rfl ?_
    rw [HW9.out]
    exact ⟨⟨_, rfl, ThF.zero _ _⟩, bel5 HB3.out (by omega)⟩
end Go.Proofs.Ythkpkjigfaannaa
