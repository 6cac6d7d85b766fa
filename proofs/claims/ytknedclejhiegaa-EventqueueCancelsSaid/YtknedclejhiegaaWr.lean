/- The walk of the reference's Pop. Condition: at most 4096 events. -/
import Derived.Test.YtknedclejhiegaaWq
namespace Go.Proofs.Ytknedclejhiegaa
open Go.RowKit
set_option linter.unusedSimpArgs false in
set_option maxRecDepth 100000 in
set_option maxHeartbeats 8000000 in
theorem refPop_any (A : Option Addr) (m c : Nat) (l : List Ev) (nx : Int) (w : World) (hR : Evs w A m l) (hm : m ≤ 4096) (hp : ∀ e ∈ l, e.p.length ≤ 100000) :
    Calls Try.prog 25 #[.agg #[.slice A m c, .int .i64 nx]] w (PopR w (popQ (l.map Ev.em) nx)) := by
  have hlen := hR.count
  have hb0 : Below w.heap.size w (((w.alloc (.cells #[.slice A m c, .int .i64 nx] 24)).alloc (.cells #[.slice none 0 0, .int .i64 0] 24)).alloc (.cells #[.int .i64 0, .int .i64 0, .int .i64 0, .int .i64 0, .slice none 0 0] 32)) := ((((Below.refl _ _).alloc (Nat.le_refl _) _).alloc (by simp) _).alloc (by simp only [World.size_alloc]; omega) _)
  have g0 : Blk (((w.alloc (.cells #[.slice A m c, .int .i64 nx] 24)).alloc (.cells #[.slice none 0 0, .int .i64 0] 24)).alloc (.cells #[.int .i64 0, .int .i64 0, .int .i64 0, .int .i64 0, .slice none 0 0] 32)) w.heap.size 24 #[.slice A m c, .int .i64 nx] := (((Blk.new w 24 #[.slice A m c, .int .i64 nx]).alloc _).alloc _)
  have g1 : Blk (((w.alloc (.cells #[.slice A m c, .int .i64 nx] 24)).alloc (.cells #[.slice none 0 0, .int .i64 0] 24)).alloc (.cells #[.int .i64 0, .int .i64 0, .int .i64 0, .int .i64 0, .slice none 0 0] 32)) (w.alloc (.cells #[.slice A m c, .int .i64 nx] 24)).heap.size 24 #[.slice none 0 0, .int .i64 0] := ((Blk.new (w.alloc (.cells #[.slice A m c, .int .i64 nx] 24)) 24 #[.slice none 0 0, .int .i64 0]).alloc _)
  have g2 : Blk (((w.alloc (.cells #[.slice A m c, .int .i64 nx] 24)).alloc (.cells #[.slice none 0 0, .int .i64 0] 24)).alloc (.cells #[.int .i64 0, .int .i64 0, .int .i64 0, .int .i64 0, .slice none 0 0] 32)) ((w.alloc (.cells #[.slice A m c, .int .i64 nx] 24)).alloc (.cells #[.slice none 0 0, .int .i64 0] 24)).heap.size 32 #[.int .i64 0, .int .i64 0, .int .i64 0, .int .i64 0, .slice none 0 0] := (Blk.new ((w.alloc (.cells #[.slice A m c, .int .i64 nx] 24)).alloc (.cells #[.slice none 0 0, .int .i64 0] 24)) 32 #[.int .i64 0, .int .i64 0, .int .i64 0, .int .i64 0, .slice none 0 0])
  simp only [World.size_alloc] at g0 g1 g2
  have hs0 : (((w.alloc (.cells #[.slice A m c, .int .i64 nx] 24)).alloc (.cells #[.slice none 0 0, .int .i64 0] 24)).alloc (.cells #[.int .i64 0, .int .i64 0, .int .i64 0, .int .i64 0, .slice none 0 0] 32)).heap.size = w.heap.size + 3 := by simp
  have HX := Lib.hid (And.intro (hR.up hb0) (And.intro hlen (And.intro hp (And.intro hb0 hR))))
  clear hR hlen hp hb0
  go_enter Try.func25, Try.ntmps25
  go_upto_region 1 with fail
  generalize (((w.alloc (.cells #[.slice A m c, .int .i64 nx] 24)).alloc (.cells #[.slice none 0 0, .int .i64 0] 24)).alloc (.cells #[.int .i64 0, .int .i64 0, .int .i64 0, .int .i64 0, .slice none 0 0] 32)) = W at *
  have q0 : W.cell? ⟨w.heap.size, 0, none⟩ = some (.slice A m c) := g0.cell 0
  have q1 : W.cell? ⟨w.heap.size, 1, none⟩ = some (.int .i64 nx) := g0.cell 1
  go_wp2_with fail
  refine (refCheck_any A m c l nx W HX.out.1 hm).mono ?_
  rintro e w1 ⟨rfl, hb1⟩
  have hbw : Below w.heap.size w w1 := HX.out.2.2.2.1.trans (hb1.mono HX.out.2.2.2.1.size)
  have G0 := g0.below hb1 (by omega)
  have G1 := g1.below hb1 (by omega)
  have G2 := g2.below hb1 (by omega)
  have hs1 := hb1.size
  have H1 := Lib.hid (And.intro (HX.out.1.up hb1) (And.intro hbw (And.intro G0 (And.intro G1 G2))))
  clear hb1 hbw g0 g1 g2 q0 q1 G0 G1 G2
  have q0 : w1.cell? ⟨w.heap.size, 0, none⟩ = some (.slice A m c) := H1.out.2.2.1.cell 0
  obtain ⟨r, hr⟩ : ∃ r, chkQ nx (l.map Ev.em) = r := ⟨_, rfl⟩
  rw [hr]
  have HRR := Lib.hid hr
  clear hr
  by_cases hr0 : r = 0
  · subst hr0
    by_cases hm0 : m = 0
    · obtain rfl := hm0
      go_wp2_with (first | (refine wpList_store_row rfl _ _ _ rfl (w.heap.size + 1) _ rfl rfl 24 _ H1.out.2.2.2.1 (by kernel_rfl) rfl (by simp [Value.oneCell']) ?_) | (refine wpList_store_row rfl _ _ _ rfl (w.heap.size + 2) _ rfl rfl 32 _ (H1.out.2.2.2.2.row_far (by omega) _) (by kernel_rfl) rfl (by simp [Value.oneCell']) ?_))
      refine bodyPost_ret (results_cell_cell (t := 24) (t2 := 32) rfl _ _ (w.heap.size + 1) (w.heap.size + 2) _ _ _ _ rfl rfl ((H1.out.2.2.2.1.setRow _).row_far (by omega) _) ((H1.out.2.2.2.2.row_far (by omega) _).setRow _) Try.underlying24 rfl (by kernel_rfl) Try.underlying32 rfl (by kernel_rfl)) rfl ?_
      have hl0 : l = [] := List.eq_nil_of_length_eq_zero HX.out.2.1
      have hq : popQ (l.map Ev.em) nx = ⟨[], 0, zeroE, 7⟩ := by
        unfold popQ
        rw [HRR.out, if_neg (by simp), hl0]
        rfl
      rw [hq]
      exact ⟨below_setRow (below_setRow H1.out.2.1 (by omega) _) (by omega) _, _, _, rfl, QVal.nil _ _, EVal.zero _⟩
    · have hmb : ((m : Int) == 0) = false := by rw [beq_eq_false_iff_ne]; omega
      have hm3 : 0 < m := by omega
      have hm2 : (0 : Int) < m := by omega
      clear hm0
      obtain ⟨b, off, rfl, hbw2, hc⟩ := HX.out.2.2.2.2.cells hm3
      have hl1 : 0 < l.length := by have := HX.out.2.1; omega
      obtain ⟨d0, d1, d2, d3, d4⟩ := hc 0 _ (List.getElem?_eq_getElem hl1)
      simp only [Nat.zero_mul, Nat.add_zero] at d0 d1 d2 d3 d4
      replace d0 := (H1.out.2.1.cell (p := ⟨b, off, none⟩) hbw2).trans d0
      replace d1 := (H1.out.2.1.cell (p := ⟨b, off + 1, none⟩) hbw2).trans d1
      replace d2 := (H1.out.2.1.cell (p := ⟨b, off + 2, none⟩) hbw2).trans d2
      replace d3 := (H1.out.2.1.cell (p := ⟨b, off + 3, none⟩) hbw2).trans d3
      replace d4 := (H1.out.2.1.cell (p := ⟨b, off + 4, none⟩) hbw2).trans d4
      have hxr := H1.out.1.ev _ (List.getElem_mem hl1)
      have hxp := HX.out.2.2.1 _ (List.getElem_mem hl1)
      have hq : popQ (l.map Ev.em) nx = ⟨(l.map Ev.em).take 0 ++ (l.map Ev.em).drop (0 + 1), nx, l[0].em, 0⟩ := by
        unfold popQ
        rw [HRR.out, if_neg (by simp)]
        cases l with
        | nil => simp at hl1
        | cons x l => rfl
      generalize l[0] = ev at *
      obtain ⟨et, en, ek, eo, eA, ec, ep⟩ := ev
      dsimp only at d0 d1 d2 d3 d4 hxp
      have H2 : Hid (popQ (l.map Ev.em) nx = ⟨(l.map Ev.em).take 0 ++ (l.map Ev.em).drop (0 + 1), nx, ⟨et, en, ek, eo, ep⟩, 0⟩ ∧ Reads w1 w1.heap.size 1 eA ep.length (u8s ep)) := ⟨hq, hxr⟩
      have hq1 : w1.cell? ⟨w.heap.size, 1, none⟩ = some (.int .i64 nx) := H1.out.2.2.1.cell 1
      have q1 := hq1
      clear hc hq hxr hl1 hq1
      go_upto_region 6 with fail
      refine wp_pan (Pc := fun _ _ _ => False) (fun _ _ _ h => h.elim) ?_
      refine wp_region_tail_lit (S := fun V => V.cell? ⟨w.heap.size, 0, none⟩ = some (.slice (some ⟨b, off, none⟩) m c) ∧ V.cell? ⟨w.heap.size, 1, none⟩ = some (.int .i64 nx) ∧ V.cell? ⟨b, off, none⟩ = some (.int .i64 et) ∧ V.cell? ⟨b, off + 1, none⟩ = some (.int .i64 en) ∧ V.cell? ⟨b, off + 2, none⟩ = some (.int .i64 ek) ∧ V.cell? ⟨b, off + 3, none⟩ = some (.int .i64 eo) ∧ V.cell? ⟨b, off + 4, none⟩ = some (.slice eA ep.length ec)) 8 (by kernel_rfl) (by kernel_rfl) ⟨q0, q1, d0, d1, d2, d3, d4⟩ (fun hHeld => ?_)
      simp only [List.take, List.drop]
      refine wpAnyH_take (i := 0) (oi := _) (v := ?_) rfl (by kernel_rfl) (by kernel_rfl) (by kernel_rfl) (fun _ _ _ h => h) (Or.inl ⟨by rfl, ?_⟩) (by assumption) ?_
      rotate_left 1
      · (intro w9 hS9; (try dsimp only at hS9); go_simp <;> with_reducible rfl)
      try simp only [List.getElem_toArray, List.getElem_cons_succ, List.getElem_cons_zero, Act.put, List.setIfInBounds_toArray, List.set_cons_zero, List.set_cons_succ]
      refine wpAnyH_take (i := 2) (oi := _) (v := ?_) rfl (by kernel_rfl) (by kernel_rfl) (by kernel_rfl) (fun _ _ _ h => h) (Or.inl ⟨by rfl, ?_⟩) (by assumption) ?_
      rotate_left 1
      · (intro w9 hS9; (try dsimp only at hS9); go_simp <;> with_reducible rfl)
      try simp only [List.getElem_toArray, List.getElem_cons_succ, List.getElem_cons_zero, Act.put, List.setIfInBounds_toArray, List.set_cons_zero, List.set_cons_succ]
      refine wpAnyH_take (i := 3) (oi := _) (v := ?_) rfl (by kernel_rfl) (by kernel_rfl) (by kernel_rfl) (fun _ _ _ h => h) (Or.inl ⟨by rfl, ?_⟩) (by assumption) ?_
      rotate_left 1
      · (intro w9 hS9; (try dsimp only at hS9); go_simp <;> with_reducible rfl)
      try simp only [List.getElem_toArray, List.getElem_cons_succ, List.getElem_cons_zero, Act.put, List.setIfInBounds_toArray, List.set_cons_zero, List.set_cons_succ]
      refine wpAnyH_take (i := 4) (oi := _) (v := ?_) rfl (by kernel_rfl) (by kernel_rfl) (by kernel_rfl) (fun _ _ _ h => h) (Or.inl ⟨by rfl, ?_⟩) (by assumption) ?_
      rotate_left 1
      · (intro w9 hS9; (try dsimp only at hS9); go_simp <;> with_reducible rfl)
      try simp only [List.getElem_toArray, List.getElem_cons_succ, List.getElem_cons_zero, Act.put, List.setIfInBounds_toArray, List.set_cons_zero, List.set_cons_succ]
      refine wpAnyH_take (i := 5) (oi := _) (v := ?_) rfl (by kernel_rfl) (by kernel_rfl) (by kernel_rfl) (fun _ _ _ h => h) (Or.inl ⟨by rfl, ?_⟩) (by assumption) ?_
      rotate_left 1
      · (intro w9 hS9; (try dsimp only at hS9); go_simp <;> with_reducible rfl)
      try simp only [List.getElem_toArray, List.getElem_cons_succ, List.getElem_cons_zero, Act.put, List.setIfInBounds_toArray, List.set_cons_zero, List.set_cons_succ]
      have hd0 : Below w1.heap.size w1 w1.drew := (Below.refl _ w1).drew
      have hsd : w1.drew.heap.size = w1.heap.size := rfl
      refine wpAnyH_ready (rs := [1]) (by kernel_rfl) (by simp) ?_
      refine AllReadyH.cons (o := _) rfl (fun K hK => ?_) AllReadyH.nil
      try simp only [List.getElem_toArray, List.getElem_cons_succ, List.getElem_cons_zero]
      go_simp
      refine (without_any (some ⟨b, off, none⟩) m c 0 l nx _ (H1.out.1.up hd0) hm hm3 HX.out.2.2.1).mono ?_
      rintro e wa1 ⟨⟨va1, rfl, hva1⟩, hba1⟩
      obtain ⟨Aa1, na1, ca1, rfl⟩ := hva1.cells
      go_wp2_with fail
      have hwa : Below w1.heap.size w1 wa1 := hd0.trans hba1
      have hsa : w1.heap.size ≤ wa1.heap.size := hwa.size
      have aq0 := (hwa.cell (p := ⟨w.heap.size, 0, none⟩) (by dsimp only; omega)).trans q0
      have aq1 := (hwa.cell (p := ⟨w.heap.size, 1, none⟩) (by dsimp only; omega)).trans q1
      have ad0 := (hwa.cell (p := ⟨b, off, none⟩) (by dsimp only; omega)).trans d0
      have ad1 := (hwa.cell (p := ⟨b, off + 1, none⟩) (by dsimp only; omega)).trans d1
      have ad2 := (hwa.cell (p := ⟨b, off + 2, none⟩) (by dsimp only; omega)).trans d2
      have ad3 := (hwa.cell (p := ⟨b, off + 3, none⟩) (by dsimp only; omega)).trans d3
      have ad4 := (hwa.cell (p := ⟨b, off + 4, none⟩) (by dsimp only; omega)).trans d4
      refine hK.out _ _ ⟨aq0, aq1, ad0, ad1, ad2, ad3, ad4⟩ (fun hHeld => ?_)
      clear hK K
      try simp only [List.getElem_toArray, List.getElem_cons_succ, List.getElem_cons_zero, Act.put, List.setIfInBounds_toArray, List.set_cons_zero, List.set_cons_succ]
      refine wpAnyH_ready (rs := [6]) (by kernel_rfl) (by simp) ?_
      refine AllReadyH.cons (o := _) rfl (fun K hK => ?_) AllReadyH.nil
      try simp only [List.getElem_toArray, List.getElem_cons_succ, List.getElem_cons_zero]
      go_simp
      refine (Copy_any et en ek eo eA ec ep _ (H2.out.2.up hwa) hxp).mono ?_
      rintro e wb2 ⟨hbb2, Ab2, cb2, rfl, hrb2, _, _, hfb2⟩
      unfold evC
      dsimp only
      go_wp2_with fail
      have hwb : Below w1.heap.size w1 wb2 := hwa.trans (hbb2.mono hwa.size)
      have hsb := hbb2.size
      have bq0 := (hwb.cell (p := ⟨w.heap.size, 0, none⟩) (by dsimp only; omega)).trans q0
      have bq1 := (hwb.cell (p := ⟨w.heap.size, 1, none⟩) (by dsimp only; omega)).trans q1
      have bd0 := (hwb.cell (p := ⟨b, off, none⟩) (by dsimp only; omega)).trans d0
      have bd1 := (hwb.cell (p := ⟨b, off + 1, none⟩) (by dsimp only; omega)).trans d1
      have bd2 := (hwb.cell (p := ⟨b, off + 2, none⟩) (by dsimp only; omega)).trans d2
      have bd3 := (hwb.cell (p := ⟨b, off + 3, none⟩) (by dsimp only; omega)).trans d3
      have bd4 := (hwb.cell (p := ⟨b, off + 4, none⟩) (by dsimp only; omega)).trans d4
      refine hK.out _ _ ⟨bq0, bq1, bd0, bd1, bd2, bd3, bd4⟩ (fun hHeld => ?_)
      clear hK K
      try simp only [List.getElem_toArray, List.getElem_cons_succ, List.getElem_cons_zero, Act.put, List.setIfInBounds_toArray, List.set_cons_zero, List.set_cons_succ]
      refine wpAnyH_ready (rs := [7]) (by kernel_rfl) (by simp) ?_
      refine AllReadyH.cons (o := _) rfl (fun K hK => ?_) AllReadyH.nil
      try simp only [List.getElem_toArray, List.getElem_cons_succ, List.getElem_cons_zero]
      rw [if_pos (show Region.wanted _ _ = true from rfl)]
      refine wp_store_row 24 _ _ (by rfl) (w.heap.size + 1) #[.slice Aa1 na1 ca1, .int .i64 nx] (by rfl) (by rfl) 24 _ (H1.out.2.2.2.1.below hwb (by omega)) (by kernel_rfl) rfl (by simp [Value.oneCell']) ?_
      have cq0 := (World.cell?_of_block (setRow_other wb2 (w.heap.size + 1) _ #[.slice Aa1 na1 ca1, .int .i64 nx] (by dsimp only; omega))).trans bq0
      have cq1 := (World.cell?_of_block (setRow_other wb2 (w.heap.size + 1) _ #[.slice Aa1 na1 ca1, .int .i64 nx] (by dsimp only; omega))).trans bq1
      have cd0 := (World.cell?_of_block (setRow_other wb2 (w.heap.size + 1) _ #[.slice Aa1 na1 ca1, .int .i64 nx] (by dsimp only; omega))).trans bd0
      have cd1 := (World.cell?_of_block (setRow_other wb2 (w.heap.size + 1) _ #[.slice Aa1 na1 ca1, .int .i64 nx] (by dsimp only; omega))).trans bd1
      have cd2 := (World.cell?_of_block (setRow_other wb2 (w.heap.size + 1) _ #[.slice Aa1 na1 ca1, .int .i64 nx] (by dsimp only; omega))).trans bd2
      have cd3 := (World.cell?_of_block (setRow_other wb2 (w.heap.size + 1) _ #[.slice Aa1 na1 ca1, .int .i64 nx] (by dsimp only; omega))).trans bd3
      have cd4 := (World.cell?_of_block (setRow_other wb2 (w.heap.size + 1) _ #[.slice Aa1 na1 ca1, .int .i64 nx] (by dsimp only; omega))).trans bd4
      refine hK.out _ _ ⟨cq0, cq1, cd0, cd1, cd2, cd3, cd4⟩ (fun hHeld => ?_)
      clear hK K
      try simp only [List.getElem_toArray, List.getElem_cons_succ, List.getElem_cons_zero, Act.put, List.setIfInBounds_toArray, List.set_cons_zero, List.set_cons_succ]
      refine wpAnyH_done (by kernel_rfl) ?_ _
      refine tailQ_step rfl ?_
      go_wp2_with (refine wpList_store_row rfl _ _ _ rfl (w.heap.size + 2) _ rfl rfl 32 _ ((H1.out.2.2.2.2.below hwb (by omega)).row_far (g2 := w.heap.size + 1) (by omega) _) (by kernel_rfl) rfl (by simp [Value.oneCell']) ?_)
      refine tailQ_step rfl ?_
      go_wp2_with fail
      refine tailQ_nil (panQ_normal ?_)
      go_wp2_with fail
      refine bodyPost_ret (results_cell_cell (t := 24) (t2 := 32) rfl _ _ (w.heap.size + 1) (w.heap.size + 2) _ _ _ _ rfl rfl (((H1.out.2.2.2.1.below hwb (by omega)).setRow _).row_far (g2 := w.heap.size + 2) (by omega) _) (((H1.out.2.2.2.2.below hwb (by omega)).row_far (g2 := w.heap.size + 1) (by omega) _).setRow _) Try.underlying24 rfl (by kernel_rfl) Try.underlying32 rfl (by kernel_rfl)) rfl ?_
      rw [H2.out.1]
      exact ⟨below_setRow (below_setRow (H1.out.2.1.trans (hwb.mono H1.out.2.1.size)) (by omega) _) (by omega) _, _, _, rfl, (((hva1.up hbb2).row (by omega) _).row (by omega) _).q, _, _, rfl, (Reads.row (Reads.row hrb2 (g := w.heap.size + 1) (fun ad h0 hA => by have := hfb2 ad h0 hA; omega) _) (g := w.heap.size + 2) (fun ad h0 hA => by have := hfb2 ad h0 hA; omega) _).more (by simp)⟩
  · have hr1 : ((r : Int) != 0) = true := by rw [bne_iff_ne]; omega
    have HR0 := Lib.hid hr0
    clear hr0
    go_wp2_with (first | (refine wpList_store_row rfl _ _ _ rfl (w.heap.size + 1) _ rfl rfl 24 _ H1.out.2.2.2.1 (by kernel_rfl) rfl (by simp [Value.oneCell']) ?_) | (refine wpList_store_row rfl _ _ _ rfl (w.heap.size + 2) _ rfl rfl 32 _ (H1.out.2.2.2.2.row_far (by omega) _) (by kernel_rfl) rfl (by simp [Value.oneCell']) ?_))
    refine bodyPost_ret (results_cell_cell (t := 24) (t2 := 32) rfl _ _ (w.heap.size + 1) (w.heap.size + 2) _ _ _ _ rfl rfl ((H1.out.2.2.2.1.setRow _).row_far (by omega) _) ((H1.out.2.2.2.2.row_far (by omega) _).setRow _) Try.underlying24 rfl (by kernel_rfl) Try.underlying32 rfl (by kernel_rfl)) rfl ?_
    have hq : popQ (l.map Ev.em) nx = ⟨[], 0, zeroE, r⟩ := by
      unfold popQ
      rw [HRR.out, if_pos HR0.out]
    rw [hq]
    exact ⟨below_setRow (below_setRow H1.out.2.1 (by omega) _) (by omega) _, _, _, rfl, QVal.nil _ _, EVal.zero _⟩
end Go.Proofs.Ytknedclejhiegaa
