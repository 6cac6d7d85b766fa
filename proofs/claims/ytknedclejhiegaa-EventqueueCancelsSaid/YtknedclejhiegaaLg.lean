/- Pop once more: the array of the queue that it leaves is new. No condition. -/
import Derived.Test.YtknedclejhiegaaWl
namespace Go.Proofs.Ytknedclejhiegaa
open Go.RowKit
structure PopN (w : World) (r : PopA) (e : Ending) (w' : World) : Prop where
  bel : Below w.heap.size w w'
  val : ∃ v x, e = .returned (.tuple #[v, x, .int .i64 (r.e : Nat)]) ∧ QVal w' r.l r.nx v ∧ EVal w' r.x x ∧ ∀ A n c k, v = .agg #[.slice A n c, .int .i64 k] → ∀ ad : Addr, 0 < n → A = some ad → w.heap.size ≤ ad.block
set_option linter.unusedSimpArgs false in
set_option maxRecDepth 100000 in
set_option maxHeartbeats 4000000 in
theorem Pop_new (A : Option Addr) (m c : Nat) (l : List Ev) (nx : Int) (w : World) (hR : Evs w A m l) (hm : m ≤ 4096) (hmc : m ≤ c) (hp : ∀ e ∈ l, e.p.length ≤ 100000) :
    Calls Try.prog 22 #[.agg #[.slice A m c, .int .i64 nx]] w (PopN w (popQ (l.map Ev.em) nx)) := by
  have hlen := hR.count
  have hb0 : Below w.heap.size w (((w.alloc (.cells #[.slice A m c, .int .i64 nx] 24)).alloc (.cells #[.slice none 0 0, .int .i64 0] 24)).alloc (.cells #[.int .i64 0, .int .i64 0, .int .i64 0, .int .i64 0, .slice none 0 0] 32)) := ((((Below.refl _ _).alloc (Nat.le_refl _) _).alloc (by simp) _).alloc (by simp only [World.size_alloc]; omega) _)
  have g0 : Blk (((w.alloc (.cells #[.slice A m c, .int .i64 nx] 24)).alloc (.cells #[.slice none 0 0, .int .i64 0] 24)).alloc (.cells #[.int .i64 0, .int .i64 0, .int .i64 0, .int .i64 0, .slice none 0 0] 32)) w.heap.size 24 #[.slice A m c, .int .i64 nx] := (((Blk.new w 24 #[.slice A m c, .int .i64 nx]).alloc _).alloc _)
  have g1 : Blk (((w.alloc (.cells #[.slice A m c, .int .i64 nx] 24)).alloc (.cells #[.slice none 0 0, .int .i64 0] 24)).alloc (.cells #[.int .i64 0, .int .i64 0, .int .i64 0, .int .i64 0, .slice none 0 0] 32)) (w.alloc (.cells #[.slice A m c, .int .i64 nx] 24)).heap.size 24 #[.slice none 0 0, .int .i64 0] := ((Blk.new (w.alloc (.cells #[.slice A m c, .int .i64 nx] 24)) 24 #[.slice none 0 0, .int .i64 0]).alloc _)
  have g2 : Blk (((w.alloc (.cells #[.slice A m c, .int .i64 nx] 24)).alloc (.cells #[.slice none 0 0, .int .i64 0] 24)).alloc (.cells #[.int .i64 0, .int .i64 0, .int .i64 0, .int .i64 0, .slice none 0 0] 32)) ((w.alloc (.cells #[.slice A m c, .int .i64 nx] 24)).alloc (.cells #[.slice none 0 0, .int .i64 0] 24)).heap.size 32 #[.int .i64 0, .int .i64 0, .int .i64 0, .int .i64 0, .slice none 0 0] := (Blk.new ((w.alloc (.cells #[.slice A m c, .int .i64 nx] 24)).alloc (.cells #[.slice none 0 0, .int .i64 0] 24)) 32 #[.int .i64 0, .int .i64 0, .int .i64 0, .int .i64 0, .slice none 0 0])
  simp only [World.size_alloc] at g0 g1 g2
  have hs0 : (((w.alloc (.cells #[.slice A m c, .int .i64 nx] 24)).alloc (.cells #[.slice none 0 0, .int .i64 0] 24)).alloc (.cells #[.int .i64 0, .int .i64 0, .int .i64 0, .int .i64 0, .slice none 0 0] 32)).heap.size = w.heap.size + 3 := by simp
  have HX := Lib.hid (And.intro (hR.up hb0) (And.intro hlen (And.intro hp hb0)))
  clear hR hlen hp hb0
  go_enter Try.func22, Try.ntmps22
  go_upto_region 1 with fail
  generalize (((w.alloc (.cells #[.slice A m c, .int .i64 nx] 24)).alloc (.cells #[.slice none 0 0, .int .i64 0] 24)).alloc (.cells #[.int .i64 0, .int .i64 0, .int .i64 0, .int .i64 0, .slice none 0 0] 32)) = W at *
  have q0 : W.cell? ⟨w.heap.size, 0, none⟩ = some (.slice A m c) := g0.cell 0
  have q1 : W.cell? ⟨w.heap.size, 1, none⟩ = some (.int .i64 nx) := g0.cell 1
  go_wp2_with fail
  refine (Check_any A m c l nx W HX.out.1 hm hmc).mono ?_
  rintro e w1 ⟨rfl, hb1⟩
  have hbw : Below w.heap.size w w1 := HX.out.2.2.2.trans (hb1.mono HX.out.2.2.2.size)
  have G0 := g0.below hb1 (by omega)
  have G1 := g1.below hb1 (by omega)
  have G2 := g2.below hb1 (by omega)
  have hs1 := hb1.size
  have H1 := Lib.hid (And.intro (HX.out.1.up hb1) (And.intro hbw (And.intro G0 (And.intro G1 G2))))
  clear hb1 hbw g0 g1 g2 q0 q1 G0 G1 G2
  have q0 : w1.cell? ⟨w.heap.size, 0, none⟩ = some (.slice A m c) := H1.out.2.2.1.cell 0
  obtain ⟨r, hr⟩ : ∃ r, chkQ nx (l.map Ev.em) = r := ⟨_, rfl⟩
  rw [hr]
  have HRR := Lib.hid hr
  clear hr
  by_cases hr0 : r = 0
  · subst hr0
    by_cases hm0 : m = 0
    · obtain rfl := hm0
      go_wp2_with (first | (refine wpList_store_row rfl _ _ _ rfl (w.heap.size + 1) _ rfl rfl 24 _ H1.out.2.2.2.1 (by kernel_rfl) rfl (by simp [Value.oneCell']) ?_) | (refine wpList_store_row rfl _ _ _ rfl (w.heap.size + 2) _ rfl rfl 32 _ (H1.out.2.2.2.2.row_far (by omega) _) (by kernel_rfl) rfl (by simp [Value.oneCell']) ?_))
      refine bodyPost_ret (results_cell_cell (t := 24) (t2 := 32) rfl _ _ (w.heap.size + 1) (w.heap.size + 2) _ _ _ _ rfl rfl ((H1.out.2.2.2.1.setRow _).row_far (by omega) _) ((H1.out.2.2.2.2.row_far (by omega) _).setRow _) Try.underlying24 rfl (by kernel_rfl) Try.underlying32 rfl (by kernel_rfl)) rfl ?_
      have hl0 : l = [] := List.eq_nil_of_length_eq_zero HX.out.2.1
      have hq : popQ (l.map Ev.em) nx = ⟨[], 0, zeroE, 7⟩ := by
        unfold popQ
        rw [HRR.out, if_neg (by simp), hl0]
        rfl
      rw [hq]
      exact ⟨below_setRow (below_setRow H1.out.2.1 (by omega) _) (by omega) _, _, _, rfl, QVal.nil _ _, EVal.zero _, fun A' n' c' k' hv ad h0 hA9 => by
          injection hv with hv
          simp only [Array.mk.injEq, List.cons.injEq, Value.slice.injEq, and_true] at hv
          omega⟩
    · have hmb : ((m : Int) == 0) = false := by rw [beq_eq_false_iff_ne]; omega
      have HM0 := Lib.hid hm0
      clear hm0
      go_wp2_with fail
      refine (events_any A m c l w1 H1.out.1 (by omega) HX.out.2.2.1).mono ?_
      rintro e w2 ⟨hb2, v2, es, rfl, hE, hem, hnp⟩
      obtain ⟨A2, c2, rfl⟩ := hE.form
      have hel : es.length = m := by
        have := congrArg List.length hem
        rw [List.length_map, List.length_map, HX.out.2.1] at this
        exact this
      obtain ⟨hev, _, hec, _⟩ := hE.evs
      rw [hel] at hev hec ⊢
      obtain ⟨b, off, hA2, hbw2, hc⟩ := hev.cells (by have := HM0.out; omega)
      have hge := own_addr (by have := hE.own; rw [hel] at this; exact this) _ (by have := HM0.out; omega) hA2
      have hl1 : 0 < es.length := by have := HM0.out; omega
      obtain ⟨d0, d1, d2, d3, d4⟩ := hc 0 _ (List.getElem?_eq_getElem hl1)
      simp only [Nat.zero_mul, Nat.add_zero] at d0 d1 d2 d3 d4
      have hxr := hev.ev _ (List.getElem_mem hl1)
      have hxn := hnp _ (List.getElem_mem hl1)
      have hq : popQ (l.map Ev.em) nx = ⟨(es.drop 1).map Ev.em, nx, es[0].em, 0⟩ := by
        unfold popQ
        rw [HRR.out, if_neg (by simp), ← hem]
        cases es with
        | nil => simp at hl1
        | cons x es => rfl
      generalize es[0] = ev at *
      obtain ⟨et, en, ek, eo, eA, ec, ep⟩ := ev
      dsimp only at d0 d1 d2 d3 d4 hxn
      subst hA2
      have q1 : w2.cell? ⟨w.heap.size, 1, none⟩ = some (.int .i64 nx) := (H1.out.2.2.1.below hb2 (by omega)).cell 1
      have hm1 : (1 : Int) ≤ m := by have := HM0.out; omega
      have hm2 : (0 : Int) < m := by omega
      have hm3 : 0 < m := by omega
      have hm4 : 1 ≤ m := by omega
      have H2 := Lib.hid (And.intro hb2 (And.intro hev (And.intro hnp (And.intro hxr (And.intro hxn (And.intro hq (And.intro (H1.out.2.2.2.1.below hb2 (by omega)) (And.intro (H1.out.2.2.2.2.below hb2 (by omega)) (And.intro hge (And.intro hec hel))))))))))
      clear hb2 hev hnp hxr hxn hq hge hel hem hE hc q0 hl1
      by_cases hc1 : c2 = 1
      · subst hc1
        go_wp2_with fail
        refine wp_pan (Pc := fun _ _ _ => False) (fun _ _ _ h => h.elim) ?_
        refine wp_region_tail_lit (S := fun V => V.cell? ⟨w.heap.size, 1, none⟩ = some (.int .i64 nx) ∧ V.cell? ⟨b, off, none⟩ = some (.int .i64 et) ∧ V.cell? ⟨b, off + 1, none⟩ = some (.int .i64 en) ∧ V.cell? ⟨b, off + 2, none⟩ = some (.int .i64 ek) ∧ V.cell? ⟨b, off + 3, none⟩ = some (.int .i64 eo) ∧ V.cell? ⟨b, off + 4, none⟩ = some (.slice eA ep.length ec)) 9 (by kernel_rfl) (by kernel_rfl) ⟨q1, d0, d1, d2, d3, d4⟩ (fun hHeld => ?_)
        simp only [List.take, List.drop]
        refine wpAnyH_take (i := 0) (oi := _) (v := ?_) rfl (by kernel_rfl) (by kernel_rfl) (by kernel_rfl) (fun _ _ _ h => h) (Or.inl ⟨by rfl, ?_⟩) (by assumption) ?_
        rotate_left 1
        · (intro w9 hS9; (try dsimp only at hS9); go_simp <;> with_reducible rfl)
        try simp only [List.getElem_toArray, List.getElem_cons_succ, List.getElem_cons_zero, Act.put, List.setIfInBounds_toArray, List.set_cons_zero, List.set_cons_succ]
        refine wpAnyH_take (i := 1) (oi := _) (v := ?_) rfl (by kernel_rfl) (by kernel_rfl) (by kernel_rfl) (fun _ _ _ h => h) (Or.inl ⟨by rfl, ?_⟩) (by assumption) ?_
        rotate_left 1
        · (intro w9 hS9; (try dsimp only at hS9); go_simp <;> with_reducible rfl)
        try simp only [List.getElem_toArray, List.getElem_cons_succ, List.getElem_cons_zero, Act.put, List.setIfInBounds_toArray, List.set_cons_zero, List.set_cons_succ]
        refine wpAnyH_take (i := 2) (oi := _) (v := ?_) rfl (by kernel_rfl) (by kernel_rfl) (by kernel_rfl) (fun _ _ _ h => h) (Or.inl ⟨by rfl, ?_⟩) (by assumption) ?_
        rotate_left 1
        · (intro w9 hS9; (try dsimp only at hS9); go_simp <;> with_reducible rfl)
        try simp only [List.getElem_toArray, List.getElem_cons_succ, List.getElem_cons_zero, Act.put, List.setIfInBounds_toArray, List.set_cons_zero, List.set_cons_succ]
        refine wpAnyH_take (i := 3) (oi := _) (v := ?_) rfl (by kernel_rfl) (by kernel_rfl) (by kernel_rfl) (fun _ _ _ h => h) (Or.inl ⟨by rfl, ?_⟩) (by assumption) ?_
        rotate_left 1
        · (intro w9 hS9; (try dsimp only at hS9); go_simp <;> with_reducible rfl)
        try simp only [List.getElem_toArray, List.getElem_cons_succ, List.getElem_cons_zero, Act.put, List.setIfInBounds_toArray, List.set_cons_zero, List.set_cons_succ]
        refine wpAnyH_take (i := 4) (oi := _) (v := ?_) rfl (by kernel_rfl) (by kernel_rfl) (by kernel_rfl) (fun _ _ _ h => h) (Or.inl ⟨by rfl, ?_⟩) (by assumption) ?_
        rotate_left 1
        · (intro w9 hS9; (try dsimp only at hS9); go_simp <;> with_reducible rfl)
        try simp only [List.getElem_toArray, List.getElem_cons_succ, List.getElem_cons_zero, Act.put, List.setIfInBounds_toArray, List.set_cons_zero, List.set_cons_succ]
        refine wpAnyH_take (i := 5) (oi := _) (v := ?_) rfl (by kernel_rfl) (by kernel_rfl) (by kernel_rfl) (fun _ _ _ h => h) (Or.inl ⟨by rfl, ?_⟩) (by assumption) ?_
        rotate_left 1
        · (intro w9 hS9; (try dsimp only at hS9); go_simp <;> with_reducible rfl)
        try simp only [List.getElem_toArray, List.getElem_cons_succ, List.getElem_cons_zero, Act.put, List.setIfInBounds_toArray, List.set_cons_zero, List.set_cons_succ]
        refine wpAnyH_take (i := 6) (oi := _) (v := ?_) rfl (by kernel_rfl) (by kernel_rfl) (by kernel_rfl) (fun _ _ _ h => h) (Or.inl ⟨by rfl, ?_⟩) (by assumption) ?_
        rotate_left 1
        · (intro w9 hS9; (try dsimp only at hS9); go_simp <;> with_reducible rfl)
        try simp only [List.getElem_toArray, List.getElem_cons_succ, List.getElem_cons_zero, Act.put, List.setIfInBounds_toArray, List.set_cons_zero, List.set_cons_succ]
        refine wpAnyH_take (i := 7) (oi := _) (v := ?_) rfl (by kernel_rfl) (by kernel_rfl) (by kernel_rfl) (fun _ _ _ h => h) (Or.inl ⟨by rfl, ?_⟩) (by assumption) ?_
        rotate_left 1
        · (intro w9 hS9; (try dsimp only at hS9); go_simp <;> with_reducible rfl)
        try simp only [List.getElem_toArray, List.getElem_cons_succ, List.getElem_cons_zero, Act.put, List.setIfInBounds_toArray, List.set_cons_zero, List.set_cons_succ]
        refine wpAnyH_ready (rs := [8]) (by kernel_rfl) (by simp) ?_
        refine AllReadyH.cons (o := _) rfl (fun K hK => ?_) AllReadyH.nil
        try simp only [List.getElem_toArray, List.getElem_cons_succ, List.getElem_cons_zero]
        rw [if_pos (show Region.wanted _ _ = true from rfl)]
        refine wp_store_row 24 _ _ (by rfl) (w.heap.size + 1) #[.slice (some ⟨b, off, none⟩) 0 0, .int .i64 nx] (by rfl) (by rfl) 24 _ H2.out.2.2.2.2.2.2.1.drew (by kernel_rfl) rfl (by simp [Value.oneCell']) ?_
        refine hK.out _ _ ⟨(World.cell?_of_block (setRow_other _ _ _ _ (by have := H2.out.2.2.2.2.2.2.2.2.1; dsimp only at this ⊢; omega))).trans q1, (World.cell?_of_block (setRow_other _ _ _ _ (by have := H2.out.2.2.2.2.2.2.2.2.1; dsimp only at this ⊢; omega))).trans d0, (World.cell?_of_block (setRow_other _ _ _ _ (by have := H2.out.2.2.2.2.2.2.2.2.1; dsimp only at this ⊢; omega))).trans d1, (World.cell?_of_block (setRow_other _ _ _ _ (by have := H2.out.2.2.2.2.2.2.2.2.1; dsimp only at this ⊢; omega))).trans d2, (World.cell?_of_block (setRow_other _ _ _ _ (by have := H2.out.2.2.2.2.2.2.2.2.1; dsimp only at this ⊢; omega))).trans d3, (World.cell?_of_block (setRow_other _ _ _ _ (by have := H2.out.2.2.2.2.2.2.2.2.1; dsimp only at this ⊢; omega))).trans d4⟩ (fun hHeld => ?_)
        clear hK K
        try simp only [List.getElem_toArray, List.getElem_cons_succ, List.getElem_cons_zero, Act.put, List.setIfInBounds_toArray, List.set_cons_zero, List.set_cons_succ]
        refine wpAnyH_done (by kernel_rfl) ?_ _
        refine tailQ_step rfl ?_
        go_wp2_with (refine wpList_store_row rfl _ _ _ rfl (w.heap.size + 2) _ rfl rfl 32 _ (H2.out.2.2.2.2.2.2.2.1.drew.row_far (by omega) _) (by kernel_rfl) rfl (by simp [Value.oneCell']) ?_)
        refine tailQ_step rfl ?_
        go_wp2_with fail
        refine tailQ_nil (panQ_normal ?_)
        go_wp2_with fail
        refine bodyPost_ret (results_cell_cell (t := 24) (t2 := 32) rfl _ _ (w.heap.size + 1) (w.heap.size + 2) _ _ _ _ rfl rfl ((H2.out.2.2.2.2.2.2.1.drew.setRow _).row_far (by omega) _) ((H2.out.2.2.2.2.2.2.2.1.drew.row_far (by omega) _).setRow _) Try.underlying24 rfl (by kernel_rfl) Try.underlying32 rfl (by kernel_rfl)) rfl ?_
        rw [H2.out.2.2.2.2.2.1]
        have hcut := (H2.out.2.1.cut (k := 1) hm4 H2.out.2.2.2.2.2.2.2.2.2.1).drew
        rw [if_pos rfl] at hcut
        rw [show m - 1 = 0 by have := H2.out.2.2.2.2.2.2.2.2.2.1; omega] at hcut
        have hge := H2.out.2.2.2.2.2.2.2.2.1
        have hnp := (H2.out.2.2.1).drop 1
        have hA : ∀ ad : Addr, 0 < 0 → (some ⟨b, off, none⟩ : Option Addr) = some ad → w1.heap.size ≤ ad.block := by
          intro ad h0 hA
          injection hA with hA
          rw [← hA]
          exact hge
        have h4 := (hcut.row (g := w.heap.size + 1) (fun ad h0 hA9 => by have := hA ad h0 hA9; omega) (fun e he ad h0 hA9 => by have := hnp e he ad h0 hA9; omega) #[.slice (some ⟨b, off, none⟩) 0 0, .int .i64 nx]).row (g := w.heap.size + 2) (fun ad h0 hA9 => by have := hA ad h0 hA9; omega) (fun e he ad h0 hA9 => by have := hnp e he ad h0 hA9; omega) #[.int .i64 et, .int .i64 en, .int .i64 ek, .int .i64 eo, .slice eA ep.length ec]
        have hx4 := ((Reads.row (w := w2.drew) (Reads.drew H2.out.2.2.2.1) (g := w.heap.size + 1) (fun ad h0 hA9 => by have := H2.out.2.2.2.2.1 ad h0 hA9; omega) #[.slice (some ⟨b, off, none⟩) 0 0, .int .i64 nx]).row (g := w.heap.size + 2) (fun ad h0 hA9 => by have := H2.out.2.2.2.2.1 ad h0 hA9; omega) #[.int .i64 et, .int .i64 en, .int .i64 ek, .int .i64 eo, .slice eA ep.length ec]).more (B' := ((w2.drew.setRow (w.heap.size + 1) #[.slice (some ⟨b, off, none⟩) 0 0, .int .i64 nx]).setRow (w.heap.size + 2) #[.int .i64 et, .int .i64 en, .int .i64 ek, .int .i64 eo, .slice eA ep.length ec]).heap.size) (by simp)
        exact ⟨below_setRow (below_setRow (H1.out.2.1.trans ((H2.out.1.mono H1.out.2.1.size))).drew (by omega) _) (by omega) _, _, _, rfl, QVal.of nx h4 (by have := H2.out.2.2.2.2.2.2.2.2.2.1; omega), ⟨eA, ec, rfl, hx4⟩, fun A' n' c' k' hv ad h0 hA9 => by
          injection hv with hv
          simp only [Array.mk.injEq, List.cons.injEq, Value.slice.injEq, and_true] at hv
          obtain ⟨⟨rfl, rfl, rfl⟩, _⟩ := hv
          have := hA ad h0 hA9
          have := H1.out.2.1.size
          omega⟩
      · have hc1' : ¬ c2 = 1 := hc1
        go_wp2_with fail
        refine wp_pan (Pc := fun _ _ _ => False) (fun _ _ _ h => h.elim) ?_
        refine wp_region_tail_lit (S := fun V => V.cell? ⟨w.heap.size, 1, none⟩ = some (.int .i64 nx) ∧ V.cell? ⟨b, off, none⟩ = some (.int .i64 et) ∧ V.cell? ⟨b, off + 1, none⟩ = some (.int .i64 en) ∧ V.cell? ⟨b, off + 2, none⟩ = some (.int .i64 ek) ∧ V.cell? ⟨b, off + 3, none⟩ = some (.int .i64 eo) ∧ V.cell? ⟨b, off + 4, none⟩ = some (.slice eA ep.length ec)) 9 (by kernel_rfl) (by kernel_rfl) ⟨q1, d0, d1, d2, d3, d4⟩ (fun hHeld => ?_)
        simp only [List.take, List.drop]
        refine wpAnyH_take (i := 0) (oi := _) (v := ?_) rfl (by kernel_rfl) (by kernel_rfl) (by kernel_rfl) (fun _ _ _ h => h) (Or.inl ⟨by rfl, ?_⟩) (by assumption) ?_
        rotate_left 1
        · (intro w9 hS9; (try dsimp only at hS9); go_simp <;> with_reducible rfl)
        try simp only [List.getElem_toArray, List.getElem_cons_succ, List.getElem_cons_zero, Act.put, List.setIfInBounds_toArray, List.set_cons_zero, List.set_cons_succ]
        refine wpAnyH_take (i := 1) (oi := _) (v := ?_) rfl (by kernel_rfl) (by kernel_rfl) (by kernel_rfl) (fun _ _ _ h => h) (Or.inl ⟨by rfl, ?_⟩) (by assumption) ?_
        rotate_left 1
        · (intro w9 hS9; (try dsimp only at hS9); go_simp <;> with_reducible rfl)
        try simp only [List.getElem_toArray, List.getElem_cons_succ, List.getElem_cons_zero, Act.put, List.setIfInBounds_toArray, List.set_cons_zero, List.set_cons_succ]
        refine wpAnyH_take (i := 2) (oi := _) (v := ?_) rfl (by kernel_rfl) (by kernel_rfl) (by kernel_rfl) (fun _ _ _ h => h) (Or.inl ⟨by rfl, ?_⟩) (by assumption) ?_
        rotate_left 1
        · (intro w9 hS9; (try dsimp only at hS9); go_simp <;> with_reducible rfl)
        try simp only [List.getElem_toArray, List.getElem_cons_succ, List.getElem_cons_zero, Act.put, List.setIfInBounds_toArray, List.set_cons_zero, List.set_cons_succ]
        refine wpAnyH_take (i := 3) (oi := _) (v := ?_) rfl (by kernel_rfl) (by kernel_rfl) (by kernel_rfl) (fun _ _ _ h => h) (Or.inl ⟨by rfl, ?_⟩) (by assumption) ?_
        rotate_left 1
        · (intro w9 hS9; (try dsimp only at hS9); go_simp <;> with_reducible rfl)
        try simp only [List.getElem_toArray, List.getElem_cons_succ, List.getElem_cons_zero, Act.put, List.setIfInBounds_toArray, List.set_cons_zero, List.set_cons_succ]
        refine wpAnyH_take (i := 4) (oi := _) (v := ?_) rfl (by kernel_rfl) (by kernel_rfl) (by kernel_rfl) (fun _ _ _ h => h) (Or.inl ⟨by rfl, ?_⟩) (by assumption) ?_
        rotate_left 1
        · (intro w9 hS9; (try dsimp only at hS9); go_simp <;> with_reducible rfl)
        try simp only [List.getElem_toArray, List.getElem_cons_succ, List.getElem_cons_zero, Act.put, List.setIfInBounds_toArray, List.set_cons_zero, List.set_cons_succ]
        refine wpAnyH_take (i := 5) (oi := _) (v := ?_) rfl (by kernel_rfl) (by kernel_rfl) (by kernel_rfl) (fun _ _ _ h => h) (Or.inl ⟨by rfl, ?_⟩) (by assumption) ?_
        rotate_left 1
        · (intro w9 hS9; (try dsimp only at hS9); go_simp <;> with_reducible rfl)
        try simp only [List.getElem_toArray, List.getElem_cons_succ, List.getElem_cons_zero, Act.put, List.setIfInBounds_toArray, List.set_cons_zero, List.set_cons_succ]
        refine wpAnyH_take (i := 6) (oi := _) (v := ?_) rfl (by kernel_rfl) (by kernel_rfl) (by kernel_rfl) (fun _ _ _ h => h) (Or.inl ⟨by rfl, ?_⟩) (by assumption) ?_
        rotate_left 1
        · (intro w9 hS9; (try dsimp only at hS9); go_simp <;> with_reducible rfl)
        try simp only [List.getElem_toArray, List.getElem_cons_succ, List.getElem_cons_zero, Act.put, List.setIfInBounds_toArray, List.set_cons_zero, List.set_cons_succ]
        refine wpAnyH_take (i := 7) (oi := _) (v := ?_) rfl (by kernel_rfl) (by kernel_rfl) (by kernel_rfl) (fun _ _ _ h => h) (Or.inl ⟨by rfl, ?_⟩) (by assumption) ?_
        rotate_left 1
        · (intro w9 hS9; (try dsimp only at hS9); go_simp <;> with_reducible rfl)
        try simp only [List.getElem_toArray, List.getElem_cons_succ, List.getElem_cons_zero, Act.put, List.setIfInBounds_toArray, List.set_cons_zero, List.set_cons_succ]
        refine wpAnyH_ready (rs := [8]) (by kernel_rfl) (by simp) ?_
        refine AllReadyH.cons (o := _) rfl (fun K hK => ?_) AllReadyH.nil
        try simp only [List.getElem_toArray, List.getElem_cons_succ, List.getElem_cons_zero]
        rw [if_pos (show Region.wanted _ _ = true from rfl)]
        refine wp_store_row 24 _ _ (by rfl) (w.heap.size + 1) #[.slice (some ⟨b, off + 5, none⟩) (m - 1) (c2 - 1), .int .i64 nx] (by rfl) (by rfl) 24 _ H2.out.2.2.2.2.2.2.1.drew (by kernel_rfl) rfl (by simp [Value.oneCell']) ?_
        refine hK.out _ _ ⟨(World.cell?_of_block (setRow_other _ _ _ _ (by have := H2.out.2.2.2.2.2.2.2.2.1; dsimp only at this ⊢; omega))).trans q1, (World.cell?_of_block (setRow_other _ _ _ _ (by have := H2.out.2.2.2.2.2.2.2.2.1; dsimp only at this ⊢; omega))).trans d0, (World.cell?_of_block (setRow_other _ _ _ _ (by have := H2.out.2.2.2.2.2.2.2.2.1; dsimp only at this ⊢; omega))).trans d1, (World.cell?_of_block (setRow_other _ _ _ _ (by have := H2.out.2.2.2.2.2.2.2.2.1; dsimp only at this ⊢; omega))).trans d2, (World.cell?_of_block (setRow_other _ _ _ _ (by have := H2.out.2.2.2.2.2.2.2.2.1; dsimp only at this ⊢; omega))).trans d3, (World.cell?_of_block (setRow_other _ _ _ _ (by have := H2.out.2.2.2.2.2.2.2.2.1; dsimp only at this ⊢; omega))).trans d4⟩ (fun hHeld => ?_)
        clear hK K
        try simp only [List.getElem_toArray, List.getElem_cons_succ, List.getElem_cons_zero, Act.put, List.setIfInBounds_toArray, List.set_cons_zero, List.set_cons_succ]
        refine wpAnyH_done (by kernel_rfl) ?_ _
        refine tailQ_step rfl ?_
        go_wp2_with (refine wpList_store_row rfl _ _ _ rfl (w.heap.size + 2) _ rfl rfl 32 _ (H2.out.2.2.2.2.2.2.2.1.drew.row_far (by omega) _) (by kernel_rfl) rfl (by simp [Value.oneCell']) ?_)
        refine tailQ_step rfl ?_
        go_wp2_with fail
        refine tailQ_nil (panQ_normal ?_)
        go_wp2_with fail
        refine bodyPost_ret (results_cell_cell (t := 24) (t2 := 32) rfl _ _ (w.heap.size + 1) (w.heap.size + 2) _ _ _ _ rfl rfl ((H2.out.2.2.2.2.2.2.1.drew.setRow _).row_far (by omega) _) ((H2.out.2.2.2.2.2.2.2.1.drew.row_far (by omega) _).setRow _) Try.underlying24 rfl (by kernel_rfl) Try.underlying32 rfl (by kernel_rfl)) rfl ?_
        rw [H2.out.2.2.2.2.2.1]
        have hcut := (H2.out.2.1.cut (k := 1) hm4 H2.out.2.2.2.2.2.2.2.2.2.1).drew
        rw [if_neg hc1] at hcut
        have hge := H2.out.2.2.2.2.2.2.2.2.1
        have hnp := (H2.out.2.2.1).drop 1
        have hA : ∀ ad : Addr, 0 < m - 1 → (some ⟨b, off + 5, none⟩ : Option Addr) = some ad → w1.heap.size ≤ ad.block := by
          intro ad h0 hA
          injection hA with hA
          rw [← hA]
          exact hge
        have h4 := (hcut.row (g := w.heap.size + 1) (fun ad h0 hA9 => by have := hA ad h0 hA9; omega) (fun e he ad h0 hA9 => by have := hnp e he ad h0 hA9; omega) #[.slice (some ⟨b, off + 5, none⟩) (m - 1) (c2 - 1), .int .i64 nx]).row (g := w.heap.size + 2) (fun ad h0 hA9 => by have := hA ad h0 hA9; omega) (fun e he ad h0 hA9 => by have := hnp e he ad h0 hA9; omega) #[.int .i64 et, .int .i64 en, .int .i64 ek, .int .i64 eo, .slice eA ep.length ec]
        have hx4 := ((Reads.row (w := w2.drew) (Reads.drew H2.out.2.2.2.1) (g := w.heap.size + 1) (fun ad h0 hA9 => by have := H2.out.2.2.2.2.1 ad h0 hA9; omega) #[.slice (some ⟨b, off + 5, none⟩) (m - 1) (c2 - 1), .int .i64 nx]).row (g := w.heap.size + 2) (fun ad h0 hA9 => by have := H2.out.2.2.2.2.1 ad h0 hA9; omega) #[.int .i64 et, .int .i64 en, .int .i64 ek, .int .i64 eo, .slice eA ep.length ec]).more (B' := ((w2.drew.setRow (w.heap.size + 1) #[.slice (some ⟨b, off + 5, none⟩) (m - 1) (c2 - 1), .int .i64 nx]).setRow (w.heap.size + 2) #[.int .i64 et, .int .i64 en, .int .i64 ek, .int .i64 eo, .slice eA ep.length ec]).heap.size) (by simp)
        exact ⟨below_setRow (below_setRow (H1.out.2.1.trans ((H2.out.1.mono H1.out.2.1.size))).drew (by omega) _) (by omega) _, _, _, rfl, QVal.of nx h4 (by have := H2.out.2.2.2.2.2.2.2.2.2.1; omega), ⟨eA, ec, rfl, hx4⟩, fun A' n' c' k' hv ad h0 hA9 => by
          injection hv with hv
          simp only [Array.mk.injEq, List.cons.injEq, Value.slice.injEq, and_true] at hv
          obtain ⟨⟨rfl, rfl, rfl⟩, _⟩ := hv
          have := hA ad h0 hA9
          have := H1.out.2.1.size
          omega⟩
  · have hr1 : ((r : Int) != 0) = true := by rw [bne_iff_ne]; omega
    have HR0 := Lib.hid hr0
    clear hr0
    go_wp2_with (first | (refine wpList_store_row rfl _ _ _ rfl (w.heap.size + 1) _ rfl rfl 24 _ H1.out.2.2.2.1 (by kernel_rfl) rfl (by simp [Value.oneCell']) ?_) | (refine wpList_store_row rfl _ _ _ rfl (w.heap.size + 2) _ rfl rfl 32 _ (H1.out.2.2.2.2.row_far (by omega) _) (by kernel_rfl) rfl (by simp [Value.oneCell']) ?_))
    refine bodyPost_ret (results_cell_cell (t := 24) (t2 := 32) rfl _ _ (w.heap.size + 1) (w.heap.size + 2) _ _ _ _ rfl rfl ((H1.out.2.2.2.1.setRow _).row_far (by omega) _) ((H1.out.2.2.2.2.row_far (by omega) _).setRow _) Try.underlying24 rfl (by kernel_rfl) Try.underlying32 rfl (by kernel_rfl)) rfl ?_
    have hq : popQ (l.map Ev.em) nx = ⟨[], 0, zeroE, r⟩ := by
      unfold popQ
      rw [HRR.out, if_pos HR0.out]
    rw [hq]
    exact ⟨below_setRow (below_setRow H1.out.2.1 (by omega) _) (by omega) _, _, _, rfl, QVal.nil _ _, EVal.zero _, fun A' n' c' k' hv ad h0 hA9 => by
          injection hv with hv
          simp only [Array.mk.injEq, List.cons.injEq, Value.slice.injEq, and_true] at hv
          omega⟩
end Go.Proofs.Ytknedclejhiegaa
