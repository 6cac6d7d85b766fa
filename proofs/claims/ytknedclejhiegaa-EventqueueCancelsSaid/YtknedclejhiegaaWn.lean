/- The walk of Cancel. Condition: at most 4096 events. -/
import Derived.Test.YtknedclejhiegaaWm
import Derived.Test.YtknedclejhiegaaWj
namespace Go.Proofs.Ytknedclejhiegaa
open Go.RowKit
theorem flat_take5 (l : List Ev) (k : Nat) : (l.flatMap encEv).take (k * 5) = (l.take k).flatMap encEv := by
  induction l generalizing k with
  | nil => simp
  | cons e l ih =>
    cases k with
    | zero => simp
    | succ k =>
      rw [List.take_succ_cons, List.flatMap_cons, List.flatMap_cons, ← ih, List.take_append, encEv_len]
      rw [List.take_of_length_le (by rw [encEv_len]; omega), show (k + 1) * 5 - 5 = k * 5 by omega]
theorem flat_drop5 (l : List Ev) (k : Nat) : (l.flatMap encEv).drop (k * 5) = (l.drop k).flatMap encEv := by
  induction l generalizing k with
  | nil => simp
  | cons e l ih =>
    cases k with
    | zero => simp
    | succ k =>
      rw [List.drop_succ_cons, List.flatMap_cons, ← ih, List.drop_append, encEv_len]
      rw [List.drop_of_length_le (by rw [encEv_len]; omega), show (k + 1) * 5 - 5 = k * 5 by omega, List.nil_append]
theorem OwnE.del {W W' : World} {base : Nat} {v v' : Value} {l : List Ev} {k n : Nat} (h : OwnE W base v l) (hg : W.grownBy W' v.ownBlock) (ho : W'.ownsRow base 32 5 v' n ((l.flatMap encEv).take (k * 5) ++ (l.flatMap encEv).drop ((k + 1) * 5))) (hv : v'.ownBlock = v.ownBlock) (hk : k < l.length) (hn : l.length = n + 1) :
    OwnE W' base v' (l.take k ++ l.drop (k + 1)) := by
  refine ⟨?_, fun e he => ?_⟩
  · rw [flat_take5, flat_drop5, ← List.flatMap_append] at ho
    have e1 : (l.take k ++ l.drop (k + 1)).length = n := by rw [List.length_append, List.length_take, List.length_drop]; omega
    rw [e1]
    exact ho
  · have hm : e ∈ l := by
      rcases List.mem_append.1 he with he | he
      · exact List.mem_of_mem_take he
      · exact List.mem_of_mem_drop he
    exact ⟨evR_grown (h.ev e hm).1 (h.ev e hm).2 hg, by rw [hv]; exact (h.ev e hm).2⟩
theorem OwnE.drew {W : World} {base : Nat} {v : Value} {l : List Ev} (h : OwnE W base v l) : OwnE W.drew base v l := ⟨own_drew h.own, fun e he => ⟨(h.ev e he).1, (h.ev e he).2⟩⟩
set_option linter.unusedSimpArgs false in
set_option maxRecDepth 100000 in
set_option maxHeartbeats 4000000 in
theorem Cancel_any (A : Option Addr) (m c : Nat) (l : List Ev) (nx num : Int) (w : World) (hR : Evs w A m l) (hm : m ≤ 4096) (hmc : m ≤ c) (hp : ∀ e ∈ l, e.p.length ≤ 100000) :
    Calls Try.prog 19 #[.agg #[.slice A m c, .int .i64 nx], .int .i64 num] w (CancelR w nx (cancelQ (l.map Ev.em) nx num)) := by
  have hlen := hR.count
  have hb0 : Below w.heap.size w (((w.alloc (.cells #[.slice A m c, .int .i64 nx] 24)).alloc (.cells #[.int .i64 num] 3)).alloc (.cells #[.slice none 0 0, .int .i64 0] 24)) := ((((Below.refl _ _).alloc (Nat.le_refl _) _).alloc (by simp) _).alloc (by simp only [World.size_alloc]; omega) _)
  have g0 : Blk (((w.alloc (.cells #[.slice A m c, .int .i64 nx] 24)).alloc (.cells #[.int .i64 num] 3)).alloc (.cells #[.slice none 0 0, .int .i64 0] 24)) w.heap.size 24 #[.slice A m c, .int .i64 nx] := (((Blk.new w 24 #[.slice A m c, .int .i64 nx]).alloc _).alloc _)
  have g1 : Blk (((w.alloc (.cells #[.slice A m c, .int .i64 nx] 24)).alloc (.cells #[.int .i64 num] 3)).alloc (.cells #[.slice none 0 0, .int .i64 0] 24)) (w.alloc (.cells #[.slice A m c, .int .i64 nx] 24)).heap.size 3 #[.int .i64 num] := ((Blk.new (w.alloc (.cells #[.slice A m c, .int .i64 nx] 24)) 3 #[.int .i64 num]).alloc _)
  have g2 : Blk (((w.alloc (.cells #[.slice A m c, .int .i64 nx] 24)).alloc (.cells #[.int .i64 num] 3)).alloc (.cells #[.slice none 0 0, .int .i64 0] 24)) ((w.alloc (.cells #[.slice A m c, .int .i64 nx] 24)).alloc (.cells #[.int .i64 num] 3)).heap.size 24 #[.slice none 0 0, .int .i64 0] := (Blk.new ((w.alloc (.cells #[.slice A m c, .int .i64 nx] 24)).alloc (.cells #[.int .i64 num] 3)) 24 #[.slice none 0 0, .int .i64 0])
  simp only [World.size_alloc] at g0 g1 g2
  have hs0 : (((w.alloc (.cells #[.slice A m c, .int .i64 nx] 24)).alloc (.cells #[.int .i64 num] 3)).alloc (.cells #[.slice none 0 0, .int .i64 0] 24)).heap.size = w.heap.size + 3 := by simp
  have HX := Lib.hid (And.intro (hR.up hb0) (And.intro hlen (And.intro hp (And.intro hb0 hR))))
  clear hR hlen hp hb0
  go_enter Try.func19, Try.ntmps19
  go_upto_region 1 with fail
  generalize (((w.alloc (.cells #[.slice A m c, .int .i64 nx] 24)).alloc (.cells #[.int .i64 num] 3)).alloc (.cells #[.slice none 0 0, .int .i64 0] 24)) = W at *
  have q0 : W.cell? ⟨w.heap.size, 0, none⟩ = some (.slice A m c) := g0.cell 0
  have q1 : W.cell? ⟨w.heap.size, 1, none⟩ = some (.int .i64 nx) := g0.cell 1
  go_wp2_with fail
  refine (Check_any A m c l nx W HX.out.1 hm hmc).mono ?_
  rintro e w1 ⟨rfl, hb1⟩
  have hbw : Below w.heap.size w w1 := HX.out.2.2.2.1.trans (hb1.mono HX.out.2.2.2.1.size)
  have G0 := g0.below hb1 (by omega)
  have G1 := g1.below hb1 (by omega)
  have G2 := g2.below hb1 (by omega)
  have hs1 := hb1.size
  have H1 := Lib.hid (And.intro (HX.out.1.up hb1) (And.intro hbw (And.intro G0 (And.intro G1 G2))))
  clear hb1 hbw g0 g1 g2 q0 q1 G0 G1 G2
  have q0 : w1.cell? ⟨w.heap.size, 0, none⟩ = some (.slice A m c) := H1.out.2.2.1.cell 0
  have q1 : w1.cell? ⟨w.heap.size, 1, none⟩ = some (.int .i64 nx) := H1.out.2.2.1.cell 1
  obtain ⟨r, hr⟩ : ∃ r, chkQ nx (l.map Ev.em) = r := ⟨_, rfl⟩
  rw [hr]
  have HRR := Lib.hid hr
  clear hr
  by_cases hr0 : r = 0
  · subst hr0
    go_wp2_with fail
    refine (idx40_any A m c l (w.heap.size + 1) num w1 H1.out.1 (by omega) (H1.out.2.2.2.1.cell 0) (by omega)).mono ?_
    rintro e w2 ⟨rfl, hb2⟩
    have hs2 := hb2.size
    have H2 := Lib.hid (And.intro hb2 (And.intro (H1.out.1.up hb2) (And.intro (H1.out.2.2.1.below hb2 (by omega)) (H1.out.2.2.2.2.below hb2 (by omega)))))
    clear hb2 q0 q1
    have q0 : w2.cell? ⟨w.heap.size, 0, none⟩ = some (.slice A m c) := H2.out.2.2.1.cell 0
    have q1 : w2.cell? ⟨w.heap.size, 1, none⟩ = some (.int .i64 nx) := H2.out.2.2.1.cell 1
    cases hi : idxB (numB num) (l.map Ev.em) with
    | none =>
      have hq : cancelQ (l.map Ev.em) nx num = (l.map Ev.em, false) := by
        unfold cancelQ
        rw [HRR.out, if_neg (by simp), hi]
      have hz : idxI (numB num) (l.map Ev.em) = -1 := by unfold idxI; rw [hi]
      rw [hz]
      have HQ := Lib.hid hq
      clear hz hq hi
      go_wp2_with (refine wpList_store_row rfl _ _ _ rfl (w.heap.size + 2) _ rfl rfl 24 _ H2.out.2.2.2 (by kernel_rfl) rfl (by simp [Value.oneCell']) ?_)
      refine bodyPost_ret (results_cell_tmp (t := 24) rfl _ _ (w.heap.size + 2) _ _ rfl (H2.out.2.2.2.setRow _) Try.underlying24 rfl (by kernel_rfl)) rfl ?_
      rw [HQ.out]
      have hB := below_setRow (H1.out.2.1.trans (H2.out.1.mono H1.out.2.1.size)) (g := w.heap.size + 2) (by omega) #[.slice A m c, .int .i64 nx]
      exact ⟨hB, _, rfl, QVal.of nx (HX.out.2.2.2.2.up hB) hmc⟩
    | some k =>
      have hz : idxI (numB num) (l.map Ev.em) = (k : Nat) := by unfold idxI; rw [hi]
      have hkl := (idxB_lt hi).1
      rw [List.length_map, HX.out.2.1] at hkl
      have hq : cancelQ (l.map Ev.em) nx num = ((l.map Ev.em).take k ++ (l.map Ev.em).drop (k + 1), true) := by
        unfold cancelQ
        rw [HRR.out, if_neg (by simp), hi]
      rw [hz]
      have HQ := Lib.hid hq
      clear hz hq hi q1
      have kk0 : (0 : Int) ≤ k := by omega
      obtain ⟨M, rfl⟩ : ∃ M, m = M + 1 := ⟨m - 1, by omega⟩
      go_wp2_with fail
      refine (events_any A (M + 1) c l w2 H2.out.2.1 (by omega) HX.out.2.2.1).mono ?_
      rintro e w3 ⟨hb3, v3, es, rfl, hE, hem, hnp⟩
      obtain ⟨A2, c2, rfl⟩ := hE.form
      have hel : es.length = M + 1 := by
        have := congrArg List.length hem
        rw [List.length_map, List.length_map, HX.out.2.1] at this
        exact this
      rw [hel] at hE ⊢
      have hs3 := hb3.size
      have q1 : w3.cell? ⟨w.heap.size, 1, none⟩ = some (.int .i64 nx) := (H2.out.2.2.1.below hb3 (by omega)).cell 1
      have H3 := Lib.hid (And.intro hb3 (And.intro hE (And.intro (And.intro hem hnp) (And.intro (H2.out.2.2.2.below hb3 (by omega)) hel))))
      clear hb3 hE hem hnp hel q0
      have kw : IntKind.i64.wrap ((k : Int) + 1) = (k : Int) + 1 := by rw [IntWalk.i64_in _ (by omega)]
      go_upto_region 7 with fail
      refine wp_pan (Pc := fun _ _ _ => False) (fun _ _ _ h => h.elim) ?_
      refine wp_region_tail_lit (S := fun V => V.cell? ⟨w.heap.size, 1, none⟩ = some (.int .i64 nx) ∧ True) 8 (by kernel_rfl) (by kernel_rfl) ⟨q1, trivial⟩ (fun hHeld => ?_)
      simp only [List.take, List.drop]
      refine wpAnyH_take (i := 0) (oi := _) (v := ?_) rfl (by kernel_rfl) (by kernel_rfl) (by kernel_rfl) (fun _ _ _ h => h) (Or.inl ⟨by rfl, ?_⟩) (by assumption) ?_
      rotate_left 1
      · (intro w9 hS9; (try dsimp only at hS9); go_simp <;> with_reducible rfl)
      try simp only [List.getElem_toArray, List.getElem_cons_succ, List.getElem_cons_zero, Act.put, List.setIfInBounds_toArray, List.set_cons_zero, List.set_cons_succ]
      refine wpAnyH_take (i := 1) (oi := _) (v := ?_) rfl (by kernel_rfl) (by kernel_rfl) (by kernel_rfl) (fun _ _ _ h => h) (Or.inl ⟨by rfl, ?_⟩) (by assumption) ?_
      rotate_left 1
      · (intro w9 hS9; (try dsimp only at hS9); go_simp <;> with_reducible rfl)
      try simp only [List.getElem_toArray, List.getElem_cons_succ, List.getElem_cons_zero, Act.put, List.setIfInBounds_toArray, List.set_cons_zero, List.set_cons_succ]
      refine wpAnyH_take (i := 2) (oi := _) (v := ?_) rfl (by kernel_rfl) (by kernel_rfl) (by kernel_rfl) (fun _ _ _ h => h) (Or.inl ⟨by rfl, ?_⟩) (by assumption) ?_
      rotate_left 1
      · (intro w9 hS9; (try dsimp only at hS9); go_simp <;> with_reducible rfl)
      try simp only [List.getElem_toArray, List.getElem_cons_succ, List.getElem_cons_zero, Act.put, List.setIfInBounds_toArray, List.set_cons_zero, List.set_cons_succ]
      refine wpAnyH_take (i := 3) (oi := _) (v := ?_) rfl (by kernel_rfl) (by kernel_rfl) (by kernel_rfl) (fun _ _ _ h => h) (Or.inl ⟨by rfl, ?_⟩) (by assumption) ?_
      rotate_left 1
      · (intro w9 hS9; (try dsimp only at hS9); go_simp <;> with_reducible rfl)
      try simp only [List.getElem_toArray, List.getElem_cons_succ, List.getElem_cons_zero, Act.put, List.setIfInBounds_toArray, List.set_cons_zero, List.set_cons_succ]
      refine wpAnyH_take (i := 5) (oi := _) (v := ?_) rfl (by kernel_rfl) (by kernel_rfl) (by kernel_rfl) (fun _ _ _ h => h) (Or.inl ⟨by rfl, ?_⟩) (by assumption) ?_
      rotate_left 1
      · (intro w9 hS9; (try dsimp only at hS9); go_simp <;> with_reducible rfl)
      try simp only [List.getElem_toArray, List.getElem_cons_succ, List.getElem_cons_zero, Act.put, List.setIfInBounds_toArray, List.set_cons_zero, List.set_cons_succ]
      refine wpAnyH_take (i := 6) (oi := _) (v := ?_) rfl (by kernel_rfl) (by kernel_rfl) (by kernel_rfl) (fun _ _ _ h => h) (Or.inl ⟨by rfl, ?_⟩) (by assumption) ?_
      rotate_left 1
      · (intro w9 hS9; (try dsimp only at hS9); go_simp <;> with_reducible rfl)
      try simp only [List.getElem_toArray, List.getElem_cons_succ, List.getElem_cons_zero, Act.put, List.setIfInBounds_toArray, List.set_cons_zero, List.set_cons_succ]
      refine wpAnyH_ready (rs := [4]) (by kernel_rfl) (by simp) ?_
      refine AllReadyH.cons (o := _) rfl (fun K hK => ?_) AllReadyH.nil
      try simp only [List.getElem_toArray, List.getElem_cons_succ, List.getElem_cons_zero]
      go_simp
      refine (Delete_any w2.heap.size k (.slice A2 (M + 1) c2) M (es.flatMap encEv) w3.drew (by have h := H3.out.2.1.own.drew; rw [H3.out.2.2.2.2] at h; exact h) (encEv_one _) (by omega) (by omega)).mono ?_
      rintro e w4 ⟨⟨v4, rfl, ho4, hv4⟩, hg4⟩
      have hE4 := OwnE.del H3.out.2.1.drew hg4 ho4 hv4 (by rw [H3.out.2.2.2.2]; omega) H3.out.2.2.2.2
      obtain ⟨A4, c4, rfl, _, _, _⟩ := own_slice ho4
      have hlow := own_block_ge H3.out.2.1.own
      have hb4 : Below w2.heap.size w3 w4 := ((Below.refl w2.heap.size w3).drew).grown hg4 (by have := H3.out.1.size; exact this) hlow
      go_wp2_with fail
      refine hK.out _ _ ⟨(hb4.cell (p := ⟨w.heap.size, 1, none⟩) (by dsimp only; omega)).trans q1, trivial⟩ (fun hHeld => ?_)
      clear hK K
      try simp only [List.getElem_toArray, List.getElem_cons_succ, List.getElem_cons_zero, Act.put, List.setIfInBounds_toArray, List.set_cons_zero, List.set_cons_succ]
      refine wpAnyH_take (i := 7) (oi := _) (v := ?_) rfl (by kernel_rfl) (by kernel_rfl) (by kernel_rfl) (fun _ _ _ h => h) (Or.inl ⟨by rfl, ?_⟩) (by assumption) ?_
      rotate_left 1
      · (intro w9 hS9; (try dsimp only at hS9); go_simp <;> with_reducible rfl)
      try simp only [List.getElem_toArray, List.getElem_cons_succ, List.getElem_cons_zero, Act.put, List.setIfInBounds_toArray, List.set_cons_zero, List.set_cons_succ]
      refine wpAnyH_done (by kernel_rfl) ?_ _
      refine tailQ_step rfl ?_
      go_wp2_with (refine wpList_store_row rfl _ _ _ rfl (w.heap.size + 2) _ rfl rfl 24 _ (H3.out.2.2.2.1.below hb4 (by omega)) (by kernel_rfl) rfl (by simp [Value.oneCell']) ?_)
      refine tailQ_step rfl ?_
      go_wp2_with fail
      refine tailQ_nil (panQ_normal ?_)
      go_wp2_with fail
      refine bodyPost_ret (results_cell_tmp (t := 24) rfl _ _ (w.heap.size + 2) _ _ rfl ((H3.out.2.2.2.1.below hb4 (by omega)).setRow _) Try.underlying24 rfl (by kernel_rfl)) rfl ?_
      rw [HQ.out]
      obtain ⟨hev, hl4, hc4, _⟩ := hE4.evs
      have hnp4 : NewP w2.heap.size (es.take k ++ es.drop (k + 1)) := by
        intro e he
        rcases List.mem_append.1 he with he | he
        · exact H3.out.2.2.1.2 e (List.mem_of_mem_take he)
        · exact H3.out.2.2.1.2 e (List.mem_of_mem_drop he)
      have hA4 := own_addr ho4
      have h4 := hev.row (g := w.heap.size + 2) (fun ad h0 hA9 => by have := hA4 ad h0 hA9; omega) (fun e he ad h0 hA9 => by have := hnp4 e he ad h0 hA9; omega) #[.slice A4 M c4, .int .i64 nx]
      have hB := below_setRow (H1.out.2.1.trans ((H2.out.1.trans ((H3.out.1.trans (hb4.mono (Nat.le_refl _))).mono H2.out.1.size)).mono H1.out.2.1.size)) (g := w.heap.size + 2) (by omega) #[.slice A4 M c4, .int .i64 nx]
      have hv := QVal.of nx h4 hc4
      rw [List.map_append, List.map_take, List.map_drop, H3.out.2.2.1.1] at hv
      exact ⟨hB, _, rfl, hv⟩
  · have hr1 : ((r : Int) != 0) = true := by rw [bne_iff_ne]; omega
    have HR0 := Lib.hid hr0
    clear hr0
    go_wp2_with (refine wpList_store_row rfl _ _ _ rfl (w.heap.size + 2) _ rfl rfl 24 _ H1.out.2.2.2.2 (by kernel_rfl) rfl (by simp [Value.oneCell']) ?_)
    refine bodyPost_ret (results_cell_tmp (t := 24) rfl _ _ (w.heap.size + 2) _ _ rfl (H1.out.2.2.2.2.setRow _) Try.underlying24 rfl (by kernel_rfl)) rfl ?_
    have hq : cancelQ (l.map Ev.em) nx num = (l.map Ev.em, false) := by
      unfold cancelQ
      rw [HRR.out, if_pos HR0.out]
    rw [hq]
    have hB := below_setRow H1.out.2.1 (g := w.heap.size + 2) (by omega) #[.slice A m c, .int .i64 nx]
    exact ⟨hB, _, rfl, QVal.of nx (HX.out.2.2.2.2.up hB) hmc⟩
end Go.Proofs.Ytknedclejhiegaa
