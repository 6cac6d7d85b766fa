/- The walks of the laws EventqueueChecks and EventqueueAdds. No condition. -/
import Derived.Test.YtknedclejhiegaaWy
import Derived.Test.YtknedclejhiegaaWt
import Derived.Test.YtknedclejhiegaaArgs
import Derived.Test.YtknedclejhiegaaLibP
namespace Go.Proofs.Ytknedclejhiegaa
open Go.RowKit
theorem few_facts {l : List Ev} {m : Nat} (hl : l.length = m) (h : fewB (l.map Ev.em) = true) : m ≤ 60 ∧ ∀ e ∈ l, e.p.length ≤ 5000 := by
  obtain ⟨h1, h2⟩ := fewB_true h
  rw [List.length_map, hl] at h1
  exact ⟨h1, fun e he => h2 e.em (List.mem_map_of_mem he)⟩
theorem unwanted {a : Bool} {C E : Prop} (h : a = false) (hK : E) : if a = true then C else E := by
  subst h
  exact hK
theorem q_cells {X w' : World} {s : Nat} {u v : Value} (hb : Below X.heap.size X w') (h0 : X.cell? ⟨s, 0, none⟩ = some u) (h1 : X.cell? ⟨s, 1, none⟩ = some v) (ls : s < X.heap.size) : w'.cell? ⟨s, 0, none⟩ = some u ∧ w'.cell? ⟨s, 1, none⟩ = some v ∧ Below X.heap.size X w' :=
  ⟨(hb.cell (p := ⟨s, 0, none⟩) ls).trans h0, (hb.cell (p := ⟨s, 1, none⟩) ls).trans h1, hb⟩
set_option linter.unusedSimpArgs false in
set_option maxRecDepth 100000 in
set_option maxHeartbeats 4000000 in
theorem walkEventqueueChecks (w : World) (v0 : Value) (h0 : Arg24 w v0) : Calls Try.prog 3 #[v0] w fun e w' => e = .returned (.bool true) ∧ Below w.heap.size w w' := by
  obtain ⟨A, m, c, l, nx, rfl, hR, hmc, hcm⟩ := h0
  have hlen := hR.count
  have hb0 : Below w.heap.size w (w.alloc (.cells #[.slice A m c, .int .i64 nx] 24)) := (Below.refl _ _).alloc (Nat.le_refl _) _
  have g0 := Blk.new w 24 #[.slice A m c, .int .i64 nx]
  have hls : w.heap.size < (w.alloc (.cells #[.slice A m c, .int .i64 nx] 24)).heap.size := by simp
  go_enter Try.func3, Try.ntmps3
  go_wp2_with fail
  have HF : Hid (∀ W, Below (w.alloc (.cells #[.slice A m c, .int .i64 nx] 24)).heap.size (w.alloc (.cells #[.slice A m c, .int .i64 nx] 24)) W → Calls Try.prog 11 #[.agg #[.slice A m c, .int .i64 nx]] W fun e w' => e = .returned (.bool (fewB (l.map Ev.em))) ∧ Below W.heap.size W w') := fun W hW => few_any A m c l nx W ((hR.up hb0).up hW) (by omega)
  have HEV := Lib.hid (hR.up hb0)
  have q0 : (w.alloc (.cells #[.slice A m c, .int .i64 nx] 24)).cell? ⟨w.heap.size, 0, none⟩ = some (.slice A m c) := g0.cell 0
  have q1 : (w.alloc (.cells #[.slice A m c, .int .i64 nx] 24)).cell? ⟨w.heap.size, 1, none⟩ = some (.int .i64 nx) := g0.cell 1
  have HB := Lib.hid hb0
  have HL := Lib.hid hlen
  clear g0 hb0 hR hlen
  generalize (w.alloc (.cells #[.slice A m c, .int .i64 nx] 24)) = X at *
  obtain ⟨f, hf⟩ : ∃ f, fewB (l.map Ev.em) = f := ⟨_, rfl⟩
  rw [hf] at HF
  cases f with
  | true =>
    obtain ⟨hm60, hp⟩ := few_facts HL.out hf
    have HC : Hid (∀ W, Below X.heap.size X W → Calls Try.prog 12 #[.agg #[.slice A m c, .int .i64 nx]] W fun e w' => e = .returned (.int .i64 (chkQ nx (l.map Ev.em) : Nat)) ∧ Below W.heap.size W w') := fun W hW => Check_any A m c l nx W (HEV.out.up hW) (by omega) hmc
    have HD : Hid (∀ W, Below X.heap.size X W → Calls Try.prog 13 #[.agg #[.slice A m c, .int .i64 nx]] W fun e w' => e = .returned (.int .i64 (chkQ nx (l.map Ev.em) : Nat)) ∧ Below W.heap.size W w') := fun W hW => refCheck_any A m c l nx W (HEV.out.up hW) (by omega)
    clear hf hp
    generalize chkQ nx (l.map Ev.em) = r at *
    go_region_held3 (fun w' => w'.cell? ⟨w.heap.size, 0, none⟩ = some (.slice A m c) ∧ w'.cell? ⟨w.heap.size, 1, none⟩ = some (.int .i64 nx) ∧ Below X.heap.size X w')
      (first
        | exact q_cells ((Below.refl _ X).drew) q0 q1 hls
        | (go_split_ands; refine q_cells (below_step ?_ hb') q0 q1 hls; assumption)
        | (go_split_ands; refine q_cells ?_ q0 q1 hls; assumption))
      (first
        | (go_at_call 10; refine (awake_any _).mono ?_; rintro e w' ⟨rfl, hb'⟩)
        | (go_at_call 11; refine (HF.out _ (by go_split_ands; first | assumption | exact Below.drew (by assumption))).mono ?_; rintro e w' ⟨rfl, hb'⟩)
        | (go_at_call 12; refine (HC.out _ (by go_split_ands; first | assumption | exact Below.drew (by assumption))).mono ?_; rintro e w' ⟨rfl, hb'⟩)
        | (go_at_call 13; refine (HD.out _ (by go_split_ands; first | assumption | exact Below.drew (by assumption))).mono ?_; rintro e w' ⟨rfl, hb'⟩))
    rename_i hS
    go_split_ands
    go_wp2_with fail
    go_ret
    exact ⟨by simp, HB.out.trans (Below.mono (by first | exact below_step (by assumption) hb' | assumption) HB.out.size)⟩
  | false =>
    clear hf
    refine wp_pan (Pc := fun _ _ _ => False) (fun _ _ _ h => h.elim) ?_
    refine wp_region_tail_lit (S := fun V => V.cell? ⟨w.heap.size, 0, none⟩ = some (.slice A m c) ∧ V.cell? ⟨w.heap.size, 1, none⟩ = some (.int .i64 nx) ∧ Below X.heap.size X V) 13 (by kernel_rfl) (by kernel_rfl) (q_cells ((Below.refl _ X).drew) q0 q1 hls) (fun hHeld => ?_)
    simp only [List.take, List.drop]
    refine wpAnyH_ready (rs := [0]) (by kernel_rfl) (by simp) ?_
    refine AllReadyH.cons (o := _) rfl (fun K hK => ?_) AllReadyH.nil
    try simp only [List.getElem_toArray, List.getElem_cons_succ, List.getElem_cons_zero]
    go_simp
    refine (awake_any _).mono ?_
    rintro e wa ⟨rfl, hba⟩
    have hwa : Below X.heap.size X wa := (Below.refl _ X).drew.trans hba
    go_wp2_with fail
    refine hK.out _ _ (q_cells hwa q0 q1 hls) (fun hHeld => ?_)
    clear hK K
    try simp only [List.getElem_toArray, List.getElem_cons_succ, List.getElem_cons_zero, Act.put, List.setIfInBounds_toArray, List.set_cons_zero, List.set_cons_succ]
    refine wpAnyH_take (i := 1) (oi := _) (v := ?_) rfl (by kernel_rfl) (by kernel_rfl) (by kernel_rfl) (fun _ _ _ h => h) (Or.inl ⟨by rfl, ?_⟩) (by assumption) ?_
    rotate_left 1
    · (intro w9 hS9; (try dsimp only at hS9); go_simp <;> with_reducible rfl)
    try simp only [List.getElem_toArray, List.getElem_cons_succ, List.getElem_cons_zero, Act.put, List.setIfInBounds_toArray, List.set_cons_zero, List.set_cons_succ]
    refine wpAnyH_take (i := 2) (oi := _) (v := ?_) rfl (by kernel_rfl) (by kernel_rfl) (by kernel_rfl) (fun _ _ _ h => h) (Or.inl ⟨by rfl, ?_⟩) (by assumption) ?_
    rotate_left 1
    · (intro w9 hS9; (try dsimp only at hS9); go_simp <;> with_reducible rfl)
    try simp only [List.getElem_toArray, List.getElem_cons_succ, List.getElem_cons_zero, Act.put, List.setIfInBounds_toArray, List.set_cons_zero, List.set_cons_succ]
    refine wpAnyH_ready (rs := [3]) (by kernel_rfl) (by simp) ?_
    refine AllReadyH.cons (o := _) rfl (fun K hK => ?_) AllReadyH.nil
    try simp only [List.getElem_toArray, List.getElem_cons_succ, List.getElem_cons_zero]
    go_simp
    refine (HF.out wa hwa).mono ?_
    rintro e wb ⟨rfl, hbb⟩
    have hwb : Below X.heap.size X wb := hwa.trans (hbb.mono hwa.size)
    go_wp2_with fail
    refine hK.out _ _ (q_cells hwb q0 q1 hls) (fun hHeld => ?_)
    clear hK K
    try simp only [List.getElem_toArray, List.getElem_cons_succ, List.getElem_cons_zero, Act.put, List.setIfInBounds_toArray, List.set_cons_zero, List.set_cons_succ]
    refine wpAnyH_take (i := 4) (oi := _) (v := ?_) rfl (by kernel_rfl) (by kernel_rfl) (by kernel_rfl) (fun _ _ _ h => h) (Or.inl ⟨by rfl, ?_⟩) (by assumption) ?_
    rotate_left 1
    · (intro w9 hS9; (try dsimp only at hS9); go_simp <;> with_reducible rfl)
    try simp only [List.getElem_toArray, List.getElem_cons_succ, List.getElem_cons_zero, Act.put, List.setIfInBounds_toArray, List.set_cons_zero, List.set_cons_succ]
    refine wpAnyH_take (i := 5) (oi := _) (v := ?_) rfl (by kernel_rfl) (by kernel_rfl) (by kernel_rfl) (fun _ _ _ h => h) (Or.inl ⟨by rfl, ?_⟩) (by assumption) ?_
    rotate_left 1
    · (intro w9 hS9; (try dsimp only at hS9); go_simp <;> with_reducible rfl)
    try simp only [List.getElem_toArray, List.getElem_cons_succ, List.getElem_cons_zero, Act.put, List.setIfInBounds_toArray, List.set_cons_zero, List.set_cons_succ]
    refine wpAnyH_take (i := 6) (oi := _) (v := undef) rfl (by kernel_rfl) (by kernel_rfl) (by kernel_rfl) (fun _ _ _ h => h) (Or.inr ⟨by rfl, rfl⟩) (by assumption) ?_
    try simp only [List.getElem_toArray, List.getElem_cons_succ, List.getElem_cons_zero, Act.put, List.setIfInBounds_toArray, List.set_cons_zero, List.set_cons_succ]
    refine wpAnyH_take (i := 8) (oi := _) (v := undef) rfl (by kernel_rfl) (by kernel_rfl) (by kernel_rfl) (fun _ _ _ h => h) (Or.inr ⟨by rfl, rfl⟩) (by assumption) ?_
    try simp only [List.getElem_toArray, List.getElem_cons_succ, List.getElem_cons_zero, Act.put, List.setIfInBounds_toArray, List.set_cons_zero, List.set_cons_succ]
    refine wpAnyH_ready (rs := [7]) (by kernel_rfl) (by simp) ?_
    refine AllReadyH.cons (o := _) rfl (fun K hK => ?_) AllReadyH.nil
    try simp only [List.getElem_toArray, List.getElem_cons_succ, List.getElem_cons_zero]
    refine unwanted (by rfl) ?_
    refine hK.out _ _ (q_cells hwb q0 q1 hls) (fun hHeld => ?_)
    clear hK K
    try simp only [List.getElem_toArray, List.getElem_cons_succ, List.getElem_cons_zero, Act.put, List.setIfInBounds_toArray, List.set_cons_zero, List.set_cons_succ]
    refine wpAnyH_ready (rs := [9]) (by kernel_rfl) (by simp) ?_
    refine AllReadyH.cons (o := _) rfl (fun K hK => ?_) AllReadyH.nil
    try simp only [List.getElem_toArray, List.getElem_cons_succ, List.getElem_cons_zero]
    refine unwanted (by rfl) ?_
    refine hK.out _ _ (q_cells hwb q0 q1 hls) (fun hHeld => ?_)
    clear hK K
    try simp only [List.getElem_toArray, List.getElem_cons_succ, List.getElem_cons_zero, Act.put, List.setIfInBounds_toArray, List.set_cons_zero, List.set_cons_succ]
    refine wpAnyH_take (i := 10) (oi := _) (v := undef) rfl (by kernel_rfl) (by kernel_rfl) (by kernel_rfl) (fun _ _ _ h => h) (Or.inr ⟨by rfl, rfl⟩) (by assumption) ?_
    try simp only [List.getElem_toArray, List.getElem_cons_succ, List.getElem_cons_zero, Act.put, List.setIfInBounds_toArray, List.set_cons_zero, List.set_cons_succ]
    refine wpAnyH_take (i := 11) (oi := _) (v := ?_) rfl (by kernel_rfl) (by kernel_rfl) (by kernel_rfl) (fun _ _ _ h => h) (Or.inl ⟨by rfl, ?_⟩) (by assumption) ?_
    rotate_left 1
    · (intro w9 hS9; (try dsimp only at hS9); go_simp <;> with_reducible rfl)
    try simp only [List.getElem_toArray, List.getElem_cons_succ, List.getElem_cons_zero, Act.put, List.setIfInBounds_toArray, List.set_cons_zero, List.set_cons_succ]
    refine wpAnyH_take (i := 12) (oi := _) (v := ?_) rfl (by kernel_rfl) (by kernel_rfl) (by kernel_rfl) (fun _ _ _ h => h) (Or.inl ⟨by rfl, ?_⟩) (by assumption) ?_
    rotate_left 1
    · (intro w9 hS9; (try dsimp only at hS9); go_simp <;> with_reducible rfl)
    try simp only [List.getElem_toArray, List.getElem_cons_succ, List.getElem_cons_zero, Act.put, List.setIfInBounds_toArray, List.set_cons_zero, List.set_cons_succ]
    refine wpAnyH_done (by kernel_rfl) ?_ _
    refine tailQ_step rfl ?_
    go_wp2_with fail
    refine tailQ_nil (panQ_normal ?_)
    go_wp2_with fail
    go_ret
    exact ⟨by simp, HB.out.trans (hwb.mono HB.out.size)⟩
end Go.Proofs.Ytknedclejhiegaa
