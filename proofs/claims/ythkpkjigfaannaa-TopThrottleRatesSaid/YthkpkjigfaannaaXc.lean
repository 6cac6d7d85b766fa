/- The walk of newCarrier over a link of one capacity. No condition. -/
import Derived.Test.YthkpkjigfaannaaXa
import Derived.Test.YthkpkjigfaannaaLibX
import Derived.Deep.CutRange
namespace Go.Proofs.Ythkpkjigfaannaa
open Go.RowKit
theorem info3c : (Try.prog.info? 3).map (fun i => (i.zero, i.size, i.bytes)) = some (some (.int .i64 0), 1, 8) := by kernel_rfl
/-- a carrier of one capacity -/
def CarI (w : World) (g : Nat) (r : Int) : Prop := ∃ A c, Blk w g 98 #[.slice A 2 c, .int .i64 r] ∧ RdI w A 2 [0, r]
set_option maxRecDepth 100000 in
set_option maxHeartbeats 2000000 in
set_option linter.unusedSimpArgs false in
theorem newCarrier_any (A0 : Option Addr) (c0 : Nat) (r : Int) (w : World) (hR : RdI w A0 1 [r]) (hr : 0 ≤ r ∧ r ≤ 4096) :
    Calls Try.prog 42 #[.slice A0 1 c0] w fun e w' => ∃ g, e = .returned (.pointer (some ⟨g, 0, none⟩)) ∧ w.heap.size ≤ g ∧ CarI w' g r ∧ Below w.heap.size w w' := by
  obtain ⟨g0, off, hg0, hc0⟩ := hR.cells
  obtain ⟨rfl, hgw⟩ := hg0 (by simp)
  have d0 := hc0 0 (by simp)
  change w.cell? ⟨g0, off, none⟩ = some (.int .i64 r) at d0
  clear hc0 hg0 hR
  go_enter Try.func42, Try.ntmps42
  go_wp2_with fail
  obtain ⟨X0, hX0⟩ : ∃ X0, (w.alloc (.cells #[.int .i64 0] 3)).alloc (.cells #[.slice (some ⟨w.heap.size, 0, none⟩) 1 1, .int .i64 0] 98) = X0 := ⟨_, rfl⟩
  have hs0 : X0.heap.size = w.heap.size + 2 := by rw [← hX0]; simp
  have hb0 : Below w.heap.size w X0 := by rw [← hX0]; exact ((Below.refl _ w).alloc (Nat.le_refl _) _).alloc (by simp) _
  have hB1 : Blk X0 w.heap.size 3 #[.int .i64 0] := by rw [← hX0]; exact (Blk.new w 3 _).alloc _
  have hB2 : Blk X0 (w.heap.size + 1) 98 #[.slice (some ⟨w.heap.size, 0, none⟩) 1 1, .int .i64 0] := by
    have h := Blk.new (w.alloc (.cells #[.int .i64 0] 3)) 98 #[.slice (some ⟨w.heap.size, 0, none⟩) 1 1, .int .i64 0]
    simp only [World.size_alloc] at h
    rw [← hX0]
    exact h
  rw [hX0]
  clear hX0
  go_loopw [5, 11] (fun t5 t11 wr => (t11 = .int .i64 0 ∧ wr = X0) ∨ (t11 = .int .i64 1 ∧ CarI wr (w.heap.size + 1) r ∧ Below w.heap.size w wr)) (fun _ i _ => 1 - (intOf i).toNat)
  case atStart => exact .inl ⟨rfl, rfl⟩
  case round =>
    rcases hrel with ⟨rfl, rfl⟩ | ⟨rfl, hC, hb⟩
    · have kc0 : wr.cell? ⟨w.heap.size + 1, 0, none⟩ = some (.slice (some ⟨w.heap.size, 0, none⟩) 1 1) := hB2.cell 0
      have ks0 : wr.cell? ⟨w.heap.size, 0, none⟩ = some (.int .i64 0) := hB1.cell 0
      have d1 : wr.cell? ⟨g0, off, none⟩ = some (.int .i64 r) := (hb0.cell (p := ⟨g0, off, none⟩) hgw).trans d0
      have hw0 : IntKind.i64.wrap 0 = 0 := by decide
      have hwr : IntKind.i64.wrap r = r := IntWalk.i64_in _ (by omega)
      go_wp2_with fail
      refine wp_region_tail_lit (S := fun w' => w'.cell? ⟨w.heap.size + 1, 0, none⟩ = some (.slice (some ⟨w.heap.size, 0, none⟩) 1 1)) 21 (by kernel_rfl) (by kernel_rfl) kc0 (fun hHeld => ?_)
      simp only [List.take, List.drop]
      refine wpAnyH_take (i := 0) (oi := _) (v := ?_) rfl (by kernel_rfl) (by kernel_rfl) (by kernel_rfl) (fun _ _ _ h => h) (Or.inl ⟨by rfl, ?_⟩) (by assumption) ?_
      rotate_left 1
      · (intro w9 hS9; (try dsimp only at hS9); go_simp <;> with_reducible rfl)
      try simp only [List.getElem_toArray, List.getElem_cons_succ, List.getElem_cons_zero, Act.put, List.setIfInBounds_toArray, List.set_cons_zero, List.set_cons_succ]
      refine wpAnyH_take (i := 1) (oi := _) (v := ?_) rfl (by kernel_rfl) (by kernel_rfl) (by kernel_rfl) (fun _ _ _ h => h) (Or.inl ⟨by rfl, ?_⟩) (by assumption) ?_
      rotate_left 1
      · (intro w9 hS9; (try dsimp only at hS9); go_simp <;> with_reducible rfl)
      try simp only [List.getElem_toArray, List.getElem_cons_succ, List.getElem_cons_zero, Act.put, List.setIfInBounds_toArray, List.set_cons_zero, List.set_cons_succ]
      refine wpAnyH_take (i := 2) (oi := _) (v := ?_) rfl (by kernel_rfl) (by kernel_rfl) (by kernel_rfl) (fun _ _ _ h => h) (Or.inl ⟨by rfl, ?_⟩) (by assumption) ?_
      rotate_left 1
      · (intro w9 hS9; (try dsimp only at hS9); go_simp <;> with_reducible rfl)
      try simp only [List.getElem_toArray, List.getElem_cons_succ, List.getElem_cons_zero, Act.put, List.setIfInBounds_toArray, List.set_cons_zero, List.set_cons_succ]
      refine wpAnyH_take (i := 3) (oi := _) (v := ?_) rfl (by kernel_rfl) (by kernel_rfl) (by kernel_rfl) (fun _ _ _ h => h) (Or.inl ⟨by rfl, ?_⟩) (by assumption) ?_
      rotate_left 1
      · (intro w9 hS9; (try dsimp only at hS9); go_simp <;> with_reducible rfl)
      try simp only [List.getElem_toArray, List.getElem_cons_succ, List.getElem_cons_zero, Act.put, List.setIfInBounds_toArray, List.set_cons_zero, List.set_cons_succ]
      refine wpAnyH_take (i := 4) (oi := _) (v := ?_) rfl (by kernel_rfl) (by kernel_rfl) (by kernel_rfl) (fun _ _ _ h => h) (Or.inl ⟨by rfl, ?_⟩) (by assumption) ?_
      rotate_left 1
      · (intro w9 hS9; (try dsimp only at hS9); go_simp <;> with_reducible rfl)
      try simp only [List.getElem_toArray, List.getElem_cons_succ, List.getElem_cons_zero, Act.put, List.setIfInBounds_toArray, List.set_cons_zero, List.set_cons_succ]
      refine wpAnyH_take (i := 5) (oi := _) (v := ?_) rfl (by kernel_rfl) (by kernel_rfl) (by kernel_rfl) (fun _ _ _ h => h) (Or.inl ⟨by rfl, ?_⟩) (by assumption) ?_
      rotate_left 1
      · (intro w9 hS9; (try dsimp only at hS9); go_simp <;> with_reducible rfl)
      try simp only [List.getElem_toArray, List.getElem_cons_succ, List.getElem_cons_zero, Act.put, List.setIfInBounds_toArray, List.set_cons_zero, List.set_cons_succ]
      refine wpAnyH_take (i := 6) (oi := _) (v := ?_) rfl (by kernel_rfl) (by kernel_rfl) (by kernel_rfl) (fun _ _ _ h => h) (Or.inl ⟨by rfl, ?_⟩) (by assumption) ?_
      rotate_left 1
      · (intro w9 hS9; (try dsimp only at hS9); go_simp <;> with_reducible rfl)
      try simp only [List.getElem_toArray, List.getElem_cons_succ, List.getElem_cons_zero, Act.put, List.setIfInBounds_toArray, List.set_cons_zero, List.set_cons_succ]
      refine wpAnyH_take (i := 7) (oi := _) (v := ?_) rfl (by kernel_rfl) (by kernel_rfl) (by kernel_rfl) (fun _ _ _ h => h) (Or.inl ⟨by rfl, ?_⟩) (by assumption) ?_
      rotate_left 1
      · (intro w9 hS9; (try dsimp only at hS9); go_simp <;> with_reducible rfl)
      try simp only [List.getElem_toArray, List.getElem_cons_succ, List.getElem_cons_zero, Act.put, List.setIfInBounds_toArray, List.set_cons_zero, List.set_cons_succ]
      refine wpAnyH_take (i := 8) (oi := _) (v := ?_) rfl (by kernel_rfl) (by kernel_rfl) (by kernel_rfl) (fun _ _ _ h => h) (Or.inl ⟨by rfl, ?_⟩) (by assumption) ?_
      rotate_left 1
      · (intro w9 hS9; (try dsimp only at hS9); go_simp <;> with_reducible rfl)
      try simp only [List.getElem_toArray, List.getElem_cons_succ, List.getElem_cons_zero, Act.put, List.setIfInBounds_toArray, List.set_cons_zero, List.set_cons_succ]
      refine wpAnyH_take (i := 9) (oi := _) (v := ?_) rfl (by kernel_rfl) (by kernel_rfl) (by kernel_rfl) (fun _ _ _ h => h) (Or.inl ⟨by rfl, ?_⟩) (by assumption) ?_
      rotate_left 1
      · (intro w9 hS9; (try dsimp only at hS9); go_simp <;> with_reducible rfl)
      try simp only [List.getElem_toArray, List.getElem_cons_succ, List.getElem_cons_zero, Act.put, List.setIfInBounds_toArray, List.set_cons_zero, List.set_cons_succ]
      refine wpAnyH_take (i := 10) (oi := _) (v := ?_) rfl (by kernel_rfl) (by kernel_rfl) (by kernel_rfl) (fun _ _ _ h => h) (Or.inl ⟨by rfl, ?_⟩) (by assumption) ?_
      rotate_left 1
      · (intro w9 hS9; (try dsimp only at hS9); go_simp <;> with_reducible rfl)
      try simp only [List.getElem_toArray, List.getElem_cons_succ, List.getElem_cons_zero, Act.put, List.setIfInBounds_toArray, List.set_cons_zero, List.set_cons_succ]
      refine wpAnyH_take (i := 11) (oi := _) (v := ?_) rfl (by kernel_rfl) (by kernel_rfl) (by kernel_rfl) (fun _ _ _ h => h) (Or.inl ⟨by rfl, ?_⟩) (by assumption) ?_
      rotate_left 1
      · (intro w9 hS9; (try dsimp only at hS9); go_simp <;> with_reducible rfl)
      try simp only [List.getElem_toArray, List.getElem_cons_succ, List.getElem_cons_zero, Act.put, List.setIfInBounds_toArray, List.set_cons_zero, List.set_cons_succ]
      refine wpAnyH_take (i := 12) (oi := _) (v := ?_) rfl (by kernel_rfl) (by kernel_rfl) (by kernel_rfl) (fun _ _ _ h => h) (Or.inl ⟨by rfl, ?_⟩) (by assumption) ?_
      rotate_left 1
      · (intro w9 hS9; (try dsimp only at hS9); go_simp <;> with_reducible rfl)
      try simp only [List.getElem_toArray, List.getElem_cons_succ, List.getElem_cons_zero, Act.put, List.setIfInBounds_toArray, List.set_cons_zero, List.set_cons_succ]
      refine wpAnyH_take (i := 13) (oi := _) (v := ?_) rfl (by kernel_rfl) (by kernel_rfl) (by kernel_rfl) (fun _ _ _ h => h) (Or.inl ⟨by rfl, ?_⟩) (by assumption) ?_
      rotate_left 1
      · (intro w9 hS9; (try dsimp only at hS9); go_simp <;> with_reducible rfl)
      try simp only [List.getElem_toArray, List.getElem_cons_succ, List.getElem_cons_zero, Act.put, List.setIfInBounds_toArray, List.set_cons_zero, List.set_cons_succ]
      refine wpAnyH_take (i := 14) (oi := _) (v := ?_) rfl (by kernel_rfl) (by kernel_rfl) (by kernel_rfl) (fun _ _ _ h => h) (Or.inl ⟨by rfl, ?_⟩) (by assumption) ?_
      rotate_left 1
      · (intro w9 hS9; (try dsimp only at hS9); go_simp <;> with_reducible rfl)
      try simp only [List.getElem_toArray, List.getElem_cons_succ, List.getElem_cons_zero, Act.put, List.setIfInBounds_toArray, List.set_cons_zero, List.set_cons_succ]
      refine wpAnyH_take (i := 15) (oi := _) (v := ?_) rfl (by kernel_rfl) (by kernel_rfl) (by kernel_rfl) (fun _ _ _ h => h) (Or.inl ⟨by rfl, ?_⟩) (by assumption) ?_
      rotate_left 1
      · (intro w9 hS9; (try dsimp only at hS9); go_simp <;> with_reducible rfl)
      try simp only [List.getElem_toArray, List.getElem_cons_succ, List.getElem_cons_zero, Act.put, List.setIfInBounds_toArray, List.set_cons_zero, List.set_cons_succ]
      refine wpAnyH_take (i := 17) (oi := _) (v := ?_) rfl (by kernel_rfl) (by kernel_rfl) (by kernel_rfl) (fun _ _ _ h => h) (Or.inl ⟨by rfl, ?_⟩) (by assumption) ?_
      rotate_left 1
      · (intro w9 hS9; (try dsimp only at hS9); go_simp <;> with_reducible rfl)
      try simp only [List.getElem_toArray, List.getElem_cons_succ, List.getElem_cons_zero, Act.put, List.setIfInBounds_toArray, List.set_cons_zero, List.set_cons_succ]
      refine wpAnyH_ready (rs := [16]) (by kernel_rfl) (by simp) ?_
      refine AllReadyH.cons (o := _) rfl (fun K hK => ?_) AllReadyH.nil
      try simp only [List.getElem_toArray, List.getElem_cons_succ, List.getElem_cons_zero]
      go_simp
      refine hK.out _ _ kc0 (fun hHeld => ?_)
      clear hK K
      try simp only [List.getElem_toArray, List.getElem_cons_succ, List.getElem_cons_zero, Act.put, List.setIfInBounds_toArray, List.set_cons_zero, List.set_cons_succ]
      refine wpAnyH_take (i := 18) (oi := _) (v := ?_) rfl (by kernel_rfl) (by kernel_rfl) (by kernel_rfl) (fun _ _ _ h => h) (Or.inl ⟨by rfl, ?_⟩) (by assumption) ?_
      rotate_left 1
      · (intro w9 hS9; (try dsimp only at hS9); go_simp <;> with_reducible rfl)
      try simp only [List.getElem_toArray, List.getElem_cons_succ, List.getElem_cons_zero, Act.put, List.setIfInBounds_toArray, List.set_cons_zero, List.set_cons_succ]
      refine wpAnyH_ready (rs := [19]) (by kernel_rfl) (by simp) ?_
      refine AllReadyH.cons (o := _) rfl (fun K hK => ?_) AllReadyH.nil
      try simp only [List.getElem_toArray, List.getElem_cons_succ, List.getElem_cons_zero]
      go_simp
      obtain ⟨W1, hW1⟩ : ∃ W1, (wr.alloc (.cells #[.int .i64 r] 3)).drew = W1 := ⟨_, rfl⟩
      have hst : Below wr.heap.size wr W1 := by rw [← hW1]; exact ((Below.refl _ wr).alloc (Nat.le_refl _) _).drew
      have kE : Blk W1 (w.heap.size + 2) 3 #[.int .i64 r] := by rw [← hW1, ← hs0]; exact Blk.new wr 3 _
      have hB1' := hB1.below hst hB1.lt
      have hB2' := hB2.below hst hB2.lt
      rw [hW1]
      clear hW1
      have hq := Que.of_blk hB1' (Nat.le_refl _) (by simp [maxLen])
      have hsz := hst.size
      refine hK.out _ _ (hB2'.cell 0) (fun hHeld => ?_)
      clear hK K
      try simp only [List.getElem_toArray, List.getElem_cons_succ, List.getElem_cons_zero, Act.put, List.setIfInBounds_toArray, List.set_cons_zero, List.set_cons_succ]
      obtain ⟨i0, hi0, hz0, hz1, hz2⟩ := info_parts info3c
      refine wpAnyH_ready (rs := [20]) (by kernel_rfl) (by simp) ?_
      refine AllReadyH.cons (o := _) rfl (fun K hK => ?_) AllReadyH.nil
      try simp only [List.getElem_toArray, List.getElem_cons_succ, List.getElem_cons_zero]
      rw [if_pos (show Region.wanted _ _ = true from rfl)]
      refine wp_append_queA _ (.tmp 19) (.tmp 34) _ (by rfl) 3 i0 _ 8 Try.underlying58 hi0 hz0 hz1 hz2 rfl w.heap.size _ _ _ (w.heap.size + 2) (.int .i64 r) (by rfl) (by rfl) hq (by omega) kE rfl (by simp) (by omega) ?_
      intro v9 b9 W9 h9 hgr hb9
      obtain ⟨A9, c9, hv9, hR9, hA9⟩ := h9.rd
      have hv9' : v9 = .slice A9 2 c9 := hv9
      subst hv9'
      have hne9 : ∀ ad, A9 = some ad → ad.block ≠ w.heap.size + 1 := fun ad h e => by
        have h1 := hA9 ad (by simp) h
        rw [e] at h1
        rcases hb9 with h2 | h2 <;> rw [h2] at h1 <;> injection h1 with h1 <;> omega
      have hB2'' := hB2'.grown hgr (fun h => by injection h with h; omega)
      refine hK.out _ _ (hB2''.cell 0) (fun hHeld => ?_)
      clear hK K
      try simp only [List.getElem_toArray, List.getElem_cons_succ, List.getElem_cons_zero, Act.put, List.setIfInBounds_toArray, List.set_cons_zero, List.set_cons_succ]
      have hb2 : Below w.heap.size w W9 := (hb0.trans (hst.mono (by omega))).grown hgr (by omega) (fun k h => by injection h with h; omega)
      have HF := Lib.hid (And.intro hB2'' (And.intro hb2 (And.intro hR9 hne9)))
      have e0 := hB2''.cell 0
      have e1 := hB2''.cell 1
      have z0 := hB2''.frozen 0
      have z1 := hB2''.frozen 1
      have l9 := hB2''.lt
      clear hB2'' hb2 hgr hb9 h9 hR9 hA9 hv9 hne9 hHeld hsz hq hB2' hB1' kE hst
      refine wpAnyH_done (by kernel_rfl) ?_ _
      refine tailQ_step rfl ?_
      go_wp2_with fail
      refine tailQ_step rfl ?_
      go_wp2_with fail
      refine tailQ_step rfl ?_
      go_wp2_with fail
      apply_assumption
      go_wp2_with fail
      refine ⟨.inr ⟨rfl, ⟨A9, c9, (HF.out.1.set_ 0 _).set_ 1 _, ?_⟩, ?_⟩, by simp [intOf]⟩
      · have h9 := (HF.out.2.2.1.far (p := ⟨w.heap.size + 1, 0, none⟩) HF.out.2.2.2 (.slice A9 2 c9)).far (p := ⟨w.heap.size + 1, 1, none⟩) HF.out.2.2.2 (.int .i64 r)
        unfold RdI
        simpa [encI] using h9
      · exact (HF.out.2.1.setCell (p := ⟨w.heap.size + 1, 0, none⟩) (by dsimp only; omega) _).setCell (p := ⟨w.heap.size + 1, 1, none⟩) (by dsimp only; omega) _

    · have HF := Lib.hid (And.intro hC hb)
      clear hC hb
      go_wp2_with fail
      go_ret
      exact ⟨_, rfl, by omega, HF.out.1, HF.out.2⟩
end Go.Proofs.Ythkpkjigfaannaa
