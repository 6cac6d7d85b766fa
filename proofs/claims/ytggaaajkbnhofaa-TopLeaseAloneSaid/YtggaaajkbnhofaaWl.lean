/- The walk of write. Condition: a site that holds a lease may write. -/
import Derived.Test.YtggaaajkbnhofaaWk
namespace Go.Proofs.Ytggaaajkbnhofaa
open Go.RowKit
theorem raise_yes {x o n s : Int} (h0 : 0 ≤ x ∧ x ≤ 1073741824) (h1 : 0 ≤ o ∧ o < 4) (h2 : 0 ≤ n ∧ n ≤ 1073741824) (h3 : 0 ≤ s ∧ s < 4) (h : x < n) : raiseV x o n s = 0 := by
  unfold raiseV fenceB inB siteB
  simp [h0, h1, h2, h3, h]
theorem raise_not {x o n s : Int} (h0 : 0 ≤ x ∧ x ≤ 1073741824) (h1 : 0 ≤ o ∧ o < 4) (h2 : 0 ≤ n ∧ n ≤ 1073741824) (h3 : 0 ≤ s ∧ s < 4) (h : ¬ x < n) : raiseV x o n s = 13 := by
  unfold raiseV fenceB inB siteB
  simp [h0, h1, h2, h3, h]
theorem admit_yes {x o : Int} (h0 : 0 ≤ x ∧ x ≤ 1073741824) (h1 : 0 ≤ o ∧ o < 4) : admitV x o false x o = 0 := by
  unfold admitV fenceB inB siteB
  simp [h0, h1]
theorem admit_zero {x o n s : Int} (h : admitV x o false n s = 0) : o = s ∧ x = n := by
  unfold admitV at h
  split at h
  · split at h
    · omega
    · split at h
      · split at h
        · rename_i h3 h4
          simp at h4
          omega
        · omega
      · omega
  · omega
def writeM (s : St) (i : Nat) : St := if s.now < (s.ls i).2 ∧ s.fe < (s.ls i).1 then { s with fe := (s.ls i).1, fo := (i : Nat) } else s
/-- a world in which cells of the state's block are written -/
theorem StB.put {W : World} {g low : Nat} {s s' : St} {vL vR vA : Value} (h : StB g low s vL vR vA W) (k : Nat) (x : Value) (hc : (stC s vL vR vA).setIfInBounds k x = stC s' vL vR vA) (hl : s'.ls = s.ls) (hr : s'.rq = s.rq) (ha : s'.an = s.an) : StB g low s' vL vR vA (W.setCell ⟨g, k, none⟩ x) := by
  refine ⟨?_, ?_, ?_, ?_⟩
  · rw [← hc]; exact h.blk.set_ k x
  · rw [hl]; exact own_far h.L (p := ⟨g, k, none⟩) (fun e9 => tag_ne h.L h.blk (by decide) g e9 rfl) _
  · rw [hr]; exact own_far h.R (p := ⟨g, k, none⟩) (fun e9 => tag_ne h.R h.blk (by decide) g e9 rfl) _
  · rw [ha]; exact own_far h.A (p := ⟨g, k, none⟩) (fun e9 => tag_ne h.A h.blk (by decide) g e9 rfl) _
theorem there_of {W : World} {g : Nat} {t : TypeId} {cs : Array Value} (h : Blk W g t cs) {o n : Nat} (hn : o + n ≤ cs.size) : W.there g o n := fun j hj => by
  refine ⟨?_, h.frozen (o + j)⟩
  rw [h.cell, Array.getElem?_eq_getElem (by omega)]
  rfl
theorem StI.put {w W : World} {g low : Nat} {s s' : St} (h : StI w g low s W) (k : Nat) (x : Value) (hc : ∀ vL vR vA, (stC s vL vR vA).setIfInBounds k x = stC s' vL vR vA) (hl : s'.ls = s.ls) (hr : s'.rq = s.rq) (ha : s'.an = s.an) : StI w g low s' (W.setCell ⟨g, k, none⟩ x) := by
  obtain ⟨vL, vR, vA, hB⟩ := h.blk
  exact ⟨⟨vL, vR, vA, hB.put k x (hc _ _ _) hl hr ha⟩, h.lw, h.gw, by simpa using h.sz, h.bel.setCell h.gw _⟩
set_option linter.unusedSimpArgs false in
set_option maxRecDepth 100000 in
set_option maxHeartbeats 8000000 in
theorem write_ok (w W : World) (g low : Nat) (s : St) (i : Nat) (hI : StI w g low s W) (hl : LsOk s.ls) (hi : i < 3) (hf : 0 ≤ s.fe ∧ s.fe ≤ 1000000) (ho : 0 ≤ s.fo ∧ s.fo < 3)
    (hok : s.now < (s.ls i).2 → s.fe < (s.ls i).1 ∨ (s.fe = (s.ls i).1 ∧ s.fo = (i : Nat))) :
    Calls Try.prog 14 #[.pointer (some ⟨g, 0, none⟩), .int .i64 (i : Nat)] W fun x W' => x = .returned (.bool true) ∧ StI w g low (writeM s i) W' := by
  obtain ⟨vL, vR, vA, hB⟩ := hI.blk
  obtain ⟨AL, cL, rfl, _, _, _⟩ := own_slice hB.L
  have c4 : W.cell? ⟨g, 6, none⟩ = some (.slice AL 3 cL) := hB.blk.cell 6
  have hgl := hB.blk.lt
  obtain ⟨bb, rfl, hbb, _, _, hcells⟩ := ls_cells hB.L
  obtain ⟨l0, l1, l2⟩ := hcells i hi
  have hli := hl i hi
  clear hcells
  have hi' : (i : Int) < 3 := by omega
  have HW : Hid (writeM s i = if s.now < (s.ls i).2 ∧ s.fe < (s.ls i).1 then { s with fe := (s.ls i).1, fo := (i : Nat) } else s) := rfl
  obtain ⟨e, he⟩ : ∃ e : Int, e = (s.ls i).1 := ⟨_, rfl⟩
  rw [← he] at l1 hli HW hok
  clear he
  obtain ⟨u, hu⟩ : ∃ u : Int, u = (s.ls i).2 := ⟨_, rfl⟩
  rw [← hu] at l2 hli HW hok
  clear hu
  have bA := Blk.new W 41 #[.int .i64 (i : Nat), .int .i64 e, .int .i64 u]
  have hbA : Below W.heap.size W (W.alloc (.cells #[.int .i64 (i : Nat), .int .i64 e, .int .i64 u] 41)) := (Below.refl _ W).alloc (Nat.le_refl _) _
  have hsA : W.heap.size < (W.alloc (.cells #[.int .i64 (i : Nat), .int .i64 e, .int .i64 u] 41)).heap.size := by simp
  go_enter Try.func14, Try.ntmps14
  go_upto_region 2 with fail
  generalize (W.alloc (.cells #[.int .i64 (i : Nat), .int .i64 e, .int .i64 u] 41)) = V1 at *
  have HI1 := Lib.hid (hI.below hbA)
  have HB1 := Lib.hid (hB.below hbA)
  have l0 : V1.cell? ⟨W.heap.size, 0, none⟩ = some (.int .i64 (i : Nat)) := bA.cell 0
  have l1 : V1.cell? ⟨W.heap.size, 1, none⟩ = some (.int .i64 e) := bA.cell 1
  have l2 : V1.cell? ⟨W.heap.size, 2, none⟩ = some (.int .i64 u) := bA.cell 2
  have hgl := Nat.lt_trans hgl hsA
  have c0 : V1.cell? ⟨g, 0, none⟩ = some (.int .i64 s.now) := HB1.out.blk.cell 0
  clear c4 hB hI
  refine wp_pan (Pc := fun _ _ _ => False) (fun _ _ _ h => h.elim) ?_
  refine wp_region_tail_lit (S := fun V => V.cell? ⟨g, 0, none⟩ = some (.int .i64 s.now) ∧ V.cell? ⟨W.heap.size, 0, none⟩ = some (.int .i64 (i : Nat)) ∧ V.cell? ⟨W.heap.size, 1, none⟩ = some (.int .i64 e) ∧ V.cell? ⟨W.heap.size, 2, none⟩ = some (.int .i64 u)) 6 (by kernel_rfl) (by kernel_rfl) ⟨(((Below.refl V1.heap.size V1).drew).cell (p := ⟨g, 0, none⟩) hgl).trans c0, (((Below.refl V1.heap.size V1).drew).cell (p := ⟨W.heap.size, 0, none⟩) hsA).trans l0, (((Below.refl V1.heap.size V1).drew).cell (p := ⟨W.heap.size, 1, none⟩) hsA).trans l1, (((Below.refl V1.heap.size V1).drew).cell (p := ⟨W.heap.size, 2, none⟩) hsA).trans l2⟩ (fun hHeld => ?_)
  simp only [List.take, List.drop]
  refine wpAnyH_take (i := 0) (oi := _) (v := ?_) rfl (by kernel_rfl) (by kernel_rfl) (by kernel_rfl) (fun _ _ _ h => h) (Or.inl ⟨by rfl, ?_⟩) (by assumption) ?_
  rotate_left 1
  · (intro w9 hS9; (try dsimp only at hS9); go_simp <;> with_reducible rfl)
  try simp only [List.getElem_toArray, List.getElem_cons_succ, List.getElem_cons_zero, Act.put, List.setIfInBounds_toArray, List.set_cons_zero, List.set_cons_succ]
  refine wpAnyH_take (i := 1) (oi := _) (v := ?_) rfl (by kernel_rfl) (by kernel_rfl) (by kernel_rfl) (fun _ _ _ h => h) (Or.inl ⟨by rfl, ?_⟩) (by assumption) ?_
  rotate_left 1
  · (intro w9 hS9; (try dsimp only at hS9); go_simp <;> with_reducible rfl)
  try simp only [List.getElem_toArray, List.getElem_cons_succ, List.getElem_cons_zero, Act.put, List.setIfInBounds_toArray, List.set_cons_zero, List.set_cons_succ]
  refine wpAnyH_take (i := 2) (oi := _) (v := ?_) rfl (by kernel_rfl) (by kernel_rfl) (by kernel_rfl) (fun _ _ _ h => h) (Or.inl ⟨by rfl, ?_⟩) (by assumption) ?_
  rotate_left 1
  · (intro w9 hS9; (try dsimp only at hS9); go_simp <;> with_reducible rfl)
  try simp only [List.getElem_toArray, List.getElem_cons_succ, List.getElem_cons_zero, Act.put, List.setIfInBounds_toArray, List.set_cons_zero, List.set_cons_succ]
  refine wpAnyH_take (i := 3) (oi := _) (v := ?_) rfl (by kernel_rfl) (by kernel_rfl) (by kernel_rfl) (fun _ _ _ h => h) (Or.inl ⟨by rfl, ?_⟩) (by assumption) ?_
  rotate_left 1
  · (intro w9 hS9; (try dsimp only at hS9); go_simp <;> with_reducible rfl)
  try simp only [List.getElem_toArray, List.getElem_cons_succ, List.getElem_cons_zero, Act.put, List.setIfInBounds_toArray, List.set_cons_zero, List.set_cons_succ]
  refine wpAnyH_take (i := 4) (oi := _) (v := ?_) rfl (by kernel_rfl) (by kernel_rfl) (by kernel_rfl) (fun _ _ _ h => h) (Or.inl ⟨by rfl, ?_⟩) (by assumption) ?_
  rotate_left 1
  · (intro w9 hS9; (try dsimp only at hS9); go_simp <;> with_reducible rfl)
  try simp only [List.getElem_toArray, List.getElem_cons_succ, List.getElem_cons_zero, Act.put, List.setIfInBounds_toArray, List.set_cons_zero, List.set_cons_succ]
  refine wpAnyH_ready (rs := [5]) (by kernel_rfl) (by simp) ?_
  refine AllReadyH.cons (o := _) rfl (fun K hK => ?_) AllReadyH.nil
  try simp only [List.getElem_toArray, List.getElem_cons_succ, List.getElem_cons_zero]
  try rw [if_pos (show Region.wanted _ _ = true from rfl)]
  go_simp
  refine (Holds_ok (i : Nat) e u s.now V1.drew (by omega) (by omega) (by omega)).mono ?_
  rintro x wz ⟨rfl, hbz⟩
  have hwz : Below V1.heap.size V1 wz := ((Below.refl _ V1).drew).trans hbz
  go_wp2_with fail
  refine hK.out _ _ ⟨(hwz.cell (p := ⟨g, 0, none⟩) hgl).trans c0, (hwz.cell (p := ⟨W.heap.size, 0, none⟩) hsA).trans l0, (hwz.cell (p := ⟨W.heap.size, 1, none⟩) hsA).trans l1, (hwz.cell (p := ⟨W.heap.size, 2, none⟩) hsA).trans l2⟩ (fun hHeld => ?_)
  clear hK K
  try simp only [List.getElem_toArray, List.getElem_cons_succ, List.getElem_cons_zero, Act.put, List.setIfInBounds_toArray, List.set_cons_zero, List.set_cons_succ]
  refine wpAnyH_done (by kernel_rfl) ?_ _
  refine tailQ_nil (panQ_normal ?_)
  have HI2 := Lib.hid (HI1.out.below hwz)
  have HB2 := Lib.hid (HB1.out.below hwz)
  have bZ := bA.below hwz hsA
  have hsz := hwz.size
  have hsZ : W.heap.size < wz.heap.size := by omega
  have hgz : g < wz.heap.size := by omega
  clear HI1 HB1 l0 l1 l2 c0 hbz hwz bA hbA
  have q9 : wz.cell? ⟨g, 9, none⟩ = some (.int .i64 s.fe) := HB2.out.blk.cell 9
  have q10 : wz.cell? ⟨g, 10, none⟩ = some (.int .i64 s.fo) := HB2.out.blk.cell 10
  have q11 : wz.cell? ⟨g, 11, none⟩ = some (.bool false) := HB2.out.blk.cell 11
  have l1 : wz.cell? ⟨W.heap.size, 1, none⟩ = some (.int .i64 e) := bZ.cell 1
  by_cases hnu : s.now < u
  rotate_left 1
  · have hd : decide (s.now < u) = false := decide_eq_false hnu
    rw [hd]
    obtain ⟨av, hav⟩ : ∃ av, admitV s.fe s.fo false e (i : Nat) = av := ⟨_, rfl⟩
    have hWs : writeM s i = s := by rw [HW.out, if_neg (fun h => hnu h.1)]
    have HWS := Lib.hid hWs
    clear hWs HW hok
    by_cases ha0 : av = 0
    · obtain ⟨hz1, hz2⟩ := admit_zero (hav.trans ha0)
      subst ha0
      have b1 : (s.fo == ((i : Nat) : Int)) = true := by rw [beq_iff_eq]; exact hz1
      have b2 : (s.fe == e) = true := by rw [beq_iff_eq]; exact hz2
      have HZ := Lib.hid (And.intro hz1 hz2)
      clear hz1 hz2
      go_upto_region 7 with fail
      refine wp_pan (Pc := fun _ _ _ => False) (fun _ _ _ h => h.elim) ?_
      refine wp_region_tail_lit (S := fun V => V.cell? ⟨g, 9, none⟩ = some (.int .i64 s.fe) ∧ V.cell? ⟨g, 10, none⟩ = some (.int .i64 s.fo) ∧ V.cell? ⟨g, 11, none⟩ = some (.bool false) ∧ V.cell? ⟨W.heap.size, 1, none⟩ = some (.int .i64 e)) 28 (by kernel_rfl) (by kernel_rfl) ⟨(((Below.refl wz.heap.size wz).drew).cell (p := ⟨g, 9, none⟩) hgz).trans q9, (((Below.refl wz.heap.size wz).drew).cell (p := ⟨g, 10, none⟩) hgz).trans q10, (((Below.refl wz.heap.size wz).drew).cell (p := ⟨g, 11, none⟩) hgz).trans q11, (((Below.refl wz.heap.size wz).drew).cell (p := ⟨W.heap.size, 1, none⟩) hsZ).trans l1⟩ (fun hHeld => ?_)
      simp only [List.take, List.drop]
      refine wpAnyH_take (i := 0) (oi := _) (v := ?_) rfl (by kernel_rfl) (by kernel_rfl) (by kernel_rfl) (fun _ _ _ h => h) (Or.inl ⟨by rfl, ?_⟩) (by assumption) ?_
      rotate_left 1
      · (intro w9 hS9; (try dsimp only at hS9); go_simp <;> with_reducible rfl)
      try simp only [List.getElem_toArray, List.getElem_cons_succ, List.getElem_cons_zero, Act.put, List.setIfInBounds_toArray, List.set_cons_zero, List.set_cons_succ]
      refine wpAnyH_take (i := 1) (oi := _) (v := ?_) rfl (by kernel_rfl) (by kernel_rfl) (by kernel_rfl) (fun _ _ _ h => h) (Or.inl ⟨by rfl, ?_⟩) (by assumption) ?_
      rotate_left 1
      · (intro w9 hS9; (try dsimp only at hS9); go_simp <;> with_reducible rfl)
      try simp only [List.getElem_toArray, List.getElem_cons_succ, List.getElem_cons_zero, Act.put, List.setIfInBounds_toArray, List.set_cons_zero, List.set_cons_succ]
      refine wpAnyH_take (i := 2) (oi := _) (v := ?_) rfl (by kernel_rfl) (by kernel_rfl) (by kernel_rfl) (fun _ _ _ h => h) (Or.inl ⟨by rfl, ?_⟩) (by assumption) ?_
      rotate_left 1
      · (intro w9 hS9; (try dsimp only at hS9); go_simp <;> with_reducible rfl)
      try simp only [List.getElem_toArray, List.getElem_cons_succ, List.getElem_cons_zero, Act.put, List.setIfInBounds_toArray, List.set_cons_zero, List.set_cons_succ]
      refine wpAnyH_take (i := 3) (oi := _) (v := ?_) rfl (by kernel_rfl) (by kernel_rfl) (by kernel_rfl) (fun _ _ _ h => h) (Or.inl ⟨by rfl, ?_⟩) (by assumption) ?_
      rotate_left 1
      · (intro w9 hS9; (try dsimp only at hS9); go_simp <;> with_reducible rfl)
      try simp only [List.getElem_toArray, List.getElem_cons_succ, List.getElem_cons_zero, Act.put, List.setIfInBounds_toArray, List.set_cons_zero, List.set_cons_succ]
      refine wpAnyH_take (i := 4) (oi := _) (v := ?_) rfl (by kernel_rfl) (by kernel_rfl) (by kernel_rfl) (fun _ _ _ h => h) (Or.inl ⟨by rfl, ?_⟩) (by assumption) ?_
      rotate_left 1
      · (intro w9 hS9; (try dsimp only at hS9); go_simp <;> with_reducible rfl)
      try simp only [List.getElem_toArray, List.getElem_cons_succ, List.getElem_cons_zero, Act.put, List.setIfInBounds_toArray, List.set_cons_zero, List.set_cons_succ]
      refine wpAnyH_take (i := 5) (oi := _) (v := ?_) rfl (by kernel_rfl) (by kernel_rfl) (by kernel_rfl) (fun _ _ _ h => h) (Or.inl ⟨by rfl, ?_⟩) (by assumption) ?_
      rotate_left 1
      · (intro w9 hS9; (try dsimp only at hS9); go_simp <;> with_reducible rfl)
      try simp only [List.getElem_toArray, List.getElem_cons_succ, List.getElem_cons_zero, Act.put, List.setIfInBounds_toArray, List.set_cons_zero, List.set_cons_succ]
      refine wpAnyH_take (i := 6) (oi := _) (v := ?_) rfl (by kernel_rfl) (by kernel_rfl) (by kernel_rfl) (fun _ _ _ h => h) (Or.inl ⟨by rfl, ?_⟩) (by assumption) ?_
      rotate_left 1
      · (intro w9 hS9; (try dsimp only at hS9); go_simp <;> with_reducible rfl)
      try simp only [List.getElem_toArray, List.getElem_cons_succ, List.getElem_cons_zero, Act.put, List.setIfInBounds_toArray, List.set_cons_zero, List.set_cons_succ]
      refine wpAnyH_ready (rs := [7]) (by kernel_rfl) (by simp) ?_
      refine AllReadyH.cons (o := _) rfl (fun K hK => ?_) AllReadyH.nil
      try simp only [List.getElem_toArray, List.getElem_cons_succ, List.getElem_cons_zero]
      try rw [if_pos (show Region.wanted _ _ = true from rfl)]
      go_simp
      refine (Admit_any s.fe s.fo e (i : Nat) false wz.drew).mono ?_
      rintro x wy ⟨rfl, hby⟩
      rw [hav]
      have hwy : Below wz.heap.size wz wy := ((Below.refl _ wz).drew).trans hby
      go_wp2_with fail
      refine hK.out _ _ ⟨(hwy.cell (p := ⟨g, 9, none⟩) hgz).trans q9, (hwy.cell (p := ⟨g, 10, none⟩) hgz).trans q10, (hwy.cell (p := ⟨g, 11, none⟩) hgz).trans q11, (hwy.cell (p := ⟨W.heap.size, 1, none⟩) hsZ).trans l1⟩ (fun hHeld => ?_)
      clear hK K
      try simp only [List.getElem_toArray, List.getElem_cons_succ, List.getElem_cons_zero, Act.put, List.setIfInBounds_toArray, List.set_cons_zero, List.set_cons_succ]
      refine wpAnyH_take (i := 8) (oi := _) (v := ?_) rfl (by kernel_rfl) (by kernel_rfl) (by kernel_rfl) (fun _ _ _ h => h) (Or.inl ⟨by rfl, ?_⟩) (by assumption) ?_
      rotate_left 1
      · (intro w9 hS9; (try dsimp only at hS9); go_simp <;> with_reducible rfl)
      try simp only [List.getElem_toArray, List.getElem_cons_succ, List.getElem_cons_zero, Act.put, List.setIfInBounds_toArray, List.set_cons_zero, List.set_cons_succ]
      refine wpAnyH_take (i := 9) (oi := _) (v := ?_) rfl (by kernel_rfl) (by kernel_rfl) (by kernel_rfl) (fun _ _ _ h => h) (Or.inl ⟨by rfl, ?_⟩) (by assumption) ?_
      rotate_left 1
      · (intro w9 hS9; (try dsimp only at hS9); go_simp <;> with_reducible rfl)
      try simp only [List.getElem_toArray, List.getElem_cons_succ, List.getElem_cons_zero, Act.put, List.setIfInBounds_toArray, List.set_cons_zero, List.set_cons_succ]
      refine wpAnyH_take (i := 10) (oi := _) (v := ?_) rfl (by kernel_rfl) (by kernel_rfl) (by kernel_rfl) (fun _ _ _ h => h) (Or.inl ⟨by rfl, ?_⟩) (by assumption) ?_
      rotate_left 1
      · (intro w9 hS9; (try dsimp only at hS9); go_simp <;> with_reducible rfl)
      try simp only [List.getElem_toArray, List.getElem_cons_succ, List.getElem_cons_zero, Act.put, List.setIfInBounds_toArray, List.set_cons_zero, List.set_cons_succ]
      refine wpAnyH_take (i := 11) (oi := _) (v := ?_) rfl (by kernel_rfl) (by kernel_rfl) (by kernel_rfl) (fun _ _ _ h => h) (Or.inl ⟨by rfl, ?_⟩) (by assumption) ?_
      rotate_left 1
      · (intro w9 hS9; (try dsimp only at hS9); go_simp <;> with_reducible rfl)
      try simp only [List.getElem_toArray, List.getElem_cons_succ, List.getElem_cons_zero, Act.put, List.setIfInBounds_toArray, List.set_cons_zero, List.set_cons_succ]
      refine wpAnyH_take (i := 12) (oi := _) (v := ?_) rfl (by kernel_rfl) (by kernel_rfl) (by kernel_rfl) (fun _ _ _ h => h) (Or.inl ⟨by rfl, ?_⟩) (by assumption) ?_
      rotate_left 1
      · (intro w9 hS9; (try dsimp only at hS9); go_simp <;> with_reducible rfl)
      try simp only [List.getElem_toArray, List.getElem_cons_succ, List.getElem_cons_zero, Act.put, List.setIfInBounds_toArray, List.set_cons_zero, List.set_cons_succ]
      refine wpAnyH_take (i := 13) (oi := _) (v := ?_) rfl (by kernel_rfl) (by kernel_rfl) (by kernel_rfl) (fun _ _ _ h => h) (Or.inl ⟨by rfl, ?_⟩) (by assumption) ?_
      rotate_left 1
      · (intro w9 hS9; (try dsimp only at hS9); go_simp <;> with_reducible rfl)
      try simp only [List.getElem_toArray, List.getElem_cons_succ, List.getElem_cons_zero, Act.put, List.setIfInBounds_toArray, List.set_cons_zero, List.set_cons_succ]
      refine wpAnyH_take (i := 14) (oi := _) (v := ?_) rfl (by kernel_rfl) (by kernel_rfl) (by kernel_rfl) (fun _ _ _ h => h) (Or.inl ⟨by rfl, ?_⟩) (by assumption) ?_
      rotate_left 1
      · (intro w9 hS9; (try dsimp only at hS9); go_simp <;> with_reducible rfl)
      try simp only [List.getElem_toArray, List.getElem_cons_succ, List.getElem_cons_zero, Act.put, List.setIfInBounds_toArray, List.set_cons_zero, List.set_cons_succ]
      refine wpAnyH_take (i := 15) (oi := _) (v := ?_) rfl (by kernel_rfl) (by kernel_rfl) (by kernel_rfl) (fun _ _ _ h => h) (Or.inl ⟨by rfl, ?_⟩) (by assumption) ?_
      rotate_left 1
      · (intro w9 hS9; (try dsimp only at hS9); go_simp <;> with_reducible rfl)
      try simp only [List.getElem_toArray, List.getElem_cons_succ, List.getElem_cons_zero, Act.put, List.setIfInBounds_toArray, List.set_cons_zero, List.set_cons_succ]
      refine wpAnyH_take (i := 16) (oi := _) (v := ?_) rfl (by kernel_rfl) (by kernel_rfl) (by kernel_rfl) (fun _ _ _ h => h) (Or.inl ⟨by rfl, ?_⟩) (by assumption) ?_
      rotate_left 1
      · (intro w9 hS9; (try dsimp only at hS9); go_simp <;> with_reducible rfl)
      try simp only [List.getElem_toArray, List.getElem_cons_succ, List.getElem_cons_zero, Act.put, List.setIfInBounds_toArray, List.set_cons_zero, List.set_cons_succ]
      refine wpAnyH_take (i := 17) (oi := _) (v := ?_) rfl (by kernel_rfl) (by kernel_rfl) (by kernel_rfl) (fun _ _ _ h => h) (Or.inl ⟨by rfl, ?_⟩) (by assumption) ?_
      rotate_left 1
      · (intro w9 hS9; (try dsimp only at hS9); go_simp <;> with_reducible rfl)
      try simp only [List.getElem_toArray, List.getElem_cons_succ, List.getElem_cons_zero, Act.put, List.setIfInBounds_toArray, List.set_cons_zero, List.set_cons_succ]
      refine wpAnyH_take (i := 18) (oi := _) (v := ?_) rfl (by kernel_rfl) (by kernel_rfl) (by kernel_rfl) (fun _ _ _ h => h) (Or.inl ⟨by rfl, ?_⟩) (by assumption) ?_
      rotate_left 1
      · (intro w9 hS9; (try dsimp only at hS9); go_simp <;> with_reducible rfl)
      try simp only [List.getElem_toArray, List.getElem_cons_succ, List.getElem_cons_zero, Act.put, List.setIfInBounds_toArray, List.set_cons_zero, List.set_cons_succ]
      refine wpAnyH_take (i := 19) (oi := _) (v := ?_) rfl (by kernel_rfl) (by kernel_rfl) (by kernel_rfl) (fun _ _ _ h => h) (Or.inl ⟨by rfl, ?_⟩) (by assumption) ?_
      rotate_left 1
      · (intro w9 hS9; (try dsimp only at hS9); go_simp <;> with_reducible rfl)
      try simp only [List.getElem_toArray, List.getElem_cons_succ, List.getElem_cons_zero, Act.put, List.setIfInBounds_toArray, List.set_cons_zero, List.set_cons_succ]
      refine wpAnyH_take (i := 20) (oi := _) (v := ?_) rfl (by kernel_rfl) (by kernel_rfl) (by kernel_rfl) (fun _ _ _ h => h) (Or.inl ⟨by rfl, ?_⟩) (by assumption) ?_
      rotate_left 1
      · (intro w9 hS9; (try dsimp only at hS9); go_simp <;> with_reducible rfl)
      try simp only [List.getElem_toArray, List.getElem_cons_succ, List.getElem_cons_zero, Act.put, List.setIfInBounds_toArray, List.set_cons_zero, List.set_cons_succ]
      refine wpAnyH_take (i := 21) (oi := _) (v := ?_) rfl (by kernel_rfl) (by kernel_rfl) (by kernel_rfl) (fun _ _ _ h => h) (Or.inl ⟨by rfl, ?_⟩) (by assumption) ?_
      rotate_left 1
      · (intro w9 hS9; (try dsimp only at hS9); go_simp <;> with_reducible rfl)
      try simp only [List.getElem_toArray, List.getElem_cons_succ, List.getElem_cons_zero, Act.put, List.setIfInBounds_toArray, List.set_cons_zero, List.set_cons_succ]
      refine wpAnyH_take (i := 22) (oi := _) (v := ?_) rfl (by kernel_rfl) (by kernel_rfl) (by kernel_rfl) (fun _ _ _ h => h) (Or.inl ⟨by rfl, ?_⟩) (by assumption) ?_
      rotate_left 1
      · (intro w9 hS9; (try dsimp only at hS9); go_simp <;> with_reducible rfl)
      try simp only [List.getElem_toArray, List.getElem_cons_succ, List.getElem_cons_zero, Act.put, List.setIfInBounds_toArray, List.set_cons_zero, List.set_cons_succ]
      refine wpAnyH_take (i := 23) (oi := _) (v := ?_) rfl (by kernel_rfl) (by kernel_rfl) (by kernel_rfl) (fun _ _ _ h => h) (Or.inl ⟨by rfl, ?_⟩) (by assumption) ?_
      rotate_left 1
      · (intro w9 hS9; (try dsimp only at hS9); go_simp <;> with_reducible rfl)
      try simp only [List.getElem_toArray, List.getElem_cons_succ, List.getElem_cons_zero, Act.put, List.setIfInBounds_toArray, List.set_cons_zero, List.set_cons_succ]
      refine wpAnyH_take (i := 24) (oi := _) (v := ?_) rfl (by kernel_rfl) (by kernel_rfl) (by kernel_rfl) (fun _ _ _ h => h) (Or.inl ⟨by rfl, ?_⟩) (by assumption) ?_
      rotate_left 1
      · (intro w9 hS9; (try dsimp only at hS9); go_simp <;> with_reducible rfl)
      try simp only [List.getElem_toArray, List.getElem_cons_succ, List.getElem_cons_zero, Act.put, List.setIfInBounds_toArray, List.set_cons_zero, List.set_cons_succ]
      refine wpAnyH_take (i := 25) (oi := _) (v := ?_) rfl (by kernel_rfl) (by kernel_rfl) (by kernel_rfl) (fun _ _ _ h => h) (Or.inl ⟨by rfl, ?_⟩) (by assumption) ?_
      rotate_left 1
      · (intro w9 hS9; (try dsimp only at hS9); go_simp <;> with_reducible rfl)
      try simp only [List.getElem_toArray, List.getElem_cons_succ, List.getElem_cons_zero, Act.put, List.setIfInBounds_toArray, List.set_cons_zero, List.set_cons_succ]
      refine wpAnyH_take (i := 26) (oi := _) (v := ?_) rfl (by kernel_rfl) (by kernel_rfl) (by kernel_rfl) (fun _ _ _ h => h) (Or.inl ⟨by rfl, ?_⟩) (by assumption) ?_
      rotate_left 1
      · (intro w9 hS9; (try dsimp only at hS9); go_simp <;> with_reducible rfl)
      try simp only [List.getElem_toArray, List.getElem_cons_succ, List.getElem_cons_zero, Act.put, List.setIfInBounds_toArray, List.set_cons_zero, List.set_cons_succ]
      refine wpAnyH_take (i := 27) (oi := _) (v := ?_) rfl (by kernel_rfl) (by kernel_rfl) (by kernel_rfl) (fun _ _ _ h => h) (Or.inl ⟨by rfl, ?_⟩) (by assumption) ?_
      rotate_left 1
      · (intro w9 hS9; (try dsimp only at hS9); go_simp <;> with_reducible rfl)
      try simp only [List.getElem_toArray, List.getElem_cons_succ, List.getElem_cons_zero, Act.put, List.setIfInBounds_toArray, List.set_cons_zero, List.set_cons_succ]
      refine wpAnyH_done (by kernel_rfl) ?_ _
      refine tailQ_step rfl ?_
      go_wp2_with fail
      refine tailQ_nil (panQ_normal ?_)
      go_wp2_with fail
      go_ret
      exact ⟨rfl, by rw [HWS.out]; exact HI2.out.below hwy⟩
    · have b1 : (av != 0) = true := by rw [bne_iff_ne]; exact ha0
      go_upto_region 7 with fail
      refine wp_pan (Pc := fun _ _ _ => False) (fun _ _ _ h => h.elim) ?_
      refine wp_region_tail_lit (S := fun V => V.cell? ⟨g, 9, none⟩ = some (.int .i64 s.fe) ∧ V.cell? ⟨g, 10, none⟩ = some (.int .i64 s.fo) ∧ V.cell? ⟨g, 11, none⟩ = some (.bool false) ∧ V.cell? ⟨W.heap.size, 1, none⟩ = some (.int .i64 e)) 28 (by kernel_rfl) (by kernel_rfl) ⟨(((Below.refl wz.heap.size wz).drew).cell (p := ⟨g, 9, none⟩) hgz).trans q9, (((Below.refl wz.heap.size wz).drew).cell (p := ⟨g, 10, none⟩) hgz).trans q10, (((Below.refl wz.heap.size wz).drew).cell (p := ⟨g, 11, none⟩) hgz).trans q11, (((Below.refl wz.heap.size wz).drew).cell (p := ⟨W.heap.size, 1, none⟩) hsZ).trans l1⟩ (fun hHeld => ?_)
      simp only [List.take, List.drop]
      refine wpAnyH_take (i := 0) (oi := _) (v := ?_) rfl (by kernel_rfl) (by kernel_rfl) (by kernel_rfl) (fun _ _ _ h => h) (Or.inl ⟨by rfl, ?_⟩) (by assumption) ?_
      rotate_left 1
      · (intro w9 hS9; (try dsimp only at hS9); go_simp <;> with_reducible rfl)
      try simp only [List.getElem_toArray, List.getElem_cons_succ, List.getElem_cons_zero, Act.put, List.setIfInBounds_toArray, List.set_cons_zero, List.set_cons_succ]
      refine wpAnyH_take (i := 1) (oi := _) (v := ?_) rfl (by kernel_rfl) (by kernel_rfl) (by kernel_rfl) (fun _ _ _ h => h) (Or.inl ⟨by rfl, ?_⟩) (by assumption) ?_
      rotate_left 1
      · (intro w9 hS9; (try dsimp only at hS9); go_simp <;> with_reducible rfl)
      try simp only [List.getElem_toArray, List.getElem_cons_succ, List.getElem_cons_zero, Act.put, List.setIfInBounds_toArray, List.set_cons_zero, List.set_cons_succ]
      refine wpAnyH_take (i := 2) (oi := _) (v := ?_) rfl (by kernel_rfl) (by kernel_rfl) (by kernel_rfl) (fun _ _ _ h => h) (Or.inl ⟨by rfl, ?_⟩) (by assumption) ?_
      rotate_left 1
      · (intro w9 hS9; (try dsimp only at hS9); go_simp <;> with_reducible rfl)
      try simp only [List.getElem_toArray, List.getElem_cons_succ, List.getElem_cons_zero, Act.put, List.setIfInBounds_toArray, List.set_cons_zero, List.set_cons_succ]
      refine wpAnyH_take (i := 3) (oi := _) (v := ?_) rfl (by kernel_rfl) (by kernel_rfl) (by kernel_rfl) (fun _ _ _ h => h) (Or.inl ⟨by rfl, ?_⟩) (by assumption) ?_
      rotate_left 1
      · (intro w9 hS9; (try dsimp only at hS9); go_simp <;> with_reducible rfl)
      try simp only [List.getElem_toArray, List.getElem_cons_succ, List.getElem_cons_zero, Act.put, List.setIfInBounds_toArray, List.set_cons_zero, List.set_cons_succ]
      refine wpAnyH_take (i := 4) (oi := _) (v := ?_) rfl (by kernel_rfl) (by kernel_rfl) (by kernel_rfl) (fun _ _ _ h => h) (Or.inl ⟨by rfl, ?_⟩) (by assumption) ?_
      rotate_left 1
      · (intro w9 hS9; (try dsimp only at hS9); go_simp <;> with_reducible rfl)
      try simp only [List.getElem_toArray, List.getElem_cons_succ, List.getElem_cons_zero, Act.put, List.setIfInBounds_toArray, List.set_cons_zero, List.set_cons_succ]
      refine wpAnyH_take (i := 5) (oi := _) (v := ?_) rfl (by kernel_rfl) (by kernel_rfl) (by kernel_rfl) (fun _ _ _ h => h) (Or.inl ⟨by rfl, ?_⟩) (by assumption) ?_
      rotate_left 1
      · (intro w9 hS9; (try dsimp only at hS9); go_simp <;> with_reducible rfl)
      try simp only [List.getElem_toArray, List.getElem_cons_succ, List.getElem_cons_zero, Act.put, List.setIfInBounds_toArray, List.set_cons_zero, List.set_cons_succ]
      refine wpAnyH_take (i := 6) (oi := _) (v := ?_) rfl (by kernel_rfl) (by kernel_rfl) (by kernel_rfl) (fun _ _ _ h => h) (Or.inl ⟨by rfl, ?_⟩) (by assumption) ?_
      rotate_left 1
      · (intro w9 hS9; (try dsimp only at hS9); go_simp <;> with_reducible rfl)
      try simp only [List.getElem_toArray, List.getElem_cons_succ, List.getElem_cons_zero, Act.put, List.setIfInBounds_toArray, List.set_cons_zero, List.set_cons_succ]
      refine wpAnyH_ready (rs := [7]) (by kernel_rfl) (by simp) ?_
      refine AllReadyH.cons (o := _) rfl (fun K hK => ?_) AllReadyH.nil
      try simp only [List.getElem_toArray, List.getElem_cons_succ, List.getElem_cons_zero]
      try rw [if_pos (show Region.wanted _ _ = true from rfl)]
      go_simp
      refine (Admit_any s.fe s.fo e (i : Nat) false wz.drew).mono ?_
      rintro x wy ⟨rfl, hby⟩
      rw [hav]
      have hwy : Below wz.heap.size wz wy := ((Below.refl _ wz).drew).trans hby
      go_wp2_with fail
      refine hK.out _ _ ⟨(hwy.cell (p := ⟨g, 9, none⟩) hgz).trans q9, (hwy.cell (p := ⟨g, 10, none⟩) hgz).trans q10, (hwy.cell (p := ⟨g, 11, none⟩) hgz).trans q11, (hwy.cell (p := ⟨W.heap.size, 1, none⟩) hsZ).trans l1⟩ (fun hHeld => ?_)
      clear hK K
      try simp only [List.getElem_toArray, List.getElem_cons_succ, List.getElem_cons_zero, Act.put, List.setIfInBounds_toArray, List.set_cons_zero, List.set_cons_succ]
      refine wpAnyH_take (i := 8) (oi := _) (v := ?_) rfl (by kernel_rfl) (by kernel_rfl) (by kernel_rfl) (fun _ _ _ h => h) (Or.inl ⟨by rfl, ?_⟩) (by assumption) ?_
      rotate_left 1
      · (intro w9 hS9; (try dsimp only at hS9); go_simp <;> with_reducible rfl)
      try simp only [List.getElem_toArray, List.getElem_cons_succ, List.getElem_cons_zero, Act.put, List.setIfInBounds_toArray, List.set_cons_zero, List.set_cons_succ]
      refine wpAnyH_take (i := 9) (oi := _) (v := ?_) rfl (by kernel_rfl) (by kernel_rfl) (by kernel_rfl) (fun _ _ _ h => h) (Or.inl ⟨by rfl, ?_⟩) (by assumption) ?_
      rotate_left 1
      · (intro w9 hS9; (try dsimp only at hS9); go_simp <;> with_reducible rfl)
      try simp only [List.getElem_toArray, List.getElem_cons_succ, List.getElem_cons_zero, Act.put, List.setIfInBounds_toArray, List.set_cons_zero, List.set_cons_succ]
      refine wpAnyH_take (i := 10) (oi := _) (v := undef) rfl (by kernel_rfl) (by kernel_rfl) (by kernel_rfl) (fun _ _ _ h => h) (Or.inr ⟨by rfl, rfl⟩) (by assumption) ?_
      try simp only [List.getElem_toArray, List.getElem_cons_succ, List.getElem_cons_zero, Act.put, List.setIfInBounds_toArray, List.set_cons_zero, List.set_cons_succ]
      refine wpAnyH_take (i := 11) (oi := _) (v := undef) rfl (by kernel_rfl) (by kernel_rfl) (by kernel_rfl) (fun _ _ _ h => h) (Or.inr ⟨by rfl, rfl⟩) (by assumption) ?_
      try simp only [List.getElem_toArray, List.getElem_cons_succ, List.getElem_cons_zero, Act.put, List.setIfInBounds_toArray, List.set_cons_zero, List.set_cons_succ]
      refine wpAnyH_take (i := 12) (oi := _) (v := undef) rfl (by kernel_rfl) (by kernel_rfl) (by kernel_rfl) (fun _ _ _ h => h) (Or.inr ⟨by rfl, rfl⟩) (by assumption) ?_
      try simp only [List.getElem_toArray, List.getElem_cons_succ, List.getElem_cons_zero, Act.put, List.setIfInBounds_toArray, List.set_cons_zero, List.set_cons_succ]
      refine wpAnyH_take (i := 13) (oi := _) (v := undef) rfl (by kernel_rfl) (by kernel_rfl) (by kernel_rfl) (fun _ _ _ h => h) (Or.inr ⟨by rfl, rfl⟩) (by assumption) ?_
      try simp only [List.getElem_toArray, List.getElem_cons_succ, List.getElem_cons_zero, Act.put, List.setIfInBounds_toArray, List.set_cons_zero, List.set_cons_succ]
      refine wpAnyH_take (i := 14) (oi := _) (v := undef) rfl (by kernel_rfl) (by kernel_rfl) (by kernel_rfl) (fun _ _ _ h => h) (Or.inr ⟨by rfl, rfl⟩) (by assumption) ?_
      try simp only [List.getElem_toArray, List.getElem_cons_succ, List.getElem_cons_zero, Act.put, List.setIfInBounds_toArray, List.set_cons_zero, List.set_cons_succ]
      refine wpAnyH_take (i := 15) (oi := _) (v := undef) rfl (by kernel_rfl) (by kernel_rfl) (by kernel_rfl) (fun _ _ _ h => h) (Or.inr ⟨by rfl, rfl⟩) (by assumption) ?_
      try simp only [List.getElem_toArray, List.getElem_cons_succ, List.getElem_cons_zero, Act.put, List.setIfInBounds_toArray, List.set_cons_zero, List.set_cons_succ]
      refine wpAnyH_take (i := 16) (oi := _) (v := undef) rfl (by kernel_rfl) (by kernel_rfl) (by kernel_rfl) (fun _ _ _ h => h) (Or.inr ⟨by rfl, rfl⟩) (by assumption) ?_
      try simp only [List.getElem_toArray, List.getElem_cons_succ, List.getElem_cons_zero, Act.put, List.setIfInBounds_toArray, List.set_cons_zero, List.set_cons_succ]
      refine wpAnyH_take (i := 17) (oi := _) (v := undef) rfl (by kernel_rfl) (by kernel_rfl) (by kernel_rfl) (fun _ _ _ h => h) (Or.inr ⟨by rfl, rfl⟩) (by assumption) ?_
      try simp only [List.getElem_toArray, List.getElem_cons_succ, List.getElem_cons_zero, Act.put, List.setIfInBounds_toArray, List.set_cons_zero, List.set_cons_succ]
      refine wpAnyH_take (i := 18) (oi := _) (v := undef) rfl (by kernel_rfl) (by kernel_rfl) (by kernel_rfl) (fun _ _ _ h => h) (Or.inr ⟨by rfl, rfl⟩) (by assumption) ?_
      try simp only [List.getElem_toArray, List.getElem_cons_succ, List.getElem_cons_zero, Act.put, List.setIfInBounds_toArray, List.set_cons_zero, List.set_cons_succ]
      refine wpAnyH_take (i := 19) (oi := _) (v := undef) rfl (by kernel_rfl) (by kernel_rfl) (by kernel_rfl) (fun _ _ _ h => h) (Or.inr ⟨by rfl, rfl⟩) (by assumption) ?_
      try simp only [List.getElem_toArray, List.getElem_cons_succ, List.getElem_cons_zero, Act.put, List.setIfInBounds_toArray, List.set_cons_zero, List.set_cons_succ]
      refine wpAnyH_take (i := 20) (oi := _) (v := undef) rfl (by kernel_rfl) (by kernel_rfl) (by kernel_rfl) (fun _ _ _ h => h) (Or.inr ⟨by rfl, rfl⟩) (by assumption) ?_
      try simp only [List.getElem_toArray, List.getElem_cons_succ, List.getElem_cons_zero, Act.put, List.setIfInBounds_toArray, List.set_cons_zero, List.set_cons_succ]
      refine wpAnyH_take (i := 21) (oi := _) (v := undef) rfl (by kernel_rfl) (by kernel_rfl) (by kernel_rfl) (fun _ _ _ h => h) (Or.inr ⟨by rfl, rfl⟩) (by assumption) ?_
      try simp only [List.getElem_toArray, List.getElem_cons_succ, List.getElem_cons_zero, Act.put, List.setIfInBounds_toArray, List.set_cons_zero, List.set_cons_succ]
      refine wpAnyH_take (i := 22) (oi := _) (v := undef) rfl (by kernel_rfl) (by kernel_rfl) (by kernel_rfl) (fun _ _ _ h => h) (Or.inr ⟨by rfl, rfl⟩) (by assumption) ?_
      try simp only [List.getElem_toArray, List.getElem_cons_succ, List.getElem_cons_zero, Act.put, List.setIfInBounds_toArray, List.set_cons_zero, List.set_cons_succ]
      refine wpAnyH_take (i := 23) (oi := _) (v := undef) rfl (by kernel_rfl) (by kernel_rfl) (by kernel_rfl) (fun _ _ _ h => h) (Or.inr ⟨by rfl, rfl⟩) (by assumption) ?_
      try simp only [List.getElem_toArray, List.getElem_cons_succ, List.getElem_cons_zero, Act.put, List.setIfInBounds_toArray, List.set_cons_zero, List.set_cons_succ]
      refine wpAnyH_take (i := 24) (oi := _) (v := undef) rfl (by kernel_rfl) (by kernel_rfl) (by kernel_rfl) (fun _ _ _ h => h) (Or.inr ⟨by rfl, rfl⟩) (by assumption) ?_
      try simp only [List.getElem_toArray, List.getElem_cons_succ, List.getElem_cons_zero, Act.put, List.setIfInBounds_toArray, List.set_cons_zero, List.set_cons_succ]
      refine wpAnyH_take (i := 25) (oi := _) (v := undef) rfl (by kernel_rfl) (by kernel_rfl) (by kernel_rfl) (fun _ _ _ h => h) (Or.inr ⟨by rfl, rfl⟩) (by assumption) ?_
      try simp only [List.getElem_toArray, List.getElem_cons_succ, List.getElem_cons_zero, Act.put, List.setIfInBounds_toArray, List.set_cons_zero, List.set_cons_succ]
      refine wpAnyH_take (i := 26) (oi := _) (v := undef) rfl (by kernel_rfl) (by kernel_rfl) (by kernel_rfl) (fun _ _ _ h => h) (Or.inr ⟨by rfl, rfl⟩) (by assumption) ?_
      try simp only [List.getElem_toArray, List.getElem_cons_succ, List.getElem_cons_zero, Act.put, List.setIfInBounds_toArray, List.set_cons_zero, List.set_cons_succ]
      refine wpAnyH_take (i := 27) (oi := _) (v := ?_) rfl (by kernel_rfl) (by kernel_rfl) (by kernel_rfl) (fun _ _ _ h => h) (Or.inl ⟨by rfl, ?_⟩) (by assumption) ?_
      rotate_left 1
      · (intro w9 hS9; (try dsimp only at hS9); go_simp <;> with_reducible rfl)
      try simp only [List.getElem_toArray, List.getElem_cons_succ, List.getElem_cons_zero, Act.put, List.setIfInBounds_toArray, List.set_cons_zero, List.set_cons_succ]
      refine wpAnyH_done (by kernel_rfl) ?_ _
      refine tailQ_step rfl ?_
      go_wp2_with fail
      refine tailQ_nil (panQ_normal ?_)
      go_wp2_with fail
      go_ret
      exact ⟨rfl, by rw [HWS.out]; exact HI2.out.below hwy⟩
  · have hd : decide (s.now < u) = true := decide_eq_true hnu
    rw [hd]
    by_cases hfe : s.fe < e
    · have hrv := raise_yes (x := s.fe) (o := s.fo) (n := e) (s := ((i : Nat) : Int)) (by omega) (by omega) (by omega) (by omega) hfe
      have hav := admit_yes (x := e) (o := ((i : Nat) : Int)) (by omega) (by omega)
      have hWs : writeM s i = { s with fe := e, fo := (i : Nat) } := by rw [HW.out, if_pos ⟨hnu, hfe⟩]
      have HWS := Lib.hid hWs
      clear hWs HW hok
      go_upto_region 3 with fail
      go_cut [6, 7] from 21 to 32 (fun s6 s7 wx => ∃ gn, s6 = .pointer (some ⟨gn, 0, none⟩) ∧ s7 = .int .i64 0 ∧ Below wz.heap.size wz wx ∧ Blk wx gn 37 #[.int .i64 e, .int .i64 (i : Nat), .bool false])
      case first =>
        refine wp_pan (Pc := fun _ _ _ => False) (fun _ _ _ h => h.elim) ?_
        refine wp_region_tail_lit (S := fun V => V.cell? ⟨g, 9, none⟩ = some (.int .i64 s.fe) ∧ V.cell? ⟨g, 10, none⟩ = some (.int .i64 s.fo) ∧ V.cell? ⟨g, 11, none⟩ = some (.bool false) ∧ V.cell? ⟨W.heap.size, 1, none⟩ = some (.int .i64 e)) 13 (by kernel_rfl) (by kernel_rfl) ⟨(((Below.refl wz.heap.size wz).drew).cell (p := ⟨g, 9, none⟩) hgz).trans q9, (((Below.refl wz.heap.size wz).drew).cell (p := ⟨g, 10, none⟩) hgz).trans q10, (((Below.refl wz.heap.size wz).drew).cell (p := ⟨g, 11, none⟩) hgz).trans q11, (((Below.refl wz.heap.size wz).drew).cell (p := ⟨W.heap.size, 1, none⟩) hsZ).trans l1⟩ (fun hHeld => ?_)
        simp only [List.take, List.drop]
        refine wpAnyH_take (i := 0) (oi := _) (v := ?_) rfl (by kernel_rfl) (by kernel_rfl) (by kernel_rfl) (fun _ _ _ h => h) (Or.inl ⟨by rfl, ?_⟩) (by assumption) ?_
        rotate_left 1
        · (intro w9 hS9; (try dsimp only at hS9); go_simp <;> with_reducible rfl)
        try simp only [List.getElem_toArray, List.getElem_cons_succ, List.getElem_cons_zero, Act.put, List.setIfInBounds_toArray, List.set_cons_zero, List.set_cons_succ]
        refine wpAnyH_take (i := 1) (oi := _) (v := ?_) rfl (by kernel_rfl) (by kernel_rfl) (by kernel_rfl) (fun _ _ _ h => h) (Or.inl ⟨by rfl, ?_⟩) (by assumption) ?_
        rotate_left 1
        · (intro w9 hS9; (try dsimp only at hS9); go_simp <;> with_reducible rfl)
        try simp only [List.getElem_toArray, List.getElem_cons_succ, List.getElem_cons_zero, Act.put, List.setIfInBounds_toArray, List.set_cons_zero, List.set_cons_succ]
        refine wpAnyH_take (i := 2) (oi := _) (v := ?_) rfl (by kernel_rfl) (by kernel_rfl) (by kernel_rfl) (fun _ _ _ h => h) (Or.inl ⟨by rfl, ?_⟩) (by assumption) ?_
        rotate_left 1
        · (intro w9 hS9; (try dsimp only at hS9); go_simp <;> with_reducible rfl)
        try simp only [List.getElem_toArray, List.getElem_cons_succ, List.getElem_cons_zero, Act.put, List.setIfInBounds_toArray, List.set_cons_zero, List.set_cons_succ]
        refine wpAnyH_take (i := 3) (oi := _) (v := ?_) rfl (by kernel_rfl) (by kernel_rfl) (by kernel_rfl) (fun _ _ _ h => h) (Or.inl ⟨by rfl, ?_⟩) (by assumption) ?_
        rotate_left 1
        · (intro w9 hS9; (try dsimp only at hS9); go_simp <;> with_reducible rfl)
        try simp only [List.getElem_toArray, List.getElem_cons_succ, List.getElem_cons_zero, Act.put, List.setIfInBounds_toArray, List.set_cons_zero, List.set_cons_succ]
        refine wpAnyH_take (i := 4) (oi := _) (v := ?_) rfl (by kernel_rfl) (by kernel_rfl) (by kernel_rfl) (fun _ _ _ h => h) (Or.inl ⟨by rfl, ?_⟩) (by assumption) ?_
        rotate_left 1
        · (intro w9 hS9; (try dsimp only at hS9); go_simp <;> with_reducible rfl)
        try simp only [List.getElem_toArray, List.getElem_cons_succ, List.getElem_cons_zero, Act.put, List.setIfInBounds_toArray, List.set_cons_zero, List.set_cons_succ]
        refine wpAnyH_take (i := 5) (oi := _) (v := ?_) rfl (by kernel_rfl) (by kernel_rfl) (by kernel_rfl) (fun _ _ _ h => h) (Or.inl ⟨by rfl, ?_⟩) (by assumption) ?_
        rotate_left 1
        · (intro w9 hS9; (try dsimp only at hS9); go_simp <;> with_reducible rfl)
        try simp only [List.getElem_toArray, List.getElem_cons_succ, List.getElem_cons_zero, Act.put, List.setIfInBounds_toArray, List.set_cons_zero, List.set_cons_succ]
        refine wpAnyH_take (i := 6) (oi := _) (v := ?_) rfl (by kernel_rfl) (by kernel_rfl) (by kernel_rfl) (fun _ _ _ h => h) (Or.inl ⟨by rfl, ?_⟩) (by assumption) ?_
        rotate_left 1
        · (intro w9 hS9; (try dsimp only at hS9); go_simp <;> with_reducible rfl)
        try simp only [List.getElem_toArray, List.getElem_cons_succ, List.getElem_cons_zero, Act.put, List.setIfInBounds_toArray, List.set_cons_zero, List.set_cons_succ]
        refine wpAnyH_ready (rs := [7, 11]) (by kernel_rfl) (by simp) ?_
        refine AllReadyH.cons (o := _) rfl (fun K hK => ?_) ?_
        · try simp only [List.getElem_toArray, List.getElem_cons_succ, List.getElem_cons_zero]
          try rw [if_pos (show Region.wanted _ _ = true from rfl)]
          go_simp
          refine (Raise_any s.fe s.fo e (i : Nat) false wz.drew).mono ?_
          rintro x wy ⟨rfl, hby⟩
          rw [hrv]
          have hwy : Below wz.heap.size wz wy := (Below.refl wz.heap.size wz).drew.trans (hby.mono (Below.refl wz.heap.size wz).drew.size)
          go_wp2_with fail
          refine hK.out _ _ ⟨(hwy.cell (p := ⟨g, 9, none⟩) hgz).trans q9, (hwy.cell (p := ⟨g, 10, none⟩) hgz).trans q10, (hwy.cell (p := ⟨g, 11, none⟩) hgz).trans q11, (hwy.cell (p := ⟨W.heap.size, 1, none⟩) hsZ).trans l1⟩ (fun hHeld => ?_)
          clear hK K
          try simp only [List.getElem_toArray, List.getElem_cons_succ, List.getElem_cons_zero, Act.put, List.setIfInBounds_toArray, List.set_cons_zero, List.set_cons_succ]
          refine wpAnyH_take (i := 8) (oi := _) (v := ?_) rfl (by kernel_rfl) (by kernel_rfl) (by kernel_rfl) (fun _ _ _ h => h) (Or.inl ⟨by rfl, ?_⟩) (by assumption) ?_
          rotate_left 1
          · (intro w9 hS9; (try dsimp only at hS9); go_simp <;> with_reducible rfl)
          try simp only [List.getElem_toArray, List.getElem_cons_succ, List.getElem_cons_zero, Act.put, List.setIfInBounds_toArray, List.set_cons_zero, List.set_cons_succ]
          refine wpAnyH_take (i := 9) (oi := _) (v := ?_) rfl (by kernel_rfl) (by kernel_rfl) (by kernel_rfl) (fun _ _ _ h => h) (Or.inl ⟨by rfl, ?_⟩) (by assumption) ?_
          rotate_left 1
          · (intro w9 hS9; (try dsimp only at hS9); go_simp <;> with_reducible rfl)
          try simp only [List.getElem_toArray, List.getElem_cons_succ, List.getElem_cons_zero, Act.put, List.setIfInBounds_toArray, List.set_cons_zero, List.set_cons_succ]
          refine wpAnyH_take (i := 10) (oi := _) (v := ?_) rfl (by kernel_rfl) (by kernel_rfl) (by kernel_rfl) (fun _ _ _ h => h) (Or.inl ⟨by rfl, ?_⟩) (by assumption) ?_
          rotate_left 1
          · (intro w9 hS9; (try dsimp only at hS9); go_simp <;> with_reducible rfl)
          try simp only [List.getElem_toArray, List.getElem_cons_succ, List.getElem_cons_zero, Act.put, List.setIfInBounds_toArray, List.set_cons_zero, List.set_cons_succ]
          refine wpAnyH_ready (rs := [11]) (by kernel_rfl) (by simp) ?_
          refine AllReadyH.cons (o := _) rfl (fun K hK => ?_) AllReadyH.nil
          try simp only [List.getElem_toArray, List.getElem_cons_succ, List.getElem_cons_zero]
          try rw [if_pos (show Region.wanted _ _ = true from rfl)]
          go_simp
          obtain ⟨Wn, hWn⟩ : ∃ W9, wy.alloc (.cells #[.int .i64 0, .int .i64 0, .bool false] 37) = W9 := ⟨_, rfl⟩
          have hbn : Below wy.heap.size wy Wn := by rw [← hWn]; exact (Below.refl _ wy).alloc (Nat.le_refl _) _
          have hG : Blk Wn wy.heap.size 37 #[.int .i64 0, .int .i64 0, .bool false] := by rw [← hWn]; exact Blk.new _ _ _
          rw [hWn]
          clear hWn
          have hwn : Below wz.heap.size wz Wn := hwy.trans (hbn.mono hwy.size)
          obtain ⟨gn, hgn⟩ : ∃ gn, wy.heap.size = gn := ⟨_, rfl⟩
          have hgz2 : wz.heap.size ≤ gn := by rw [← hgn]; exact hwy.size
          rw [hgn] at hG ⊢
          clear hgn
          refine hK.out _ _ ⟨(hwn.cell (p := ⟨g, 9, none⟩) hgz).trans q9, (hwn.cell (p := ⟨g, 10, none⟩) hgz).trans q10, (hwn.cell (p := ⟨g, 11, none⟩) hgz).trans q11, (hwn.cell (p := ⟨W.heap.size, 1, none⟩) hsZ).trans l1⟩ (fun hHeld => ?_)
          clear hK K
          try simp only [List.getElem_toArray, List.getElem_cons_succ, List.getElem_cons_zero, Act.put, List.setIfInBounds_toArray, List.set_cons_zero, List.set_cons_succ]
          refine wpAnyH_ready (rs := [12]) (by kernel_rfl) (by simp) ?_
          refine AllReadyH.cons (o := _) rfl (fun K hK => ?_) AllReadyH.nil
          try simp only [List.getElem_toArray, List.getElem_cons_succ, List.getElem_cons_zero]
          try rw [if_pos (show Region.wanted _ _ = true from rfl)]
          refine wp_store_row 37 _ _ (by rfl) gn #[.int .i64 e, .int .i64 (i : Nat), .bool false] (by rfl) (by rfl) 37 _ hG (by kernel_rfl) rfl (by simp [Value.oneCell']) ?_
          have hfin : Below wz.heap.size wz (Wn.setRow gn #[.int .i64 e, .int .i64 (i : Nat), .bool false]) := below_setRow hwn hgz2 _
          have hgr : Blk (Wn.setRow gn #[.int .i64 e, .int .i64 (i : Nat), .bool false]) gn 37 #[.int .i64 e, .int .i64 (i : Nat), .bool false] := hG.setRow _
          refine hK.out _ _ ⟨(hfin.cell (p := ⟨g, 9, none⟩) hgz).trans q9, (hfin.cell (p := ⟨g, 10, none⟩) hgz).trans q10, (hfin.cell (p := ⟨g, 11, none⟩) hgz).trans q11, (hfin.cell (p := ⟨W.heap.size, 1, none⟩) hsZ).trans l1⟩ (fun hHeld => ?_)
          clear hK K
          try simp only [List.getElem_toArray, List.getElem_cons_succ, List.getElem_cons_zero, Act.put, List.setIfInBounds_toArray, List.set_cons_zero, List.set_cons_succ]
          refine wpAnyH_done (by kernel_rfl) ?_ _
          refine tailQ_step rfl ?_
          go_wp2_with fail
          refine tailQ_nil (panQ_normal ?_)
          try go_wp2_with fail
          go_meet
          exact ⟨gn, rfl, rfl, hfin, hgr⟩
        refine AllReadyH.cons (o := _) rfl (fun K hK => ?_) ?_
        · try simp only [List.getElem_toArray, List.getElem_cons_succ, List.getElem_cons_zero]
          try rw [if_pos (show Region.wanted _ _ = true from rfl)]
          go_simp
          obtain ⟨Wn, hWn⟩ : ∃ W9, (wz.alloc (.cells #[.int .i64 0, .int .i64 0, .bool false] 37)).drew = W9 := ⟨_, rfl⟩
          have hbn : Below wz.heap.size wz Wn := by rw [← hWn]; exact ((Below.refl _ wz).alloc (Nat.le_refl _) _).drew
          have hG : Blk Wn wz.heap.size 37 #[.int .i64 0, .int .i64 0, .bool false] := by rw [← hWn]; exact Blk.new _ _ _
          rw [hWn]
          clear hWn
          refine hK.out _ _ ⟨(hbn.cell (p := ⟨g, 9, none⟩) hgz).trans q9, (hbn.cell (p := ⟨g, 10, none⟩) hgz).trans q10, (hbn.cell (p := ⟨g, 11, none⟩) hgz).trans q11, (hbn.cell (p := ⟨W.heap.size, 1, none⟩) hsZ).trans l1⟩ (fun hHeld => ?_)
          clear hK K
          try simp only [List.getElem_toArray, List.getElem_cons_succ, List.getElem_cons_zero, Act.put, List.setIfInBounds_toArray, List.set_cons_zero, List.set_cons_succ]
          refine wpAnyH_ready (rs := [7]) (by kernel_rfl) (by simp) ?_
          refine AllReadyH.cons (o := _) rfl (fun K hK => ?_) AllReadyH.nil
          try simp only [List.getElem_toArray, List.getElem_cons_succ, List.getElem_cons_zero]
          try rw [if_pos (show Region.wanted _ _ = true from rfl)]
          go_simp
          refine (Raise_any s.fe s.fo e (i : Nat) false Wn).mono ?_
          rintro x wy ⟨rfl, hby⟩
          rw [hrv]
          have hwy : Below wz.heap.size wz wy := hbn.trans (hby.mono hbn.size)
          have hG := hG.below hby hG.lt
          go_wp2_with fail
          refine hK.out _ _ ⟨(hwy.cell (p := ⟨g, 9, none⟩) hgz).trans q9, (hwy.cell (p := ⟨g, 10, none⟩) hgz).trans q10, (hwy.cell (p := ⟨g, 11, none⟩) hgz).trans q11, (hwy.cell (p := ⟨W.heap.size, 1, none⟩) hsZ).trans l1⟩ (fun hHeld => ?_)
          clear hK K
          try simp only [List.getElem_toArray, List.getElem_cons_succ, List.getElem_cons_zero, Act.put, List.setIfInBounds_toArray, List.set_cons_zero, List.set_cons_succ]
          refine wpAnyH_take (i := 8) (oi := _) (v := ?_) rfl (by kernel_rfl) (by kernel_rfl) (by kernel_rfl) (fun _ _ _ h => h) (Or.inl ⟨by rfl, ?_⟩) (by assumption) ?_
          rotate_left 1
          · (intro w9 hS9; (try dsimp only at hS9); go_simp <;> with_reducible rfl)
          try simp only [List.getElem_toArray, List.getElem_cons_succ, List.getElem_cons_zero, Act.put, List.setIfInBounds_toArray, List.set_cons_zero, List.set_cons_succ]
          refine wpAnyH_take (i := 9) (oi := _) (v := ?_) rfl (by kernel_rfl) (by kernel_rfl) (by kernel_rfl) (fun _ _ _ h => h) (Or.inl ⟨by rfl, ?_⟩) (by assumption) ?_
          rotate_left 1
          · (intro w9 hS9; (try dsimp only at hS9); go_simp <;> with_reducible rfl)
          try simp only [List.getElem_toArray, List.getElem_cons_succ, List.getElem_cons_zero, Act.put, List.setIfInBounds_toArray, List.set_cons_zero, List.set_cons_succ]
          refine wpAnyH_take (i := 10) (oi := _) (v := ?_) rfl (by kernel_rfl) (by kernel_rfl) (by kernel_rfl) (fun _ _ _ h => h) (Or.inl ⟨by rfl, ?_⟩) (by assumption) ?_
          rotate_left 1
          · (intro w9 hS9; (try dsimp only at hS9); go_simp <;> with_reducible rfl)
          try simp only [List.getElem_toArray, List.getElem_cons_succ, List.getElem_cons_zero, Act.put, List.setIfInBounds_toArray, List.set_cons_zero, List.set_cons_succ]
          refine wpAnyH_ready (rs := [12]) (by kernel_rfl) (by simp) ?_
          refine AllReadyH.cons (o := _) rfl (fun K hK => ?_) AllReadyH.nil
          try simp only [List.getElem_toArray, List.getElem_cons_succ, List.getElem_cons_zero]
          try rw [if_pos (show Region.wanted _ _ = true from rfl)]
          refine wp_store_row 37 _ _ (by rfl) wz.heap.size #[.int .i64 e, .int .i64 (i : Nat), .bool false] (by rfl) (by rfl) 37 _ hG (by kernel_rfl) rfl (by simp [Value.oneCell']) ?_
          have hfin : Below wz.heap.size wz (wy.setRow wz.heap.size #[.int .i64 e, .int .i64 (i : Nat), .bool false]) := below_setRow hwy (Nat.le_refl _) _
          have hgr : Blk (wy.setRow wz.heap.size #[.int .i64 e, .int .i64 (i : Nat), .bool false]) wz.heap.size 37 #[.int .i64 e, .int .i64 (i : Nat), .bool false] := hG.setRow _
          refine hK.out _ _ ⟨(hfin.cell (p := ⟨g, 9, none⟩) hgz).trans q9, (hfin.cell (p := ⟨g, 10, none⟩) hgz).trans q10, (hfin.cell (p := ⟨g, 11, none⟩) hgz).trans q11, (hfin.cell (p := ⟨W.heap.size, 1, none⟩) hsZ).trans l1⟩ (fun hHeld => ?_)
          clear hK K
          try simp only [List.getElem_toArray, List.getElem_cons_succ, List.getElem_cons_zero, Act.put, List.setIfInBounds_toArray, List.set_cons_zero, List.set_cons_succ]
          refine wpAnyH_done (by kernel_rfl) ?_ _
          refine tailQ_step rfl ?_
          go_wp2_with fail
          refine tailQ_nil (panQ_normal ?_)
          try go_wp2_with fail
          go_meet
          exact ⟨wz.heap.size, rfl, rfl, hfin, hgr⟩
        exact AllReadyH.nil
      case rest =>
        obtain ⟨gn, rfl, rfl, hbx, hbn⟩ := hcut
        have HI3 := Lib.hid (HI2.out.below hbx)
        have HB3 := Lib.hid (HB2.out.below hbx)
        have bZ3 := bZ.below hbx hsZ
        have hsx := hbx.size
        generalize wc = wx at *
        have n0 : wx.cell? ⟨gn, 0, none⟩ = some (.int .i64 e) := hbn.cell 0
        have n1 : wx.cell? ⟨gn, 1, none⟩ = some (.int .i64 (i : Nat)) := hbn.cell 1
        have n2 : wx.cell? ⟨gn, 2, none⟩ = some (.bool false) := hbn.cell 2
        clear hbx hbn q9 q10 q11 l1 bZ
        have q9 : wx.cell? ⟨g, 9, none⟩ = some (.int .i64 s.fe) := HB3.out.blk.cell 9
        have q10 : wx.cell? ⟨g, 10, none⟩ = some (.int .i64 s.fo) := HB3.out.blk.cell 10
        have q11 : wx.cell? ⟨g, 11, none⟩ = some (.bool false) := HB3.out.blk.cell 11
        have f9 : wx.frozen? ⟨g, 9, none⟩ = false := HB3.out.blk.frozen 9
        have f10 : wx.frozen? ⟨g, 10, none⟩ = false := HB3.out.blk.frozen 10
        have f11 : wx.frozen? ⟨g, 11, none⟩ = false := HB3.out.blk.frozen 11
        go_upto_region 6 with fail
        clear q9 q10 q11 f9 f10 f11
        have HI4 := Lib.hid (((HI3.out.put (s' := { s with fe := e }) 9 (.int .i64 e) (fun _ _ _ => rfl) rfl rfl rfl).put (s' := { s with fe := e, fo := (i : Nat) }) 10 (.int .i64 (i : Nat)) (fun _ _ _ => rfl) rfl rfl rfl).put (s' := { s with fe := e, fo := (i : Nat) }) 11 (.bool false) (fun _ _ _ => rfl) rfl rfl rfl)
        have HB4 := Lib.hid (((HB3.out.put (s' := { s with fe := e }) 9 (.int .i64 e) rfl rfl rfl rfl).put (s' := { s with fe := e, fo := (i : Nat) }) 10 (.int .i64 (i : Nat)) rfl rfl rfl rfl).put (s' := { s with fe := e, fo := (i : Nat) }) 11 (.bool false) rfl rfl rfl rfl)
        have hgn : W.heap.size ≠ g := by omega
        have bZ4 := ((bZ3.far (p := ⟨g, 9, none⟩) hgn (.int .i64 e)).far (p := ⟨g, 10, none⟩) hgn (.int .i64 (i : Nat))).far (p := ⟨g, 11, none⟩) hgn (.bool false)
        have hs4 : (((wx.setCell ⟨g, 9, none⟩ (.int .i64 e)).setCell ⟨g, 10, none⟩ (.int .i64 (i : Nat))).setCell ⟨g, 11, none⟩ (.bool false)).heap.size = wx.heap.size := by simp
        generalize (((wx.setCell ⟨g, 9, none⟩ (.int .i64 e)).setCell ⟨g, 10, none⟩ (.int .i64 (i : Nat))).setCell ⟨g, 11, none⟩ (.bool false)) = wv at *
        have hgz : g < wv.heap.size := by omega
        have hsZ : W.heap.size < wv.heap.size := by omega
        have q9 : wv.cell? ⟨g, 9, none⟩ = some (.int .i64 e) := HB4.out.blk.cell 9
        have q10 : wv.cell? ⟨g, 10, none⟩ = some (.int .i64 (i : Nat)) := HB4.out.blk.cell 10
        have q11 : wv.cell? ⟨g, 11, none⟩ = some (.bool false) := HB4.out.blk.cell 11
        have l1 : wv.cell? ⟨W.heap.size, 1, none⟩ = some (.int .i64 e) := bZ4.cell 1
        clear n0 n1 n2 bZ3 bZ4 hs4
        refine wp_pan (Pc := fun _ _ _ => False) (fun _ _ _ h => h.elim) ?_
        refine wp_region_tail_lit (S := fun V => V.cell? ⟨g, 9, none⟩ = some (.int .i64 e) ∧ V.cell? ⟨g, 10, none⟩ = some (.int .i64 (i : Nat)) ∧ V.cell? ⟨g, 11, none⟩ = some (.bool false) ∧ V.cell? ⟨W.heap.size, 1, none⟩ = some (.int .i64 e)) 9 (by kernel_rfl) (by kernel_rfl) ⟨(((Below.refl wv.heap.size wv).drew).cell (p := ⟨g, 9, none⟩) hgz).trans q9, (((Below.refl wv.heap.size wv).drew).cell (p := ⟨g, 10, none⟩) hgz).trans q10, (((Below.refl wv.heap.size wv).drew).cell (p := ⟨g, 11, none⟩) hgz).trans q11, (((Below.refl wv.heap.size wv).drew).cell (p := ⟨W.heap.size, 1, none⟩) hsZ).trans l1⟩ (fun hHeld => ?_)
        simp only [List.take, List.drop]
        refine wpAnyH_take (i := 0) (oi := _) (v := ?_) rfl (by kernel_rfl) (by kernel_rfl) (by kernel_rfl) (fun _ _ _ h => h) (Or.inl ⟨by rfl, ?_⟩) (by assumption) ?_
        rotate_left 1
        · (intro w9 hS9; (try dsimp only at hS9); go_simp <;> with_reducible rfl)
        try simp only [List.getElem_toArray, List.getElem_cons_succ, List.getElem_cons_zero, Act.put, List.setIfInBounds_toArray, List.set_cons_zero, List.set_cons_succ]
        refine wpAnyH_take (i := 1) (oi := _) (v := ?_) rfl (by kernel_rfl) (by kernel_rfl) (by kernel_rfl) (fun _ _ _ h => h) (Or.inl ⟨by rfl, ?_⟩) (by assumption) ?_
        rotate_left 1
        · (intro w9 hS9; (try dsimp only at hS9); go_simp <;> with_reducible rfl)
        try simp only [List.getElem_toArray, List.getElem_cons_succ, List.getElem_cons_zero, Act.put, List.setIfInBounds_toArray, List.set_cons_zero, List.set_cons_succ]
        refine wpAnyH_take (i := 2) (oi := _) (v := ?_) rfl (by kernel_rfl) (by kernel_rfl) (by kernel_rfl) (fun _ _ _ h => h) (Or.inl ⟨by rfl, ?_⟩) (by assumption) ?_
        rotate_left 1
        · (intro w9 hS9; (try dsimp only at hS9); go_simp <;> with_reducible rfl)
        try simp only [List.getElem_toArray, List.getElem_cons_succ, List.getElem_cons_zero, Act.put, List.setIfInBounds_toArray, List.set_cons_zero, List.set_cons_succ]
        refine wpAnyH_take (i := 3) (oi := _) (v := ?_) rfl (by kernel_rfl) (by kernel_rfl) (by kernel_rfl) (fun _ _ _ h => h) (Or.inl ⟨by rfl, ?_⟩) (by assumption) ?_
        rotate_left 1
        · (intro w9 hS9; (try dsimp only at hS9); go_simp <;> with_reducible rfl)
        try simp only [List.getElem_toArray, List.getElem_cons_succ, List.getElem_cons_zero, Act.put, List.setIfInBounds_toArray, List.set_cons_zero, List.set_cons_succ]
        refine wpAnyH_take (i := 4) (oi := _) (v := ?_) rfl (by kernel_rfl) (by kernel_rfl) (by kernel_rfl) (fun _ _ _ h => h) (Or.inl ⟨by rfl, ?_⟩) (by assumption) ?_
        rotate_left 1
        · (intro w9 hS9; (try dsimp only at hS9); go_simp <;> with_reducible rfl)
        try simp only [List.getElem_toArray, List.getElem_cons_succ, List.getElem_cons_zero, Act.put, List.setIfInBounds_toArray, List.set_cons_zero, List.set_cons_succ]
        refine wpAnyH_take (i := 5) (oi := _) (v := ?_) rfl (by kernel_rfl) (by kernel_rfl) (by kernel_rfl) (fun _ _ _ h => h) (Or.inl ⟨by rfl, ?_⟩) (by assumption) ?_
        rotate_left 1
        · (intro w9 hS9; (try dsimp only at hS9); go_simp <;> with_reducible rfl)
        try simp only [List.getElem_toArray, List.getElem_cons_succ, List.getElem_cons_zero, Act.put, List.setIfInBounds_toArray, List.set_cons_zero, List.set_cons_succ]
        refine wpAnyH_take (i := 6) (oi := _) (v := ?_) rfl (by kernel_rfl) (by kernel_rfl) (by kernel_rfl) (fun _ _ _ h => h) (Or.inl ⟨by rfl, ?_⟩) (by assumption) ?_
        rotate_left 1
        · (intro w9 hS9; (try dsimp only at hS9); go_simp <;> with_reducible rfl)
        try simp only [List.getElem_toArray, List.getElem_cons_succ, List.getElem_cons_zero, Act.put, List.setIfInBounds_toArray, List.set_cons_zero, List.set_cons_succ]
        refine wpAnyH_ready (rs := [7]) (by kernel_rfl) (by simp) ?_
        refine AllReadyH.cons (o := _) rfl (fun K hK => ?_) AllReadyH.nil
        try simp only [List.getElem_toArray, List.getElem_cons_succ, List.getElem_cons_zero]
        try rw [if_pos (show Region.wanted _ _ = true from rfl)]
        go_simp
        refine (Admit_any e (i : Nat) e (i : Nat) false wv.drew).mono ?_
        rintro x wy ⟨rfl, hby⟩
        rw [hav]
        have hwy : Below wv.heap.size wv wy := ((Below.refl _ wv).drew).trans hby
        go_wp2_with fail
        refine hK.out _ _ ⟨(hwy.cell (p := ⟨g, 9, none⟩) hgz).trans q9, (hwy.cell (p := ⟨g, 10, none⟩) hgz).trans q10, (hwy.cell (p := ⟨g, 11, none⟩) hgz).trans q11, (hwy.cell (p := ⟨W.heap.size, 1, none⟩) hsZ).trans l1⟩ (fun hHeld => ?_)
        clear hK K
        try simp only [List.getElem_toArray, List.getElem_cons_succ, List.getElem_cons_zero, Act.put, List.setIfInBounds_toArray, List.set_cons_zero, List.set_cons_succ]
        refine wpAnyH_take (i := 8) (oi := _) (v := ?_) rfl (by kernel_rfl) (by kernel_rfl) (by kernel_rfl) (fun _ _ _ h => h) (Or.inl ⟨by rfl, ?_⟩) (by assumption) ?_
        rotate_left 1
        · (intro w9 hS9; (try dsimp only at hS9); go_simp <;> with_reducible rfl)
        try simp only [List.getElem_toArray, List.getElem_cons_succ, List.getElem_cons_zero, Act.put, List.setIfInBounds_toArray, List.set_cons_zero, List.set_cons_succ]
        refine wpAnyH_done (by kernel_rfl) ?_ _
        refine tailQ_step rfl ?_
        go_wp2_with fail
        refine tailQ_nil (panQ_normal ?_)
        go_wp2_with fail
        go_ret
        exact ⟨rfl, by rw [HWS.out]; exact HI4.out.below hwy⟩
    · have hfo : s.fe = e ∧ s.fo = (i : Nat) := by rcases hok hnu with h | h; (exact absurd h hfe); exact h
      have hrv := raise_not (x := s.fe) (o := s.fo) (n := e) (s := ((i : Nat) : Int)) (by omega) (by omega) (by omega) (by omega) hfe
      have hav : admitV s.fe s.fo false e (i : Nat) = 0 := by rw [← hfo.1, ← hfo.2]; exact admit_yes (by omega) (by omega)
      have hWs : writeM s i = s := by rw [HW.out, if_neg (fun h => hfe h.2)]
      have HWS := Lib.hid hWs
      clear hWs HW hok hfo
      go_upto_region 3 with fail
      go_cut [6, 7] from 21 to 32 (fun s6 s7 wx => ∃ gn, s6 = .pointer (some ⟨gn, 0, none⟩) ∧ s7 = .int .i64 13 ∧ Below wz.heap.size wz wx ∧ Blk wx gn 37 #[.int .i64 0, .int .i64 0, .bool false])
      case first =>
        refine wp_pan (Pc := fun _ _ _ => False) (fun _ _ _ h => h.elim) ?_
        refine wp_region_tail_lit (S := fun V => V.cell? ⟨g, 9, none⟩ = some (.int .i64 s.fe) ∧ V.cell? ⟨g, 10, none⟩ = some (.int .i64 s.fo) ∧ V.cell? ⟨g, 11, none⟩ = some (.bool false) ∧ V.cell? ⟨W.heap.size, 1, none⟩ = some (.int .i64 e)) 13 (by kernel_rfl) (by kernel_rfl) ⟨(((Below.refl wz.heap.size wz).drew).cell (p := ⟨g, 9, none⟩) hgz).trans q9, (((Below.refl wz.heap.size wz).drew).cell (p := ⟨g, 10, none⟩) hgz).trans q10, (((Below.refl wz.heap.size wz).drew).cell (p := ⟨g, 11, none⟩) hgz).trans q11, (((Below.refl wz.heap.size wz).drew).cell (p := ⟨W.heap.size, 1, none⟩) hsZ).trans l1⟩ (fun hHeld => ?_)
        simp only [List.take, List.drop]
        refine wpAnyH_take (i := 0) (oi := _) (v := ?_) rfl (by kernel_rfl) (by kernel_rfl) (by kernel_rfl) (fun _ _ _ h => h) (Or.inl ⟨by rfl, ?_⟩) (by assumption) ?_
        rotate_left 1
        · (intro w9 hS9; (try dsimp only at hS9); go_simp <;> with_reducible rfl)
        try simp only [List.getElem_toArray, List.getElem_cons_succ, List.getElem_cons_zero, Act.put, List.setIfInBounds_toArray, List.set_cons_zero, List.set_cons_succ]
        refine wpAnyH_take (i := 1) (oi := _) (v := ?_) rfl (by kernel_rfl) (by kernel_rfl) (by kernel_rfl) (fun _ _ _ h => h) (Or.inl ⟨by rfl, ?_⟩) (by assumption) ?_
        rotate_left 1
        · (intro w9 hS9; (try dsimp only at hS9); go_simp <;> with_reducible rfl)
        try simp only [List.getElem_toArray, List.getElem_cons_succ, List.getElem_cons_zero, Act.put, List.setIfInBounds_toArray, List.set_cons_zero, List.set_cons_succ]
        refine wpAnyH_take (i := 2) (oi := _) (v := ?_) rfl (by kernel_rfl) (by kernel_rfl) (by kernel_rfl) (fun _ _ _ h => h) (Or.inl ⟨by rfl, ?_⟩) (by assumption) ?_
        rotate_left 1
        · (intro w9 hS9; (try dsimp only at hS9); go_simp <;> with_reducible rfl)
        try simp only [List.getElem_toArray, List.getElem_cons_succ, List.getElem_cons_zero, Act.put, List.setIfInBounds_toArray, List.set_cons_zero, List.set_cons_succ]
        refine wpAnyH_take (i := 3) (oi := _) (v := ?_) rfl (by kernel_rfl) (by kernel_rfl) (by kernel_rfl) (fun _ _ _ h => h) (Or.inl ⟨by rfl, ?_⟩) (by assumption) ?_
        rotate_left 1
        · (intro w9 hS9; (try dsimp only at hS9); go_simp <;> with_reducible rfl)
        try simp only [List.getElem_toArray, List.getElem_cons_succ, List.getElem_cons_zero, Act.put, List.setIfInBounds_toArray, List.set_cons_zero, List.set_cons_succ]
        refine wpAnyH_take (i := 4) (oi := _) (v := ?_) rfl (by kernel_rfl) (by kernel_rfl) (by kernel_rfl) (fun _ _ _ h => h) (Or.inl ⟨by rfl, ?_⟩) (by assumption) ?_
        rotate_left 1
        · (intro w9 hS9; (try dsimp only at hS9); go_simp <;> with_reducible rfl)
        try simp only [List.getElem_toArray, List.getElem_cons_succ, List.getElem_cons_zero, Act.put, List.setIfInBounds_toArray, List.set_cons_zero, List.set_cons_succ]
        refine wpAnyH_take (i := 5) (oi := _) (v := ?_) rfl (by kernel_rfl) (by kernel_rfl) (by kernel_rfl) (fun _ _ _ h => h) (Or.inl ⟨by rfl, ?_⟩) (by assumption) ?_
        rotate_left 1
        · (intro w9 hS9; (try dsimp only at hS9); go_simp <;> with_reducible rfl)
        try simp only [List.getElem_toArray, List.getElem_cons_succ, List.getElem_cons_zero, Act.put, List.setIfInBounds_toArray, List.set_cons_zero, List.set_cons_succ]
        refine wpAnyH_take (i := 6) (oi := _) (v := ?_) rfl (by kernel_rfl) (by kernel_rfl) (by kernel_rfl) (fun _ _ _ h => h) (Or.inl ⟨by rfl, ?_⟩) (by assumption) ?_
        rotate_left 1
        · (intro w9 hS9; (try dsimp only at hS9); go_simp <;> with_reducible rfl)
        try simp only [List.getElem_toArray, List.getElem_cons_succ, List.getElem_cons_zero, Act.put, List.setIfInBounds_toArray, List.set_cons_zero, List.set_cons_succ]
        refine wpAnyH_ready (rs := [7, 11]) (by kernel_rfl) (by simp) ?_
        refine AllReadyH.cons (o := _) rfl (fun K hK => ?_) ?_
        · try simp only [List.getElem_toArray, List.getElem_cons_succ, List.getElem_cons_zero]
          try rw [if_pos (show Region.wanted _ _ = true from rfl)]
          go_simp
          refine (Raise_any s.fe s.fo e (i : Nat) false wz.drew).mono ?_
          rintro x wy ⟨rfl, hby⟩
          rw [hrv]
          have hwy : Below wz.heap.size wz wy := (Below.refl wz.heap.size wz).drew.trans (hby.mono (Below.refl wz.heap.size wz).drew.size)
          go_wp2_with fail
          refine hK.out _ _ ⟨(hwy.cell (p := ⟨g, 9, none⟩) hgz).trans q9, (hwy.cell (p := ⟨g, 10, none⟩) hgz).trans q10, (hwy.cell (p := ⟨g, 11, none⟩) hgz).trans q11, (hwy.cell (p := ⟨W.heap.size, 1, none⟩) hsZ).trans l1⟩ (fun hHeld => ?_)
          clear hK K
          try simp only [List.getElem_toArray, List.getElem_cons_succ, List.getElem_cons_zero, Act.put, List.setIfInBounds_toArray, List.set_cons_zero, List.set_cons_succ]
          refine wpAnyH_take (i := 8) (oi := _) (v := ?_) rfl (by kernel_rfl) (by kernel_rfl) (by kernel_rfl) (fun _ _ _ h => h) (Or.inl ⟨by rfl, ?_⟩) (by assumption) ?_
          rotate_left 1
          · (intro w9 hS9; (try dsimp only at hS9); go_simp <;> with_reducible rfl)
          try simp only [List.getElem_toArray, List.getElem_cons_succ, List.getElem_cons_zero, Act.put, List.setIfInBounds_toArray, List.set_cons_zero, List.set_cons_succ]
          refine wpAnyH_take (i := 9) (oi := _) (v := ?_) rfl (by kernel_rfl) (by kernel_rfl) (by kernel_rfl) (fun _ _ _ h => h) (Or.inl ⟨by rfl, ?_⟩) (by assumption) ?_
          rotate_left 1
          · (intro w9 hS9; (try dsimp only at hS9); go_simp <;> with_reducible rfl)
          try simp only [List.getElem_toArray, List.getElem_cons_succ, List.getElem_cons_zero, Act.put, List.setIfInBounds_toArray, List.set_cons_zero, List.set_cons_succ]
          refine wpAnyH_take (i := 10) (oi := _) (v := ?_) rfl (by kernel_rfl) (by kernel_rfl) (by kernel_rfl) (fun _ _ _ h => h) (Or.inl ⟨by rfl, ?_⟩) (by assumption) ?_
          rotate_left 1
          · (intro w9 hS9; (try dsimp only at hS9); go_simp <;> with_reducible rfl)
          try simp only [List.getElem_toArray, List.getElem_cons_succ, List.getElem_cons_zero, Act.put, List.setIfInBounds_toArray, List.set_cons_zero, List.set_cons_succ]
          refine wpAnyH_ready (rs := [11]) (by kernel_rfl) (by simp) ?_
          refine AllReadyH.cons (o := _) rfl (fun K hK => ?_) AllReadyH.nil
          try simp only [List.getElem_toArray, List.getElem_cons_succ, List.getElem_cons_zero]
          try rw [if_pos (show Region.wanted _ _ = true from rfl)]
          go_simp
          obtain ⟨Wn, hWn⟩ : ∃ W9, wy.alloc (.cells #[.int .i64 0, .int .i64 0, .bool false] 37) = W9 := ⟨_, rfl⟩
          have hbn : Below wy.heap.size wy Wn := by rw [← hWn]; exact (Below.refl _ wy).alloc (Nat.le_refl _) _
          have hG : Blk Wn wy.heap.size 37 #[.int .i64 0, .int .i64 0, .bool false] := by rw [← hWn]; exact Blk.new _ _ _
          rw [hWn]
          clear hWn
          have hwn : Below wz.heap.size wz Wn := hwy.trans (hbn.mono hwy.size)
          obtain ⟨gn, hgn⟩ : ∃ gn, wy.heap.size = gn := ⟨_, rfl⟩
          have hgz2 : wz.heap.size ≤ gn := by rw [← hgn]; exact hwy.size
          rw [hgn] at hG ⊢
          clear hgn
          refine hK.out _ _ ⟨(hwn.cell (p := ⟨g, 9, none⟩) hgz).trans q9, (hwn.cell (p := ⟨g, 10, none⟩) hgz).trans q10, (hwn.cell (p := ⟨g, 11, none⟩) hgz).trans q11, (hwn.cell (p := ⟨W.heap.size, 1, none⟩) hsZ).trans l1⟩ (fun hHeld => ?_)
          clear hK K
          try simp only [List.getElem_toArray, List.getElem_cons_succ, List.getElem_cons_zero, Act.put, List.setIfInBounds_toArray, List.set_cons_zero, List.set_cons_succ]
          refine wpAnyH_ready (rs := [12]) (by kernel_rfl) (by simp) ?_
          refine AllReadyH.cons (o := _) rfl (fun K hK => ?_) AllReadyH.nil
          try simp only [List.getElem_toArray, List.getElem_cons_succ, List.getElem_cons_zero]
          try rw [if_pos (show Region.wanted _ _ = true from rfl)]
          refine wp_store_row 37 _ _ (by rfl) gn #[.int .i64 0, .int .i64 0, .bool false] (by rfl) (by rfl) 37 _ hG (by kernel_rfl) rfl (by simp [Value.oneCell']) ?_
          have hfin : Below wz.heap.size wz (Wn.setRow gn #[.int .i64 0, .int .i64 0, .bool false]) := below_setRow hwn hgz2 _
          have hgr : Blk (Wn.setRow gn #[.int .i64 0, .int .i64 0, .bool false]) gn 37 #[.int .i64 0, .int .i64 0, .bool false] := hG.setRow _
          refine hK.out _ _ ⟨(hfin.cell (p := ⟨g, 9, none⟩) hgz).trans q9, (hfin.cell (p := ⟨g, 10, none⟩) hgz).trans q10, (hfin.cell (p := ⟨g, 11, none⟩) hgz).trans q11, (hfin.cell (p := ⟨W.heap.size, 1, none⟩) hsZ).trans l1⟩ (fun hHeld => ?_)
          clear hK K
          try simp only [List.getElem_toArray, List.getElem_cons_succ, List.getElem_cons_zero, Act.put, List.setIfInBounds_toArray, List.set_cons_zero, List.set_cons_succ]
          refine wpAnyH_done (by kernel_rfl) ?_ _
          refine tailQ_step rfl ?_
          go_wp2_with fail
          refine tailQ_nil (panQ_normal ?_)
          try go_wp2_with fail
          go_meet
          exact ⟨gn, rfl, rfl, hfin, hgr⟩
        refine AllReadyH.cons (o := _) rfl (fun K hK => ?_) ?_
        · try simp only [List.getElem_toArray, List.getElem_cons_succ, List.getElem_cons_zero]
          try rw [if_pos (show Region.wanted _ _ = true from rfl)]
          go_simp
          obtain ⟨Wn, hWn⟩ : ∃ W9, (wz.alloc (.cells #[.int .i64 0, .int .i64 0, .bool false] 37)).drew = W9 := ⟨_, rfl⟩
          have hbn : Below wz.heap.size wz Wn := by rw [← hWn]; exact ((Below.refl _ wz).alloc (Nat.le_refl _) _).drew
          have hG : Blk Wn wz.heap.size 37 #[.int .i64 0, .int .i64 0, .bool false] := by rw [← hWn]; exact Blk.new _ _ _
          rw [hWn]
          clear hWn
          refine hK.out _ _ ⟨(hbn.cell (p := ⟨g, 9, none⟩) hgz).trans q9, (hbn.cell (p := ⟨g, 10, none⟩) hgz).trans q10, (hbn.cell (p := ⟨g, 11, none⟩) hgz).trans q11, (hbn.cell (p := ⟨W.heap.size, 1, none⟩) hsZ).trans l1⟩ (fun hHeld => ?_)
          clear hK K
          try simp only [List.getElem_toArray, List.getElem_cons_succ, List.getElem_cons_zero, Act.put, List.setIfInBounds_toArray, List.set_cons_zero, List.set_cons_succ]
          refine wpAnyH_ready (rs := [7]) (by kernel_rfl) (by simp) ?_
          refine AllReadyH.cons (o := _) rfl (fun K hK => ?_) AllReadyH.nil
          try simp only [List.getElem_toArray, List.getElem_cons_succ, List.getElem_cons_zero]
          try rw [if_pos (show Region.wanted _ _ = true from rfl)]
          go_simp
          refine (Raise_any s.fe s.fo e (i : Nat) false Wn).mono ?_
          rintro x wy ⟨rfl, hby⟩
          rw [hrv]
          have hwy : Below wz.heap.size wz wy := hbn.trans (hby.mono hbn.size)
          have hG := hG.below hby hG.lt
          go_wp2_with fail
          refine hK.out _ _ ⟨(hwy.cell (p := ⟨g, 9, none⟩) hgz).trans q9, (hwy.cell (p := ⟨g, 10, none⟩) hgz).trans q10, (hwy.cell (p := ⟨g, 11, none⟩) hgz).trans q11, (hwy.cell (p := ⟨W.heap.size, 1, none⟩) hsZ).trans l1⟩ (fun hHeld => ?_)
          clear hK K
          try simp only [List.getElem_toArray, List.getElem_cons_succ, List.getElem_cons_zero, Act.put, List.setIfInBounds_toArray, List.set_cons_zero, List.set_cons_succ]
          refine wpAnyH_take (i := 8) (oi := _) (v := ?_) rfl (by kernel_rfl) (by kernel_rfl) (by kernel_rfl) (fun _ _ _ h => h) (Or.inl ⟨by rfl, ?_⟩) (by assumption) ?_
          rotate_left 1
          · (intro w9 hS9; (try dsimp only at hS9); go_simp <;> with_reducible rfl)
          try simp only [List.getElem_toArray, List.getElem_cons_succ, List.getElem_cons_zero, Act.put, List.setIfInBounds_toArray, List.set_cons_zero, List.set_cons_succ]
          refine wpAnyH_take (i := 9) (oi := _) (v := ?_) rfl (by kernel_rfl) (by kernel_rfl) (by kernel_rfl) (fun _ _ _ h => h) (Or.inl ⟨by rfl, ?_⟩) (by assumption) ?_
          rotate_left 1
          · (intro w9 hS9; (try dsimp only at hS9); go_simp <;> with_reducible rfl)
          try simp only [List.getElem_toArray, List.getElem_cons_succ, List.getElem_cons_zero, Act.put, List.setIfInBounds_toArray, List.set_cons_zero, List.set_cons_succ]
          refine wpAnyH_take (i := 10) (oi := _) (v := ?_) rfl (by kernel_rfl) (by kernel_rfl) (by kernel_rfl) (fun _ _ _ h => h) (Or.inl ⟨by rfl, ?_⟩) (by assumption) ?_
          rotate_left 1
          · (intro w9 hS9; (try dsimp only at hS9); go_simp <;> with_reducible rfl)
          try simp only [List.getElem_toArray, List.getElem_cons_succ, List.getElem_cons_zero, Act.put, List.setIfInBounds_toArray, List.set_cons_zero, List.set_cons_succ]
          refine wpAnyH_ready (rs := [12]) (by kernel_rfl) (by simp) ?_
          refine AllReadyH.cons (o := _) rfl (fun K hK => ?_) AllReadyH.nil
          try simp only [List.getElem_toArray, List.getElem_cons_succ, List.getElem_cons_zero]
          try rw [if_pos (show Region.wanted _ _ = true from rfl)]
          refine wp_store_row 37 _ _ (by rfl) wz.heap.size #[.int .i64 0, .int .i64 0, .bool false] (by rfl) (by rfl) 37 _ hG (by kernel_rfl) rfl (by simp [Value.oneCell']) ?_
          have hfin : Below wz.heap.size wz (wy.setRow wz.heap.size #[.int .i64 0, .int .i64 0, .bool false]) := below_setRow hwy (Nat.le_refl _) _
          have hgr : Blk (wy.setRow wz.heap.size #[.int .i64 0, .int .i64 0, .bool false]) wz.heap.size 37 #[.int .i64 0, .int .i64 0, .bool false] := hG.setRow _
          refine hK.out _ _ ⟨(hfin.cell (p := ⟨g, 9, none⟩) hgz).trans q9, (hfin.cell (p := ⟨g, 10, none⟩) hgz).trans q10, (hfin.cell (p := ⟨g, 11, none⟩) hgz).trans q11, (hfin.cell (p := ⟨W.heap.size, 1, none⟩) hsZ).trans l1⟩ (fun hHeld => ?_)
          clear hK K
          try simp only [List.getElem_toArray, List.getElem_cons_succ, List.getElem_cons_zero, Act.put, List.setIfInBounds_toArray, List.set_cons_zero, List.set_cons_succ]
          refine wpAnyH_done (by kernel_rfl) ?_ _
          refine tailQ_step rfl ?_
          go_wp2_with fail
          refine tailQ_nil (panQ_normal ?_)
          try go_wp2_with fail
          go_meet
          exact ⟨wz.heap.size, rfl, rfl, hfin, hgr⟩
        exact AllReadyH.nil
      case rest =>
        obtain ⟨gn, rfl, rfl, hbx, _⟩ := hcut
        have HI3 := Lib.hid (HI2.out.below hbx)
        have HB3 := Lib.hid (HB2.out.below hbx)
        have bZ3 := bZ.below hbx hsZ
        have hsx := hbx.size
        generalize wc = wx at *
        clear hbx q9 q10 q11 l1 bZ
        have hgz : g < wx.heap.size := by omega
        have hsZ : W.heap.size < wx.heap.size := by omega
        have q9 : wx.cell? ⟨g, 9, none⟩ = some (.int .i64 s.fe) := HB3.out.blk.cell 9
        have q10 : wx.cell? ⟨g, 10, none⟩ = some (.int .i64 s.fo) := HB3.out.blk.cell 10
        have q11 : wx.cell? ⟨g, 11, none⟩ = some (.bool false) := HB3.out.blk.cell 11
        have l1 : wx.cell? ⟨W.heap.size, 1, none⟩ = some (.int .i64 e) := bZ3.cell 1
        clear bZ3
        go_upto_region 6 with fail
        refine wp_pan (Pc := fun _ _ _ => False) (fun _ _ _ h => h.elim) ?_
        refine wp_region_tail_lit (S := fun V => V.cell? ⟨g, 9, none⟩ = some (.int .i64 s.fe) ∧ V.cell? ⟨g, 10, none⟩ = some (.int .i64 s.fo) ∧ V.cell? ⟨g, 11, none⟩ = some (.bool false) ∧ V.cell? ⟨W.heap.size, 1, none⟩ = some (.int .i64 e)) 9 (by kernel_rfl) (by kernel_rfl) ⟨(((Below.refl wx.heap.size wx).drew).cell (p := ⟨g, 9, none⟩) hgz).trans q9, (((Below.refl wx.heap.size wx).drew).cell (p := ⟨g, 10, none⟩) hgz).trans q10, (((Below.refl wx.heap.size wx).drew).cell (p := ⟨g, 11, none⟩) hgz).trans q11, (((Below.refl wx.heap.size wx).drew).cell (p := ⟨W.heap.size, 1, none⟩) hsZ).trans l1⟩ (fun hHeld => ?_)
        simp only [List.take, List.drop]
        refine wpAnyH_take (i := 0) (oi := _) (v := ?_) rfl (by kernel_rfl) (by kernel_rfl) (by kernel_rfl) (fun _ _ _ h => h) (Or.inl ⟨by rfl, ?_⟩) (by assumption) ?_
        rotate_left 1
        · (intro w9 hS9; (try dsimp only at hS9); go_simp <;> with_reducible rfl)
        try simp only [List.getElem_toArray, List.getElem_cons_succ, List.getElem_cons_zero, Act.put, List.setIfInBounds_toArray, List.set_cons_zero, List.set_cons_succ]
        refine wpAnyH_take (i := 1) (oi := _) (v := ?_) rfl (by kernel_rfl) (by kernel_rfl) (by kernel_rfl) (fun _ _ _ h => h) (Or.inl ⟨by rfl, ?_⟩) (by assumption) ?_
        rotate_left 1
        · (intro w9 hS9; (try dsimp only at hS9); go_simp <;> with_reducible rfl)
        try simp only [List.getElem_toArray, List.getElem_cons_succ, List.getElem_cons_zero, Act.put, List.setIfInBounds_toArray, List.set_cons_zero, List.set_cons_succ]
        refine wpAnyH_take (i := 2) (oi := _) (v := ?_) rfl (by kernel_rfl) (by kernel_rfl) (by kernel_rfl) (fun _ _ _ h => h) (Or.inl ⟨by rfl, ?_⟩) (by assumption) ?_
        rotate_left 1
        · (intro w9 hS9; (try dsimp only at hS9); go_simp <;> with_reducible rfl)
        try simp only [List.getElem_toArray, List.getElem_cons_succ, List.getElem_cons_zero, Act.put, List.setIfInBounds_toArray, List.set_cons_zero, List.set_cons_succ]
        refine wpAnyH_take (i := 3) (oi := _) (v := ?_) rfl (by kernel_rfl) (by kernel_rfl) (by kernel_rfl) (fun _ _ _ h => h) (Or.inl ⟨by rfl, ?_⟩) (by assumption) ?_
        rotate_left 1
        · (intro w9 hS9; (try dsimp only at hS9); go_simp <;> with_reducible rfl)
        try simp only [List.getElem_toArray, List.getElem_cons_succ, List.getElem_cons_zero, Act.put, List.setIfInBounds_toArray, List.set_cons_zero, List.set_cons_succ]
        refine wpAnyH_take (i := 4) (oi := _) (v := ?_) rfl (by kernel_rfl) (by kernel_rfl) (by kernel_rfl) (fun _ _ _ h => h) (Or.inl ⟨by rfl, ?_⟩) (by assumption) ?_
        rotate_left 1
        · (intro w9 hS9; (try dsimp only at hS9); go_simp <;> with_reducible rfl)
        try simp only [List.getElem_toArray, List.getElem_cons_succ, List.getElem_cons_zero, Act.put, List.setIfInBounds_toArray, List.set_cons_zero, List.set_cons_succ]
        refine wpAnyH_take (i := 5) (oi := _) (v := ?_) rfl (by kernel_rfl) (by kernel_rfl) (by kernel_rfl) (fun _ _ _ h => h) (Or.inl ⟨by rfl, ?_⟩) (by assumption) ?_
        rotate_left 1
        · (intro w9 hS9; (try dsimp only at hS9); go_simp <;> with_reducible rfl)
        try simp only [List.getElem_toArray, List.getElem_cons_succ, List.getElem_cons_zero, Act.put, List.setIfInBounds_toArray, List.set_cons_zero, List.set_cons_succ]
        refine wpAnyH_take (i := 6) (oi := _) (v := ?_) rfl (by kernel_rfl) (by kernel_rfl) (by kernel_rfl) (fun _ _ _ h => h) (Or.inl ⟨by rfl, ?_⟩) (by assumption) ?_
        rotate_left 1
        · (intro w9 hS9; (try dsimp only at hS9); go_simp <;> with_reducible rfl)
        try simp only [List.getElem_toArray, List.getElem_cons_succ, List.getElem_cons_zero, Act.put, List.setIfInBounds_toArray, List.set_cons_zero, List.set_cons_succ]
        refine wpAnyH_ready (rs := [7]) (by kernel_rfl) (by simp) ?_
        refine AllReadyH.cons (o := _) rfl (fun K hK => ?_) AllReadyH.nil
        try simp only [List.getElem_toArray, List.getElem_cons_succ, List.getElem_cons_zero]
        try rw [if_pos (show Region.wanted _ _ = true from rfl)]
        go_simp
        refine (Admit_any s.fe s.fo e (i : Nat) false wx.drew).mono ?_
        rintro x wy ⟨rfl, hby⟩
        rw [hav]
        have hwy : Below wx.heap.size wx wy := ((Below.refl _ wx).drew).trans hby
        go_wp2_with fail
        refine hK.out _ _ ⟨(hwy.cell (p := ⟨g, 9, none⟩) hgz).trans q9, (hwy.cell (p := ⟨g, 10, none⟩) hgz).trans q10, (hwy.cell (p := ⟨g, 11, none⟩) hgz).trans q11, (hwy.cell (p := ⟨W.heap.size, 1, none⟩) hsZ).trans l1⟩ (fun hHeld => ?_)
        clear hK K
        try simp only [List.getElem_toArray, List.getElem_cons_succ, List.getElem_cons_zero, Act.put, List.setIfInBounds_toArray, List.set_cons_zero, List.set_cons_succ]
        refine wpAnyH_take (i := 8) (oi := _) (v := ?_) rfl (by kernel_rfl) (by kernel_rfl) (by kernel_rfl) (fun _ _ _ h => h) (Or.inl ⟨by rfl, ?_⟩) (by assumption) ?_
        rotate_left 1
        · (intro w9 hS9; (try dsimp only at hS9); go_simp <;> with_reducible rfl)
        try simp only [List.getElem_toArray, List.getElem_cons_succ, List.getElem_cons_zero, Act.put, List.setIfInBounds_toArray, List.set_cons_zero, List.set_cons_succ]
        refine wpAnyH_done (by kernel_rfl) ?_ _
        refine tailQ_step rfl ?_
        go_wp2_with fail
        refine tailQ_nil (panQ_normal ?_)
        go_wp2_with fail
        go_ret
        exact ⟨rfl, by rw [HWS.out]; exact HI3.out.below hwy⟩
end Go.Proofs.Ytggaaajkbnhofaa
