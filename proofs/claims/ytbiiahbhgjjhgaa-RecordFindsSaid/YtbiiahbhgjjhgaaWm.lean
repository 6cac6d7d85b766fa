/- The walk of Encode. Condition: a kind of one byte, a number of four, at most 4096 bytes. -/
import Derived.Test.YtbiiahbhgjjhgaaWl
import Derived.Test.YtbiiahbhgjjhgaaWd
import Derived.Test.YtbiiahbhgjjhgaaLibX
import Derived.Test.YtbiiahbhgjjhgaaLibP
import Derived.Test.YtbiiahbhgjjhgaaLibQ
import Derived.Test.YtbiiahbhgjjhgaaWi
import Derived.Deep.CutRange
namespace Go.Proofs.Ytbiiahbhgjjhgaa
open Go.RowKit Go.Shelf
attribute [local go_sem] Oper.semAt_some
/-- a row of the call's own -/
def OwnB (X : World) (m : Nat) (l : List Nat) (v : Value) (W : World) : Prop := W.ownsRow X.heap.size 5 1 v m (u8s l) ∧ Below X.heap.size X W
theorem own_bytes {w : World} {g : Nat} {l : List Nat} (h : Blk w g 5 (u8s l).toArray) (hm : l.length ≤ maxLen) {base : Nat} (hb : base ≤ g) : w.ownsRow base 5 1 (.slice (some ⟨g, 0, none⟩) l.length l.length) l.length (u8s l) :=
  ⟨by rw [u8s_len]; omega, .inr ⟨g, l.length, (u8s l).toArray, rfl, hb, h, Nat.le_refl _, hm, by simp [u8s_len], by rw [Nat.mul_one]; exact List.take_of_length_le (by simp [u8s_len])⟩⟩
theorem info47b : (Try.prog.info? 47).map (fun i => (i.zero, i.size, i.bytes)) = some (some (.agg #[.int .u8 0, .int .u8 0, .int .u8 0, .int .u8 0, .int .u8 0, .int .u8 0, .int .u8 0, .int .u8 0]), 8, 8) := by kernel_rfl
/-- what a round of Encode finds -/
structure EnI (N0 q : Nat) (st : List Nat) (w8 : World) (m : Nat) (pre : List {i : Nat // i < m}) (W : World) : Prop where
  row : ∃ v, Blk W N0 28 #[v] ∧ W.ownsRow (N0 + 3) 47 8 v pre.length ((pre.map fun i => secR q st i.1).flatMap encS)
  bel : Below N0 w8 W
  size : N0 + 3 ≤ W.heap.size
theorem blk_own {W W' : World} {g B : Nat} {t : TypeId} {cs : Array Value} {row : Option Nat} (h : Blk W g t cs) (hg : W.grownBy W' row) (hr : ∀ r, row = some r → B ≤ r ∧ ∃ o : Obj, W.heap[r]? = some o ∧ o.isCells = false) : Blk W' g t cs := by
  refine h.grown hg (fun e => ?_)
  obtain ⟨_, o, ho, hc⟩ := hr g e.symm
  unfold Blk at h
  rw [h] at ho
  injection ho with ho
  subst ho
  cases hc
theorem own_own {W W' : World} {base B : Nat} {e : TypeId} {size : Nat} {v : Value} {n : Nat} {xs : List Value} {row : Option Nat} (h : W.ownsRow base e size v n xs) (hg : W.grownBy W' row) (hr : ∀ r, row = some r → B ≤ r ∧ ∃ o : Obj, W.heap[r]? = some o ∧ o.isCells = false) : W'.ownsRow base e size v n xs := by
  refine own_keep h (fun g hv => ?_)
  rcases h.2 with ⟨rfl, _⟩ | ⟨g', cap, cur, rfl, _, hb, _⟩
  · simp [Value.ownBlock] at hv
  · simp [Value.ownBlock] at hv
    subst hv
    have hb' : Blk W g' e cur := hb
    exact (show W'.heap[g']? = _ from blk_own hb' hg hr).trans hb.symm
theorem info5s : (Try.prog.info? 5).map (·.size) = some 1 := by kernel_rfl
theorem getD_drop (l : List Nat) (i j : Nat) : l.getD (i + j) 0 = (l.drop i).getD j 0 := by
  rw [List.getD_eq_getElem?_getD, List.getD_eq_getElem?_getD, List.getElem?_drop]
theorem lCh_take (st : List Nat) (x : Nat) : (st.drop (4 * x)).take (lCh st.length x) = (st.drop (4 * x)).take 4 := by
  unfold lCh
  split
  · rfl
  · rw [List.take_of_length_le (by rw [List.length_drop]; omega), List.take_of_length_le (by rw [List.length_drop]; omega)]
theorem chunk_row (q : Nat) (st : List Nat) (x : Nat) :
    ((#[.int .u8 ((q % 256 : Nat) : Int), .int .u8 ((q / 256 % 256 : Nat) : Int), .int .u8 ((q / 256 / 256 % 256 : Nat) : Int), .int .u8 ((q / 256 / 256 / 256 % 256 : Nat) : Int), .int .u8 0, .int .u8 0, .int .u8 0, .int .u8 0] : Array Value).toList.take 4 ++ u8s ((st.drop (4 * x)).take (lCh st.length x)) ++
      (#[.int .u8 ((q % 256 : Nat) : Int), .int .u8 ((q / 256 % 256 : Nat) : Int), .int .u8 ((q / 256 / 256 % 256 : Nat) : Int), .int .u8 ((q / 256 / 256 / 256 % 256 : Nat) : Int), .int .u8 0, .int .u8 0, .int .u8 0, .int .u8 0] : Array Value).toList.drop (4 + (u8s ((st.drop (4 * x)).take (lCh st.length x))).length)) = encS (secR q st x) := by
  rw [lCh_take]
  have e0 : st.getD (4 * x) 0 = (st.drop (4 * x)).getD 0 0 := getD_drop st (4 * x) 0
  simp only [secR, encS, e0, getD_drop]
  generalize st.drop (4 * x) = l
  match l with
  | [] => rfl
  | [_] => rfl
  | [_, _] => rfl
  | [_, _, _] => rfl
  | _ :: _ :: _ :: _ :: _ => rfl
theorem EnI.own {N0 q : Nat} {st : List Nat} {w8 : World} {m : Nat} (B : Nat) (hB : N0 ≤ B) : OwnFrom B (EnI N0 q st w8 m) := by
  intro pre W W' row h hg hr
  obtain ⟨v, h1, h2⟩ := h.row
  exact ⟨⟨v, blk_own h1 hg hr, own_own h2 hg hr⟩, h.bel.grown hg (Nat.le_trans (by omega) h.size) (fun r e => by have := (hr r e).1; omega), Nat.le_trans h.size hg.size⟩
theorem own_cells {W : World} {base : Nat} {e : TypeId} {size : Nat} {v : Value} {n : Nat} {xs : List Value} (h : W.ownsRow base e size v n xs) {k : Nat} (hk : v.ownBlock = some k) : ∃ cs, Blk W k e cs := by
  rcases h.2 with ⟨rfl, _⟩ | ⟨g, cap, cur, rfl, _, hb, _⟩
  · simp [Value.ownBlock] at hk
  · simp [Value.ownBlock] at hk
    subst hk
    exact ⟨cur, hb⟩
theorem blk_obj {W : World} {k : Nat} {e : TypeId} {cs : Array Value} {o : Obj} (h : Blk W k e cs) (hk : W.heap[k]? = some o) : o.isCells = true := by
  unfold Blk at h
  rw [h] at hk
  injection hk with hk
  subst hk
  rfl
set_option maxRecDepth 100000 in
set_option maxHeartbeats 2000000 in
set_option linter.unusedSimpArgs false in
theorem Encode_in (k q n c : Nat) (A : Option Addr) (p : List Nat) (w : World) (hk0 : 0 < k) (hk : k < 256) (hq0 : 0 < q) (hq : q < 4294967296) (hR : Reads w w.heap.size 1 A n (u8s p)) (hn : n ≤ 4096) (hp : AllB p) :
    CallsIn Fence.wide 3 Try.prog 14 #[.agg #[.int .i64 k, .int .i64 q, .slice A n c]] w fun e w' => (∃ A' c', e = .returned (.tuple #[.slice A' (szN n) c', .int .i64 0]) ∧ Reads w' w'.heap.size 8 A' (szN n) ((encR k q p).flatMap encS) ∧ szN n ≤ c' ∧ c' ≤ maxLen) ∧ Below w.heap.size w w' := by
  have hlen : p.length = n := by have := hR.1; rw [u8s_len] at this; omega
  obtain ⟨i0, hi0, hz0, hz1, hz2⟩ := info_parts info5b
  have HI := Lib.hid (And.intro hi0 (And.intro hz0 (And.intro hz1 hz2)))
  have HP := Lib.hid (And.intro hlen (And.intro hR hp))
  clear hi0 hz0 hz1 hz2 hlen hR hp
  refine callsIn_of_wp_marks Try.func14 rfl trivial ?_ rfl
  simp only [Try.ntmps14, List.size_toArray, List.length_cons, List.length_nil, Nat.reduceAdd, Nat.reduceSub, Array.replicate_succ, Array.replicate_zero, List.push_toArray, List.append_toArray, List.nil_append, List.cons_append]
  refine wpIn_wide.2 ?_
  have k1 : ¬ (k : Int) < 1 := by omega
  have k2 : ¬ (255 : Int) < k := by omega
  have k3 : ¬ (q : Int) < 1 := by omega
  have k4 : ¬ (4294967295 : Int) < q := by omega
  have hwk : IntKind.u8.wrap (k : Int) = k := by rw [IntKind.wrap_u8']; omega
  have k5 : ¬ (4096 : Int) < n := by omega
  go_wp2_with fail
  have hbl : Blk (w.alloc (.cells #[.int .i64 k, .int .i64 q, .slice A n c] 27)) w.heap.size 27 #[.int .i64 k, .int .i64 q, .slice A n c] := Blk.new w 27 _
  have hbw : Below w.heap.size w (w.alloc (.cells #[.int .i64 k, .int .i64 q, .slice A n c] 27)) := (Below.refl _ w).alloc (Nat.le_refl _) _
  have hsX : (w.alloc (.cells #[.int .i64 k, .int .i64 q, .slice A n c] 27)).heap.size = w.heap.size + 1 := by simp
  generalize (w.alloc (.cells #[.int .i64 k, .int .i64 q, .slice A n c] 27)) = W at *
  have s0 : W.cell? ⟨w.heap.size, 0, none⟩ = some (.int .i64 k) := hbl.cell 0
  have s1 : W.cell? ⟨w.heap.size, 1, none⟩ = some (.int .i64 q) := hbl.cell 1
  have s2 : W.cell? ⟨w.heap.size, 2, none⟩ = some (.slice A n c) := hbl.cell 2
  have HB := Lib.hid (And.intro hbl hbw)
  clear hbl hbw
  go_cut [4] from 30 to 38 (fun s4 wx => OwnB W 3 (k :: le n 2) s4 wx)
  case first =>
    go_wp2_with fail
    refine wp_pan (Pc := fun _ _ _ => False) (fun _ _ _ h => h.elim) ?_
    refine wp_region_tail_lit (S := fun w' => w'.cell? ⟨w.heap.size, 0, none⟩ = some (.int .i64 k) ∧ w'.cell? ⟨w.heap.size, 2, none⟩ = some (.slice A n c)) 10 (by kernel_rfl) (by kernel_rfl) ⟨s0, s2⟩ (fun hHeld => ?_)
    simp only [List.take, List.drop]
    refine wpAnyH_take (i := 0) (oi := _) (v := ?_) rfl (by kernel_rfl) (by kernel_rfl) (by kernel_rfl) (fun _ _ _ h => h) (Or.inl ⟨by rfl, ?_⟩) (by assumption) ?_
    rotate_left 1
    · (intro w9 hS9; (try dsimp only at hS9); go_simp <;> with_reducible rfl)
    try simp only [List.getElem_toArray, List.getElem_cons_succ, List.getElem_cons_zero, Act.put, List.setIfInBounds_toArray, List.set_cons_zero, List.set_cons_succ]
    refine wpAnyH_take (i := 1) (oi := _) (v := ?_) rfl (by kernel_rfl) (by kernel_rfl) (by kernel_rfl) (fun _ _ _ h => h) (Or.inl ⟨by rfl, ?_⟩) (by assumption) ?_
    rotate_left 1
    · (intro w9 hS9; (try dsimp only at hS9); go_simp <;> with_reducible rfl)
    try simp only [List.getElem_toArray, List.getElem_cons_succ, List.getElem_cons_zero, Act.put, List.setIfInBounds_toArray, List.set_cons_zero, List.set_cons_succ]
    refine wpAnyH_take (i := 2) (oi := _) (v := ?_) rfl (by kernel_rfl) (by kernel_rfl) (by kernel_rfl) (fun _ _ _ h => h) (Or.inl ⟨by rfl, ?_⟩) (by assumption) ?_
    rotate_left 1
    · (intro w9 hS9; (try dsimp only at hS9); go_simp <;> with_reducible rfl)
    try simp only [List.getElem_toArray, List.getElem_cons_succ, List.getElem_cons_zero, Act.put, List.setIfInBounds_toArray, List.set_cons_zero, List.set_cons_succ]
    refine wpAnyH_take (i := 4) (oi := _) (v := ?_) rfl (by kernel_rfl) (by kernel_rfl) (by kernel_rfl) (fun _ _ _ h => h) (Or.inl ⟨by rfl, ?_⟩) (by assumption) ?_
    rotate_left 1
    · (intro w9 hS9; (try dsimp only at hS9); go_simp <;> with_reducible rfl)
    try simp only [List.getElem_toArray, List.getElem_cons_succ, List.getElem_cons_zero, Act.put, List.setIfInBounds_toArray, List.set_cons_zero, List.set_cons_succ]
    refine wpAnyH_take (i := 5) (oi := _) (v := ?_) rfl (by kernel_rfl) (by kernel_rfl) (by kernel_rfl) (fun _ _ _ h => h) (Or.inl ⟨by rfl, ?_⟩) (by assumption) ?_
    rotate_left 1
    · (intro w9 hS9; (try dsimp only at hS9); go_simp <;> with_reducible rfl)
    try simp only [List.getElem_toArray, List.getElem_cons_succ, List.getElem_cons_zero, Act.put, List.setIfInBounds_toArray, List.set_cons_zero, List.set_cons_succ]
    refine wpAnyH_take (i := 6) (oi := _) (v := ?_) rfl (by kernel_rfl) (by kernel_rfl) (by kernel_rfl) (fun _ _ _ h => h) (Or.inl ⟨by rfl, ?_⟩) (by assumption) ?_
    rotate_left 1
    · (intro w9 hS9; (try dsimp only at hS9); go_simp <;> with_reducible rfl)
    try simp only [List.getElem_toArray, List.getElem_cons_succ, List.getElem_cons_zero, Act.put, List.setIfInBounds_toArray, List.set_cons_zero, List.set_cons_succ]
    refine wpAnyH_ready (rs := [3, 7]) (by kernel_rfl) (by simp) ?_
    refine AllReadyH.cons (o := _) rfl (fun K hK => ?_) (AllReadyH.cons (o := _) rfl (fun K hK => ?_) AllReadyH.nil)
    · try simp only [List.getElem_toArray, List.getElem_cons_succ, List.getElem_cons_zero]
      go_simp
      have hnew : Blk (W.alloc (.cells #[.int .u8 (k : Int)] 5)).drew W.heap.size 5 (u8s [k]).toArray := (Blk.new W 5 #[.int .u8 (k : Int)]).drew
      have hb1 : Below W.heap.size W (W.alloc (.cells #[.int .u8 (k : Int)] 5)).drew := ((Below.refl _ W).alloc (Nat.le_refl _) _).drew
      have hs1 : (W.alloc (.cells #[.int .u8 (k : Int)] 5)).drew.heap.size = W.heap.size + 1 := by simp
      refine hK.out _ _ ⟨(hb1.cell (p := ⟨w.heap.size, 0, none⟩) (by dsimp only; omega)).trans s0, (hb1.cell (p := ⟨w.heap.size, 2, none⟩) (by dsimp only; omega)).trans s2⟩ (fun hHeld => ?_)
      clear hK K
      generalize (W.alloc (.cells #[.int .u8 (k : Int)] 5)).drew = W1 at *
      try simp only [List.getElem_toArray, List.getElem_cons_succ, List.getElem_cons_zero, Act.put, List.setIfInBounds_toArray, List.set_cons_zero, List.set_cons_succ]
      refine wpAnyH_ready (rs := [7]) (by kernel_rfl) (by simp) ?_
      refine AllReadyH.cons (o := _) rfl (fun K hK => ?_) AllReadyH.nil
      try simp only [List.getElem_toArray, List.getElem_cons_succ, List.getElem_cons_zero]
      go_simp
      refine (little_any n 2 W1 (by omega) (by omega)).mono ?_
      rintro e W3 ⟨⟨lv, rfl, hown⟩, hb2⟩
      obtain ⟨A2, c2, rfl, _, _, r2⟩ := own_slice hown
      go_wp2_with fail
      have hb3 : Below W.heap.size W W3 := hb1.trans (hb2.mono (by omega))
      have hbk := hnew.below hb2 (by omega)
      rw [hsX] at hbk
      have r1 := own_bytes (l := [k]) hbk (by simp [maxLen]) (show W.heap.size ≤ w.heap.size + 1 by omega)
      refine hK.out _ _ ⟨(hb3.cell (p := ⟨w.heap.size, 0, none⟩) (by dsimp only; omega)).trans s0, (hb3.cell (p := ⟨w.heap.size, 2, none⟩) (by dsimp only; omega)).trans s2⟩ (fun hHeld => ?_)
      clear hK K
      try simp only [List.getElem_toArray, List.getElem_cons_succ, List.getElem_cons_zero, Act.put, List.setIfInBounds_toArray, List.set_cons_zero, List.set_cons_succ]
      have hs3 := hb3.size
      refine wpAnyH_ready (rs := [8]) (by kernel_rfl) (by simp) ?_
      refine AllReadyH.cons (o := _) rfl (fun K hK => ?_) AllReadyH.nil
      try simp only [List.getElem_toArray, List.getElem_cons_succ, List.getElem_cons_zero]
      rw [if_pos (show Region.wanted _ _ = true from rfl)]
      refine wp_append_any W3 (.tmp 33) (.tmp 37) _ (by rfl) W.heap.size 5 i0 _ 1 1 Try.underlying25 HI.out.1 HI.out.2.1 HI.out.2.2.1 HI.out.2.2.2 rfl (by omega) _ 1 (u8s [k]) (by rfl) r1 W3.heap.size A2 2 c2 (u8s (le n 2)) (by rfl) r2 (u8s_one _) (by simp only [maxLen]; omega) (by omega) (by omega) ?_
      intro v4 W4 ho4 hg4 _
      have hb4 : Below W.heap.size W W4 := hb3.grown hg4 hb3.size (own_block_ge r1)
      refine hK.out _ _ ⟨(hb4.cell (p := ⟨w.heap.size, 0, none⟩) (by dsimp only; omega)).trans s0, (hb4.cell (p := ⟨w.heap.size, 2, none⟩) (by dsimp only; omega)).trans s2⟩ (fun hHeld => ?_)
      clear hK K
      try simp only [List.getElem_toArray, List.getElem_cons_succ, List.getElem_cons_zero, Act.put, List.setIfInBounds_toArray, List.set_cons_zero, List.set_cons_succ]
      refine wpAnyH_take (i := 9) (oi := _) (v := ?_) rfl (by kernel_rfl) (by kernel_rfl) (by kernel_rfl) (fun _ _ _ h => h) (Or.inl ⟨by rfl, ?_⟩) (by assumption) ?_
      rotate_left 1
      · (intro w9 hS9; (try dsimp only at hS9); go_simp <;> with_reducible rfl)
      try simp only [List.getElem_toArray, List.getElem_cons_succ, List.getElem_cons_zero, Act.put, List.setIfInBounds_toArray, List.set_cons_zero, List.set_cons_succ]
      refine wpAnyH_done (by kernel_rfl) ?_ _
      refine tailQ_nil (panQ_normal ?_)
      go_wp2_with fail
      go_meet
      exact ⟨by rw [← u8s_append] at ho4; exact ho4, hb4⟩
    · try simp only [List.getElem_toArray, List.getElem_cons_succ, List.getElem_cons_zero]
      go_simp
      refine (little_any n 2 W.drew (by omega) (by omega)).mono ?_
      rintro e W1 ⟨⟨lv, rfl, hown⟩, hb1⟩
      have hb1' : Below W.heap.size W W1 := (Below.refl _ W).drew.trans hb1
      have hs1 := hb1'.size
      go_wp2_with fail
      refine hK.out _ _ ⟨(hb1'.cell (p := ⟨w.heap.size, 0, none⟩) (by dsimp only; omega)).trans s0, (hb1'.cell (p := ⟨w.heap.size, 2, none⟩) (by dsimp only; omega)).trans s2⟩ (fun hHeld => ?_)
      clear hK K
      try simp only [List.getElem_toArray, List.getElem_cons_succ, List.getElem_cons_zero, Act.put, List.setIfInBounds_toArray, List.set_cons_zero, List.set_cons_succ]
      refine wpAnyH_ready (rs := [3]) (by kernel_rfl) (by simp) ?_
      refine AllReadyH.cons (o := _) rfl (fun K hK => ?_) AllReadyH.nil
      try simp only [List.getElem_toArray, List.getElem_cons_succ, List.getElem_cons_zero]
      go_simp
      have hbk : Blk (W1.alloc (.cells #[.int .u8 (k : Int)] 5)) W1.heap.size 5 (u8s [k]).toArray := Blk.new W1 5 #[.int .u8 (k : Int)]
      have hb3 : Below W.heap.size W (W1.alloc (.cells #[.int .u8 (k : Int)] 5)) := hb1'.alloc hs1 _
      have hown3 := own_alloc hown (.cells #[.int .u8 (k : Int)] 5)
      obtain ⟨A2, c2, rfl, _, _, r2⟩ := own_slice hown3
      have r1 := own_bytes (l := [k]) hbk (by simp [maxLen]) (show W.heap.size ≤ W1.heap.size from hs1)
      refine hK.out _ _ ⟨(hb3.cell (p := ⟨w.heap.size, 0, none⟩) (by dsimp only; omega)).trans s0, (hb3.cell (p := ⟨w.heap.size, 2, none⟩) (by dsimp only; omega)).trans s2⟩ (fun hHeld => ?_)
      clear hK K
      generalize (W1.alloc (.cells #[.int .u8 (k : Int)] 5)) = W3 at *
      try simp only [List.getElem_toArray, List.getElem_cons_succ, List.getElem_cons_zero, Act.put, List.setIfInBounds_toArray, List.set_cons_zero, List.set_cons_succ]
      have hs3 := hb3.size
      refine wpAnyH_ready (rs := [8]) (by kernel_rfl) (by simp) ?_
      refine AllReadyH.cons (o := _) rfl (fun K hK => ?_) AllReadyH.nil
      try simp only [List.getElem_toArray, List.getElem_cons_succ, List.getElem_cons_zero]
      rw [if_pos (show Region.wanted _ _ = true from rfl)]
      refine wp_append_any W3 (.tmp 33) (.tmp 37) _ (by rfl) W.heap.size 5 i0 _ 1 1 Try.underlying25 HI.out.1 HI.out.2.1 HI.out.2.2.1 HI.out.2.2.2 rfl (by omega) _ 1 (u8s [k]) (by rfl) r1 W3.heap.size A2 2 c2 (u8s (le n 2)) (by rfl) r2 (u8s_one _) (by simp only [maxLen]; omega) (by omega) (by omega) ?_
      intro v4 W4 ho4 hg4 _
      have hb4 : Below W.heap.size W W4 := hb3.grown hg4 hb3.size (own_block_ge r1)
      refine hK.out _ _ ⟨(hb4.cell (p := ⟨w.heap.size, 0, none⟩) (by dsimp only; omega)).trans s0, (hb4.cell (p := ⟨w.heap.size, 2, none⟩) (by dsimp only; omega)).trans s2⟩ (fun hHeld => ?_)
      clear hK K
      try simp only [List.getElem_toArray, List.getElem_cons_succ, List.getElem_cons_zero, Act.put, List.setIfInBounds_toArray, List.set_cons_zero, List.set_cons_succ]
      refine wpAnyH_take (i := 9) (oi := _) (v := ?_) rfl (by kernel_rfl) (by kernel_rfl) (by kernel_rfl) (fun _ _ _ h => h) (Or.inl ⟨by rfl, ?_⟩) (by assumption) ?_
      rotate_left 1
      · (intro w9 hS9; (try dsimp only at hS9); go_simp <;> with_reducible rfl)
      try simp only [List.getElem_toArray, List.getElem_cons_succ, List.getElem_cons_zero, Act.put, List.setIfInBounds_toArray, List.set_cons_zero, List.set_cons_succ]
      refine wpAnyH_done (by kernel_rfl) ?_ _
      refine tailQ_nil (panQ_normal ?_)
      go_wp2_with fail
      go_meet
      exact ⟨by rw [← u8s_append] at ho4; exact ho4, hb4⟩
  case rest =>
    obtain ⟨ho, hbc⟩ := hcut
    have hc1 : wc.cell? ⟨w.heap.size, 1, none⟩ = some (.int .i64 q) := (hbc.cell (p := ⟨w.heap.size, 1, none⟩) (by dsimp only; omega)).trans s1
    have hc2 : wc.cell? ⟨w.heap.size, 2, none⟩ = some (.slice A n c) := (hbc.cell (p := ⟨w.heap.size, 2, none⟩) (by dsimp only; omega)).trans s2
    obtain ⟨A1, c1, hv1, _, _, _⟩ := own_slice ho
    subst hv1
    have hbw : Below w.heap.size w wc := HB.out.2.trans (hbc.mono (by omega))
    have HO := Lib.hid (And.intro ho (And.intro hbc hbw))
    clear ho hbc hbw
    go_wp2_with (at_builtin; refine wpList_append_any wc rfl (.tmp 39) (.tmp 41) _ rfl W.heap.size 5 i0 _ 1 1 Try.underlying25 HI.out.1 HI.out.2.1 HI.out.2.2.1 HI.out.2.2.2 rfl (by omega) (.slice A1 3 c1) 3 (u8s (k :: le n 2)) rfl HO.out.1 w.heap.size A n c (u8s p) rfl (Reads.below HP.out.2.1 HO.out.2.2) (u8s_one _) (by simp only [maxLen]; omega) (by omega) HO.out.2.1.size ?_; intro v5 w5 ho5 hg5 _; obtain ⟨A5, c5, hv5, _, _, hR5⟩ := own_slice ho5; subst hv5)
    have hlen := HP.out.1
    have hbd : AllB (bodyR k p) := body_lt hk HP.out.2.2
    have heq : u8s (k :: le n 2) ++ u8s p = u8s (bodyR k p) := by rw [← u8s_append, ← hlen]; rfl
    have hl3 : (bodyR k p).length = 3 + n := by rw [body_len, hlen]; omega
    rw [heq] at ho5 hR5
    have hb5 : Below W.heap.size W w5 := HO.out.2.1.grown hg5 HO.out.2.1.size (own_block_ge HO.out.1)
    have hsl := updS_bd _ hbd
    obtain ⟨m1, hm1⟩ : ∃ m1, 3 + n = m1 := ⟨_, rfl⟩
    rw [hm1] at ho5 hR5 hl3 ⊢
    refine (sum_any m1 c5 A5 (bodyR k p) w5 (by omega) hR5 hbd).mono ?_
    rintro e w6 ⟨rfl, hb6⟩
    have ho6 := own_below ho5 hb6
    have hb6' : Below W.heap.size W w6 := hb5.trans (hb6.mono hb5.size)
    have HS : Hid (strmR k p = bodyR k p ++ le (updS 0 (bodyR k p)) 4) := rfl
    generalize updS 0 (bodyR k p) = S1 at *
    have HO6 := Lib.hid (And.intro ho6 hb6')
    clear ho5 hR5 hb5 hb6 ho6 hb6' hg5 heq hbd
    have HM1 := Lib.hid (And.intro hm1 hl3)
    have hm7 : m1 ≤ 4900 := by omega
    clear hm1 hl3
    go_wp2_with fail
    refine (little_any S1 4 w6 (by omega) (by omega)).mono ?_
    rintro e w7 ⟨⟨lv, rfl, hown⟩, hb7⟩
    obtain ⟨A7, c7, hv7, _, _, r7⟩ := own_slice hown
    subst hv7
    have ho7 := own_below HO6.out.1 hb7
    have hb7' : Below W.heap.size W w7 := HO6.out.2.trans (hb7.mono HO6.out.2.size)
    have HO7 := Lib.hid (And.intro ho7 (And.intro hb7' r7))
    clear ho7 hb7' r7 hown hb7
    go_wp2_with (at_builtin; refine wpList_append_any w7 rfl (.tmp 43) (.tmp 47) _ rfl W.heap.size 5 i0 _ 1 1 Try.underlying25 HI.out.1 HI.out.2.1 HI.out.2.2.1 HI.out.2.2.2 rfl (by omega) (.slice A5 m1 c5) m1 (u8s (bodyR k p)) rfl HO7.out.1 w7.heap.size A7 4 c7 (u8s (le S1 4)) rfl HO7.out.2.2 (u8s_one _) (by simp only [maxLen]; omega) (by omega) HO7.out.2.1.size ?_; intro v8 w8 ho8 hg8 _; obtain ⟨A8, c8, hv8, hc8, hm8, _⟩ := own_slice ho8; subst hv8)
    refine (Chunk_any A8 (m1 + 4) c8 _).mono ?_
    rintro e w9 ⟨rfl, hw9⟩
    have hst : u8s (bodyR k p) ++ u8s (le S1 4) = u8s (strmR k p) := by rw [← u8s_append, ← HS.out]
    rw [hst] at ho8
    have hlst : (strmR k p).length = m1 + 4 := by rw [strm_len, HP.out.1]; have := HM1.out.1; omega
    obtain ⟨g8, cap8, cur8, hv8, hg8', hbk8, _, _, hcs8, htk8⟩ := own_blk ho8 (by omega)
    obtain ⟨rfl, rfl⟩ : A8 = some ⟨g8, 0, none⟩ ∧ c8 = cap8 := by injection hv8 with h1 _ h2; exact ⟨h1, h2⟩
    have hlt8 := hbk8.lt
    have hrow8 : Row w8 g8 (strmR k p) := by
      intro j hj
      rw [hbk8.cell]
      have h1 : (cur8.toList.take ((m1 + 4) * 1))[j]? = cur8[j]? := by rw [List.getElem?_take_of_lt (by omega), Array.getElem?_toList]
      rw [← h1, htk8, u8s, List.getElem?_map, List.getElem?_eq_getElem hj, List.getD_eq_getElem?_getD, List.getElem?_eq_getElem hj]
      rfl
    have hbw8 : Below W.heap.size W w8 := HO7.out.2.1.grown hg8 HO7.out.2.1.size (own_block_ge HO7.out.1)
    have hws8 := hbw8.size
    have hqc8 : w8.cell? ⟨w.heap.size, 1, none⟩ = some (.int .i64 q) := (hbw8.cell (p := ⟨w.heap.size, 1, none⟩) (by dsimp only; omega)).trans s1
    have hbww : Below w.heap.size w w8 := HB.out.2.trans (hbw8.mono (by omega))
    have hb9 : Below w8.heap.size w8 w9 := by
      rw [hw9]
      exact (((Below.refl _ w8).alloc (Nat.le_refl _) _).alloc (by simp) _).alloc (by simp; omega) _
    have hs9 : w9.heap.size = w8.heap.size + 3 := by rw [hw9]; simp
    have h28 : Blk w9 w8.heap.size 28 #[.slice none 0 0] := by rw [hw9]; exact ((Blk.new w8 28 _).alloc _).alloc _
    have hB0 : Blk w9 (w8.heap.size + 1) 25 #[.slice (some ⟨g8, 0, none⟩) (m1 + 4) c8] := by
      have h := Blk.new (w8.alloc (.cells #[.slice none 0 0] 28)) 25 #[.slice (some ⟨g8, 0, none⟩) (m1 + 4) c8]
      simp only [World.size_alloc] at h
      rw [hw9]
      exact h.alloc _
    have hB1 : Blk w9 (w8.heap.size + 1 + 1) 3 #[.int .i64 4] := by
      have h := Blk.new ((w8.alloc (.cells #[.slice none 0 0] 28)).alloc (.cells #[.slice (some ⟨g8, 0, none⟩) (m1 + 4) c8] 25)) 3 #[.int .i64 4]
      simp only [World.size_alloc] at h
      rw [hw9]
      exact h
    have hsz0 : (w8.alloc (.cells #[.slice none 0 0] 28)).heap.size = w8.heap.size + 1 := by simp
    rw [hsz0]
    clear hw9 hsz0
    have HST := Lib.hid (chunk1_stops 2 (by omega) (w8.heap.size + 1) (m1 + 4) c8 g8 0 (some ⟨g8, 0, none⟩) (fun _ => rfl) (by omega) hc8 w9 hB0 hB1)
    have hEI : EnI w8.heap.size q (strmR k p) w8 (nCh (m1 + 4)) [] w9 := ⟨⟨_, h28, World.ownsRow_nil _ _ 47 8⟩, hb9, by omega⟩
    have HEI := Lib.hid hEI
    have HR8 := Lib.hid (And.intro hrow8 (And.intro hqc8 (And.intro hbww (And.intro hlst hlt8))))
    have hws9 : w.heap.size + 1 ≤ w8.heap.size := by omega
    clear h28 hB0 hB1 hb9 hEI hrow8 hqc8 hbww hbw8 hg8 hst hv8 hbk8 hcs8 htk8 ho8
    go_wp2_with fail
    refine (wpIn_wide (n := 3)).1 ?_
    refine wpIn_rangeFunc_ownF (w0 := w9) rfl (by omega) (gf := 35) (lb := #[.pointer (some ⟨w8.heap.size + 1, 0, none⟩), .pointer (some ⟨w8.heap.size + 1 + 1, 0, none⟩)]) rfl trivial enters35 HST.out BK.trans (BK.b (by omega)) (Below.refl _ _) (fun _ => rfl)
      (EnI w8.heap.size q (strmR k p) w8 (nCh (m1 + 4))) (fun _ _ _ => False) (EnI.own _ (by omega)) (fun _ _ _ _ _ hs _ _ => hs) HEI.out ?act ?assign ?body ?done ?stop
    case assign =>
      intro l x W K hK
      gi_wp2
      exact hK
    case stop =>
      rintro D c pre W _ _ h _
      exact h.elim
    case done =>
      rintro D ys W9 hD hS hI hK
      obtain ⟨v, h1, h2⟩ := hI.row
      have e1 : W9.cell? ⟨w8.heap.size, 0, none⟩ = some v := h1.cell 0
      have hg := grownBy_putObj' W9 D (.deferred none)
      have h2' : (W9.putObj D (.deferred none)).ownsRow (w8.heap.size + 3) 47 8 v ys.length ((ys.map fun i => secR q (strmR k p) i.1).flatMap encS) := own_own (B := 0) h2 hg (fun r e => by cases e; exact ⟨Nat.zero_le _, _, hK, rfl⟩)
      have hys : (ys.map fun i => secR q (strmR k p) i.1) = encR k q p := by
        have h3 : (ys.map fun i => secR q (strmR k p) i.1) = (ys.map Subtype.val).map (secR q (strmR k p)) := by rw [List.map_map]; rfl
        have h4 : nCh (m1 + 4) = szN p.length := by rw [HP.out.1]; unfold nCh szN; have := HM1.out.1; omega
        rw [h3, hS, h4]
        rfl
      have hyl : ys.length = szN n := by
        have h3 := congrArg List.length hys
        rw [List.length_map, enc_len, HP.out.1] at h3
        exact h3
      rw [hys, hyl] at h2'
      obtain ⟨A', c', hv', hc1', hc2', hR'⟩ := own_slice h2'
      subst hv'
      have hF := Lib.hid (And.intro hI.bel (And.intro hc1' (And.intro hc2' hR')))
      clear h1 h2 h2' hI hg hR' hc1' hc2' hys hyl
      apply_assumption
      go_wp2_with fail
      refine ⟨by simp, .inl ⟨_, _, rfl, run_takeDeferred hK, ?_⟩⟩
      refine ⟨.tuple #[.slice A' (szN n) c', .int .i64 0], by simp [results, Try.results14], ⟨A', c', rfl, hF.out.2.2.2, hF.out.2.1, hF.out.2.2.1⟩, ?_⟩
      exact (HR8.out.2.2.1.trans (hF.out.1.mono (by omega))).trans (belowK_b (w := w) (Nat.le_refl _) W9 D _ _ (by omega) hK rfl rfl)
    case body =>
      rintro lf pre ⟨x, hx⟩ W hI hlen
      obtain ⟨v, hk, hown⟩ := hI.row
      have e1 : W.cell? ⟨w8.heap.size, 0, none⟩ = some v := hk.cell 0
      have z1 := hk.frozen 0
      have l1 := hk.lt
      have eq1 : W.cell? ⟨w.heap.size, 1, none⟩ = some (.int .i64 q) := (hI.bel.cell (p := ⟨w.heap.size, 1, none⟩) (by dsimp only; omega)).trans HR8.out.2.1
      gi_wp2
      have hkn : Blk (W.alloc (.cells #[.int .u8 0, .int .u8 0, .int .u8 0, .int .u8 0, .int .u8 0, .int .u8 0, .int .u8 0, .int .u8 0] 47)) W.heap.size 47 #[.int .u8 0, .int .u8 0, .int .u8 0, .int .u8 0, .int .u8 0, .int .u8 0, .int .u8 0, .int .u8 0] := Blk.new W 47 _
      have hbX : Below W.heap.size W (W.alloc (.cells #[.int .u8 0, .int .u8 0, .int .u8 0, .int .u8 0, .int .u8 0, .int .u8 0, .int .u8 0, .int .u8 0] 47)) := (Below.refl _ W).alloc (Nat.le_refl _) _
      have hsX2 : (W.alloc (.cells #[.int .u8 0, .int .u8 0, .int .u8 0, .int .u8 0, .int .u8 0, .int .u8 0, .int .u8 0, .int .u8 0] 47)).heap.size = W.heap.size + 1 := by simp
      have ew1 : (W.alloc (.cells #[.int .u8 0, .int .u8 0, .int .u8 0, .int .u8 0, .int .u8 0, .int .u8 0, .int .u8 0, .int .u8 0] 47)).drew.cell? ⟨w.heap.size, 1, none⟩ = some (.int .i64 q) := (hbX.cell (p := ⟨w.heap.size, 1, none⟩) (by dsimp only; omega)).trans eq1
      generalize (W.alloc (.cells #[.int .u8 0, .int .u8 0, .int .u8 0, .int .u8 0, .int .u8 0, .int .u8 0, .int .u8 0, .int .u8 0] 47)) = X at *
      have hkd := hkn.drew
      refine wpIn_region_round (by rfl) (by kernel_rfl) ?_
      refine wpAnyIn_take (i := 0) (oi := _) (v := ?_) rfl rfl (by kernel_rfl) (by kernel_rfl) (by kernel_rfl) (fun _ _ _ h => h) ⟨Or.inl ⟨by rfl, ?_⟩, ?_⟩ ?_
      rotate_left 1
      · (intro w9; go_simp <;> with_reducible rfl)
      · intro w9; rfl
      try simp only [List.getElem_toArray, List.getElem_cons_succ, List.getElem_cons_zero, Act.put, List.setIfInBounds_toArray, List.set_cons_zero, List.set_cons_succ]
      refine wpAnyIn_take (i := 1) (oi := _) (v := ?_) rfl rfl (by kernel_rfl) (by kernel_rfl) (by kernel_rfl) (fun _ _ _ h => h) ⟨Or.inl ⟨by rfl, ?_⟩, ?_⟩ ?_
      rotate_left 1
      · (intro w9; go_simp <;> with_reducible rfl)
      · intro w9; rfl
      try simp only [List.getElem_toArray, List.getElem_cons_succ, List.getElem_cons_zero, Act.put, List.setIfInBounds_toArray, List.set_cons_zero, List.set_cons_succ]
      refine wpAnyIn_ready (rs := [2]) (by kernel_rfl) (by simp) ?_
      refine AllReadyIn.cons (o := _) rfl (fun K hK => ?_) AllReadyIn.nil
      try simp only [List.getElem_toArray, List.getElem_cons_succ, List.getElem_cons_zero]
      rw [if_pos (show Region.wanted _ _ = true from rfl)]
      go_simp
      refine hK _ _ ?_
      clear hK K
      try simp only [List.getElem_toArray, List.getElem_cons_succ, List.getElem_cons_zero, Act.put, List.setIfInBounds_toArray, List.set_cons_zero, List.set_cons_succ]
      refine wpAnyIn_ready (rs := [3]) (by kernel_rfl) (by simp) ?_
      refine AllReadyIn.cons (o := _) rfl (fun K hK => ?_) AllReadyIn.nil
      try simp only [List.getElem_toArray, List.getElem_cons_succ, List.getElem_cons_zero]
      rw [if_pos (show Region.wanted _ _ = true from rfl)]
      go_simp
      have hxs : X.drew.heap.size = W.heap.size + 1 := hsX2
      refine ⟨trivial, (callsIn_wide.2 (little_any q 4 X.drew (by omega) (by omega))).mono ?_⟩
      rintro e W3 ⟨⟨lv, rfl, hown3⟩, hb3⟩
      obtain ⟨g3, c3, cur3, hv3, hg3, hk3, _, _, _, htk3⟩ := own_blk hown3 (by omega)
      subst hv3
      obtain ⟨A3, c3', hv3', _, _, hr3⟩ := own_slice hown3
      obtain ⟨rfl, rfl⟩ : A3 = some ⟨g3, 0, none⟩ ∧ c3' = c3 := by injection hv3' with h1 _ h2; exact ⟨h1.symm, h2.symm⟩
      have hkb3 := hkd.below hb3 (by omega)
      have hbW3 : Below W.heap.size W W3 := hbX.drew.trans (hb3.mono (by omega))
      refine hK _ _ ?_
      clear hK K
      try simp only [List.getElem_toArray, List.getElem_cons_succ, List.getElem_cons_zero, Act.put, List.setIfInBounds_toArray, List.set_cons_zero, List.set_cons_succ]
      refine wpAnyIn_ready (rs := [4]) (by kernel_rfl) (by simp) ?_
      refine AllReadyIn.cons (o := _) rfl (fun K hK => ?_) AllReadyIn.nil
      try simp only [List.getElem_toArray, List.getElem_cons_succ, List.getElem_cons_zero]
      rw [if_pos (show Region.wanted _ _ = true from rfl)]
      have hsrc3 : ∀ j u, (u8s (le q 4))[j]? = some u → W3.cell? ((⟨g3, 0, none⟩ : Addr).add j) = some u := by
        obtain ⟨ad, e1, _, e3⟩ := hr3.2 (by omega)
        injection e1 with e1
        subst e1
        exact e3
      refine wpIn_copy_row W3 (.tmp 52) (.tmp 55) _ _ (by rfl) 5 Try.underlying25 info5s W.heap.size 0 8 8 ⟨g3, 0, none⟩ 4 c3' (by rfl) (by rfl) _ 47 hkb3 (u8s (le q 4)) (by rfl) hsrc3 (by rw [u8s_len, le_len]; decide) (u8s_one _) ?_
      refine hK _ _ ?_
      clear hK K
      have hc1 : Blk (W3.setRow W.heap.size ((#[.int .u8 0, .int .u8 0, .int .u8 0, .int .u8 0, .int .u8 0, .int .u8 0, .int .u8 0, .int .u8 0] : Array Value).toList.take 0 ++ u8s (le q 4) ++ (#[.int .u8 0, .int .u8 0, .int .u8 0, .int .u8 0, .int .u8 0, .int .u8 0, .int .u8 0, .int .u8 0] : Array Value).toList.drop (0 + (u8s (le q 4)).length)).toArray) W.heap.size 47 #[.int .u8 ((q % 256 : Nat) : Int), .int .u8 ((q / 256 % 256 : Nat) : Int), .int .u8 ((q / 256 / 256 % 256 : Nat) : Int), .int .u8 ((q / 256 / 256 / 256 % 256 : Nat) : Int), .int .u8 0, .int .u8 0, .int .u8 0, .int .u8 0] := hkb3.setRow _
      have hbW4 := below_setRow hbW3 (Nat.le_refl _) ((#[.int .u8 0, .int .u8 0, .int .u8 0, .int .u8 0, .int .u8 0, .int .u8 0, .int .u8 0, .int .u8 0] : Array Value).toList.take 0 ++ u8s (le q 4) ++ (#[.int .u8 0, .int .u8 0, .int .u8 0, .int .u8 0, .int .u8 0, .int .u8 0, .int .u8 0, .int .u8 0] : Array Value).toList.drop (0 + (u8s (le q 4)).length)).toArray
      generalize (W3.setRow W.heap.size ((#[.int .u8 0, .int .u8 0, .int .u8 0, .int .u8 0, .int .u8 0, .int .u8 0, .int .u8 0, .int .u8 0] : Array Value).toList.take 0 ++ u8s (le q 4) ++ (#[.int .u8 0, .int .u8 0, .int .u8 0, .int .u8 0, .int .u8 0, .int .u8 0, .int .u8 0, .int .u8 0] : Array Value).toList.drop (0 + (u8s (le q 4)).length)).toArray) = W4 at *
      try simp only [List.getElem_toArray, List.getElem_cons_succ, List.getElem_cons_zero, Act.put, List.setIfInBounds_toArray, List.set_cons_zero, List.set_cons_succ]
      refine wpAnyIn_done (by kernel_rfl) ?_ _
      apply_assumption
      have hrW4 : Row W4 g8 (strmR k p) := fun j hj => ((hI.bel.trans (hbW4.mono (by omega))).cell (p := ⟨g8, j, none⟩) HR8.out.2.2.2.2).trans (HR8.out.1 j hj)
      have hxl : 4 * x < (strmR k p).length := by rw [HR8.out.2.2.2.1]; unfold nCh at hx; omega
      have hlx : lCh (m1 + 4) x ≤ 4 ∧ 4 * x + lCh (m1 + 4) x ≤ (strmR k p).length := by rw [HR8.out.2.2.2.1] at hxl ⊢; unfold lCh; split <;> omega
      have hcsl : (u8s (((strmR k p).drop (4 * x)).take (lCh (strmR k p).length x))).length = Nat.min (lCh (m1 + 4) x) 4 := by
        rw [u8s_len, List.length_take, List.length_drop, HR8.out.2.2.2.1]
        have h9 := hlx.2
        rw [HR8.out.2.2.2.1] at h9
        show min _ _ = min _ _
        omega
      have hsrc4 : ∀ j u, (u8s (((strmR k p).drop (4 * x)).take (lCh (strmR k p).length x)))[j]? = some u → W4.cell? ((⟨g8, 4 * x, none⟩ : Addr).add j) = some u := by
        intro j u hu
        have hR9 := hrW4.reads (4 * x) (lCh (strmR k p).length x) (by rw [HR8.out.2.2.2.1]; rw [HR8.out.2.2.2.1] at hlx; exact hlx.2) (some ⟨g8, 4 * x, none⟩) (fun _ => rfl)
        have hpos : 0 < lCh (strmR k p).length x := by
          rcases Nat.eq_zero_or_pos (lCh (strmR k p).length x) with h | h
          · rw [h] at hu; simp [u8s] at hu
          · exact h
        obtain ⟨ad, e1, _, e3⟩ := hR9.2 hpos
        injection e1 with e1
        subst e1
        exact e3 j u hu
      have hfit4 : 4 + (u8s (((strmR k p).drop (4 * x)).take (lCh (strmR k p).length x))).length ≤ 8 := by rw [hcsl]; show 4 + min _ _ ≤ 8; omega
      have HCR := Lib.hid (chunk_row q (strmR k p) x)
      obtain ⟨W5, hW5, hcopy⟩ : ∃ W5, W4.setRow W.heap.size (encS (secR q (strmR k p) x)).toArray = W5 ∧ ∀ ty, (Builtin.copy_ #[25, 25] ty #[.slice (some ⟨W.heap.size, 4, none⟩) 4 4, .slice (some ⟨g8, 4 * x, none⟩) (lCh (m1 + 4) x) (lCh (m1 + 4) x)]).run Try.prog W4 = .ok (goInt (u8s (((strmR k p).drop (4 * x)).take (lCh (strmR k p).length x))).length) W5 := by
        refine ⟨_, rfl, fun ty => ?_⟩
        have h := run_copy_row (P := Try.prog) W4 25 25 ty 5 W.heap.size 4 4 4 ⟨g8, 4 * x, none⟩ (lCh (m1 + 4) x) (lCh (m1 + 4) x) _ 47 _ Try.underlying25 info5s hc1 hcsl hsrc4 hfit4 (u8s_one _)
        rw [chunk_row] at h
        exact h
      have hb5 : Blk W5 W.heap.size 47 (encS (secR q (strmR k p) x)).toArray := by rw [← hW5]; exact hc1.setRow _
      have hbl5 : Below W.heap.size W W5 := by rw [← hW5]; exact below_setRow hbW4 (Nat.le_refl _) _
      have hl4 : (u8s (((strmR k p).drop (4 * x)).take (lCh (strmR k p).length x))).length ≤ 4 := by rw [hcsl]; show min _ _ ≤ 4; omega
      clear hW5 hcsl hsrc4 hfit4 hc1 hbW4 hrW4 hlx hsrc3 hr3 hk3 htk3 hown3 hkb3 hbW3 hkd hkn hbX ew1
      generalize (u8s (((strmR k p).drop (4 * x)).take (lCh (strmR k p).length x))).length = cn at *
      have HV := Lib.hid (And.intro hk (And.intro hown (And.intro hI.bel hI.size)))
      clear hk hown hI e1 z1
      obtain ⟨i7, hi7, hy0, hy1, hy2⟩ := info_parts info47b
      have HI7 := Lib.hid (And.intro hi7 (And.intro hy0 (And.intro hy1 hy2)))
      clear hi7 hy0 hy1 hy2
      have d0 : W5.cell? ⟨w8.heap.size, 0, none⟩ = some v := (hbl5.cell (p := ⟨w8.heap.size, 0, none⟩) (by dsimp only; omega)).trans (HV.out.1.cell 0)
      have hpl : pre.length ≤ 5000 := by have h9 : pre.length < (m1 + 4 + 3) / 4 := hlen; omega
      have HROW : Hid (((pre ++ [(⟨x, hx⟩ : {i : Nat // i < nCh (m1 + 4)})]).map fun i => secR q (strmR k p) i.1).flatMap encS = (pre.map fun i => secR q (strmR k p) i.1).flatMap encS ++ encS (secR q (strmR k p) x)) := by show _ = _; simp
      generalize secR q (strmR k p) x = sc at *
      obtain ⟨f0, f1, f2, f3, f4, f5, f6, f7⟩ : W5.cell? ⟨W.heap.size, 0, none⟩ = some (.int .u8 (sc.a : Int)) ∧ W5.cell? ⟨W.heap.size, 1, none⟩ = some (.int .u8 (sc.b : Int)) ∧ W5.cell? ⟨W.heap.size, 2, none⟩ = some (.int .u8 (sc.c : Int)) ∧ W5.cell? ⟨W.heap.size, 3, none⟩ = some (.int .u8 (sc.d : Int)) ∧ W5.cell? ⟨W.heap.size, 4, none⟩ = some (.int .u8 (sc.e : Int)) ∧ W5.cell? ⟨W.heap.size, 5, none⟩ = some (.int .u8 (sc.f : Int)) ∧ W5.cell? ⟨W.heap.size, 6, none⟩ = some (.int .u8 (sc.g : Int)) ∧ W5.cell? ⟨W.heap.size, 7, none⟩ = some (.int .u8 (sc.h : Int)) := ⟨hb5.cell 0, hb5.cell 1, hb5.cell 2, hb5.cell 3, hb5.cell 4, hb5.cell 5, hb5.cell 6, hb5.cell 7⟩
      have HB5 := Lib.hid (And.intro hb5 hbl5)
      have hs5 := hbl5.size
      have hs6 := HV.out.2.2.2
      clear hb5 hbl5
      gi_wp2_with (gi_at_builtin; go_must (refine wpListIn_append_own _ rfl (.tmp 60) (.tmp 62) _ rfl (w8.heap.size + 3) 47 i7 _ 8 8 Try.underlying28 HI7.out.1 HI7.out.2.1 HI7.out.2.2.1 HI7.out.2.2.2 rfl (by omega) v pre.length _ rfl (own_alloc (own_below HV.out.2.1 HB5.out.2) _) ⟨W5.heap.size, 0, none⟩ 1 1 (encS sc) rfl rfl (fun j u hu => by rw [add_plain]; exact ((Blk.new W5 47 (encS sc).toArray).cell (0 + j)).trans (by rw [Nat.zero_add]; simpa using hu)) (fun u hu => encS_one [sc] u (by simpa using hu)) (by simp only [maxLen]; omega) (by omega) (by rw [World.size_alloc]; omega) ?_; intro v6 W6 ho6 hg6 _; have hN0 := (((HV.out.1.below HB5.out.2 HV.out.1.lt).alloc (.cells (encS sc).toArray 47)).grown hg6 (fun e => by have h7 := own_block_ge HV.out.2.1 _ e.symm; omega)); have d6 : W6.cell? ⟨w8.heap.size, 0, none⟩ = some v := hN0.cell 0; have z6 := hN0.frozen 0; have l6 := hN0.lt; obtain ⟨A6, c6, hv6, _, _, _⟩ := own_slice ho6; subst hv6; have H6 := Lib.hid (And.intro ho6 (And.intro hg6 hN0)); clear ho6 hg6 hN0))
      obtain ⟨ho6, hg6, hk6⟩ := H6.out
      have hs7 := hg6.size
      rw [World.size_alloc] at hs7
      have hkeep : ∀ j, j < W.heap.size → j ≠ w8.heap.size → some j ≠ v.ownBlock → (W6.setCell ⟨w8.heap.size, 0, none⟩ (.slice A6 (pre.length + 1) c6)).heap[j]? = W.heap[j]? := fun j h1 h2 h3 =>
        (Below.heap_setCell W6 ⟨w8.heap.size, 0, none⟩ _ j h2).trans ((hg6.block j (by rw [World.size_alloc]; omega) h3).trans ((Below.heap_alloc _ _ _ (by omega)).trans (HB5.out.2.block j h1)))
      have hown9 := HV.out.2.1
      have hlow : ∀ j, j < w8.heap.size + 3 → some j ≠ v.ownBlock := fun j hj e => by have := own_block_ge hown9 j e.symm; omega
      refine ⟨⟨by rw [World.size_setCell]; omega, fun j o hj ho => ?_⟩, ⟨by rw [World.size_setCell]; omega, ?_, ?_⟩, ⟨_, hk6.set_ 0 _, ?_⟩, ?_, by rw [World.size_setCell]; omega⟩
      · have hjl := (Array.getElem?_eq_some_iff.1 hj).1
        refine (hkeep j hjl (fun e => ?_) (fun e => ?_)).trans hj
        · subst e
          rw [blk_obj HV.out.1 hj] at ho
          cases ho
        · obtain ⟨cs, hcs⟩ := own_cells hown9 e.symm
          rw [blk_obj hcs hj] at ho
          cases ho
      · exact hkeep _ (by omega) (by omega) (hlow _ (by omega))
      · exact hkeep _ (by omega) (by omega) (hlow _ (by omega))
      · rw [HROW.out, List.length_append, List.length_singleton]
        exact own_far ho6 (fun e => by have := own_block_ge ho6 _ e; dsimp only at this; omega) _
      · refine Below.setCell (((HV.out.2.2.1.trans (HB5.out.2.mono (by omega))).alloc (by omega) _).grown hg6 (by rw [World.size_alloc]; omega) (fun g e => ?_)) (Nat.le_refl _) _
        have := own_block_ge hown9 g e
        omega
