/- The walk of Diverged at two primaries of two epochs. Conditions: both in order. -/
import Derived.Test.YthkajcioeemilaaWq
import Derived.Test.YthkajcioeemilaaWp
import Derived.Test.YthkajcioeemilaaLibSd
namespace Go.Proofs.Ythkajcioeemilaa
open Go.RowKit Go.Shelf
attribute [local go_sem] Oper.semAt_some
theorem blk_own {W W' : World} {g B : Nat} {t : TypeId} {cs : Array Value} {row : Option Nat} (h : Blk W g t cs) (hg : W.grownBy W' row) (hr : ∀ r, row = some r → B ≤ r ∧ ∃ o : Obj, W.heap[r]? = some o ∧ o.isCells = false) : Blk W' g t cs := by
  refine h.grown hg (fun e => ?_)
  obtain ⟨_, o, ho, hc⟩ := hr g e.symm
  unfold Blk at h
  rw [h] at ho
  injection ho with ho
  subst ho
  cases hc
/-- the value of Diverged -/
def DivV (b : Bool) (W : World) (V : Value) : Prop := (b = false ∧ V = .slice none 0 0) ∨ (b = true ∧ ∃ p q c, V = .slice (some ⟨p, 0, none⟩) 1 c ∧ PairR W p q 2)
def DivRet (b : Bool) (w : World) (e : Ending) (w' : World) : Prop := (∃ V, e = .returned (.tuple #[V, .int .i64 0]) ∧ DivV b w' V) ∧ Below w.heap.size w w'
/-- what a round of Diverged finds -/
structure DvI (w : World) (A : Option Addr) (c B1 : Nat) (b : Bool) (pre : List Unit) (W : World) : Prop where
  bel : Below w.heap.size w W
  size : B1 + 2 ≤ W.heap.size
  box : Blk W w.heap.size 23 #[.slice A 2 c]
  row : ∃ V, Blk W B1 26 #[V] ∧ ((V = .slice none 0 0 ∧ (pre = [] ∨ b = false)) ∨ (b = true ∧ pre ≠ [] ∧ ∃ p q c cs, V = .slice (some ⟨p, 0, none⟩) 1 c ∧ Blk W p 46 cs ∧ cs[0]? = some (.slice (some ⟨q, 0, none⟩) 2 2) ∧ Blk W q 3 #[.int .i64 0, .int .i64 1]))
theorem DvI.own {w : World} {A : Option Addr} {c B1 : Nat} {b : Bool} (B : Nat) (hB : w.heap.size ≤ B) : OwnFrom B (DvI w A c B1 b) := by
  intro pre W W' row h hg hr
  obtain ⟨V, h1, h2⟩ := h.row
  refine ⟨h.bel.grown hg h.bel.size (fun r e => by have := (hr r e).1; omega), Nat.le_trans h.size hg.size, blk_own h.box hg hr, V, blk_own h1 hg hr, ?_⟩
  rcases h2 with h2 | ⟨h2, h3, p, q, c, cs, h4, h5, h6, h7⟩
  · exact .inl h2
  · exact .inr ⟨h2, h3, p, q, c, cs, h4, blk_own h5 hg hr, h6, blk_own h7 hg hr⟩
theorem others_below {W W' : World} {B : Nat} (h : Below B W W') (hB : W.heap.size ≤ B) : KeepsOthers W W' := ⟨h.size, fun k _ hk _ => (h.block k (Nat.lt_of_lt_of_le (Array.getElem?_eq_some_iff.1 hk).1 hB)).trans hk⟩
theorem info46 : (Try.prog.info? 46).map (fun i => (i.zero, i.size, i.bytes)) = some (some (.slice none 0 0), 1, 24) := by kernel_rfl
theorem elem_cells {w : World} {g : Nat} (us : Array Value) (e : TypeId) (h : g = w.heap.size) : ∀ j u, us.toList[j]? = some u → (w.alloc (.cells us e)).cell? ((⟨g, 0, none⟩ : Addr).add j) = some u := by
  subst h
  obtain ⟨ad, h, _, hc⟩ := (elem_reads w us e).2 (by omega)
  injection h with h
  subst h
  exact hc
set_option linter.unusedSimpArgs false in
set_option maxRecDepth 100000 in
set_option maxHeartbeats 4000000 in
theorem Diverged_in (w : World) (A : Option Addr) (c : Nat) (x y : Sv) (b : Bool) (hb : b = forkB x.s.l y.s.l) (hR : Reads w w.heap.size 8 A 2 ([x, y].flatMap encSv)) (hx : SiR w x.A x.s ∧ SiOk x.s) (hy : SiR w y.A y.s ∧ SiOk y.s) (h1 : x.s.role = 1) (h2 : y.s.role = 1) (hne : x.s.ep ≠ y.s.ep) :
    CallsIn Fence.wide 4 Try.prog 5 #[.slice A 2 c] w (DivRet b w) := by
  have HX := Lib.hid (And.intro hR (And.intro hx (And.intro hy (And.intro h1 (And.intro h2 (And.intro hne hb))))))
  clear hR hx hy h1 h2 hne hb
  obtain ⟨i0, hi0, hz0, hz1, hz2⟩ := info_parts info46
  have HI := Lib.hid (And.intro hi0 (And.intro hz0 (And.intro hz1 hz2)))
  clear hi0 hz0 hz1 hz2
  refine callsIn_of_wp_marks Try.func5 rfl trivial ?_ rfl
  simp only [Try.ntmps5, List.size_toArray, List.length_cons, List.length_nil, Nat.reduceAdd, Nat.reduceSub, Array.replicate_succ, Array.replicate_zero, List.push_toArray, List.append_toArray, List.nil_append, List.cons_append]
  refine wpIn_wide.2 ?_
  have hk0 := Blk.new w 23 #[.slice A 2 c]
  have hb0 : Below w.heap.size w (w.alloc (.cells #[.slice A 2 c] 23)) := (Below.refl _ w).alloc (Nat.le_refl _) _
  have HK0 := Lib.hid (And.intro hk0 hb0)
  clear hk0 hb0
  go_wp2_with fail
  refine (check_ok (w.alloc (.cells #[.slice A 2 c] 23)) A c [x, y] (HX.out.1.up HK0.out.2) (by simp) (fun v hv => by
    rcases List.mem_cons.1 hv with rfl | hv
    · exact ⟨HX.out.2.1.1.up HK0.out.2, HX.out.2.1.2⟩
    · rcases List.mem_cons.1 hv with rfl | hv
      · exact ⟨HX.out.2.2.1.1.up HK0.out.2, HX.out.2.2.1.2⟩
      · cases hv)).mono ?_
  rintro z w1 ⟨rfl, hb1⟩
  have hB1 : Below w.heap.size w w1 := HK0.out.2.trans (hb1.mono (by simp))
  have hk1 : Blk w1 w.heap.size 23 #[.slice A 2 c] := HK0.out.1.below hb1 (by simp)
  have e1 : w1.cell? ⟨w.heap.size, 0, none⟩ = some (.slice A 2 c) := hk1.cell 0
  have hk2 := (Blk.new w1 26 #[.slice none 0 0])
  have hz := hk1.lt
  have e2 : (w1.alloc (.cells #[.slice none 0 0] 26)).cell? ⟨w.heap.size, 0, none⟩ = some (.slice A 2 c) := (hk1.alloc _).cell 0
  have HK1 := Lib.hid (And.intro hB1 (And.intro hk1 hk2))
  clear hB1 hk1 hk2 hb1
  go_wp2_with fail
  refine (pairs_ok 2 _).mono ?_
  rintro e w2 ⟨rfl, hw2⟩
  rw [World.size_alloc]
  have hk3 : Blk w2 (w1.heap.size + 1) 3 #[.int .i64 2] := by
    have h := Blk.new (w1.alloc (.cells #[.slice none 0 0] 26)) 3 #[.int .i64 2]
    rw [World.size_alloc] at h
    rw [hw2]
    exact h
  have hk4 : Blk w2 w1.heap.size 26 #[.slice none 0 0] := by rw [hw2]; exact HK1.out.2.2.alloc _
  have hk5 : Blk w2 w.heap.size 23 #[.slice A 2 c] := by rw [hw2]; exact (HK1.out.2.1.alloc _).alloc _
  have hb2 : Below w.heap.size w w2 := by rw [hw2]; exact (HK1.out.1.alloc (by omega) _).alloc (by simp; omega) _
  have hs2 : w2.heap.size = w1.heap.size + 2 := by rw [hw2]; simp
  clear hw2 e1 e2
  have hI : DvI w A c w1.heap.size b [] w2 := ⟨hb2, by omega, hk5, _, hk4, .inl ⟨rfl, .inl rfl⟩⟩
  have HS := Lib.hid (pair_stops 3 (by omega) (w1.heap.size + 1) w2 hk3)
  have HII := Lib.hid hI
  clear hk3 hk4 hk5 hb2 hI
  go_wp2_with fail
  refine (wpIn_wide (n := 4)).1 ?_
  refine wpIn_rangeFunc_ownF (w0 := w2) rfl (by omega) (gf := 26) (lb := #[.pointer (some ⟨w1.heap.size + 1, 0, none⟩)]) rfl trivial enters26 HS.out BK.trans (BK.b (by omega)) (Below.refl _ _) (fun _ => rfl)
    (DvI w A c w1.heap.size b) (fun _ _ _ => False) (DvI.own _ (by omega)) (fun _ _ _ _ _ hs _ _ => hs) HII.out ?act ?assign ?body ?done ?stop
  case assign =>
    intro l x W K hK
    gi_wp2
    exact hK
  case stop =>
    rintro D c pre W _ _ h _
    exact h.elim
  case done =>
    rintro D ys W hD rfl hI hK
    obtain ⟨V, hV, hcase⟩ := hI.row
    have ev : W.cell? ⟨w1.heap.size, 0, none⟩ = some V := hV.cell 0
    have hg := grownBy_putObj' W D (.deferred none)
    have hr : ∀ r, some D = some r → 0 ≤ r ∧ ∃ o : Obj, W.heap[r]? = some o ∧ o.isCells = false := fun r e => by cases e; exact ⟨Nat.zero_le _, _, hK, rfl⟩
    have hDV : DivV b (W.putObj D (.deferred none)) V := by
      rcases hcase with ⟨h, h' | h'⟩ | ⟨h2, _, p, q, c9, cs, h4, h5, h6, h7⟩
      · cases h'
      · exact .inl ⟨h', h⟩
      · have h5' := blk_own h5 hg hr
        have h7' := blk_own h7 hg hr
        refine .inr ⟨h2, p, q, c9, h4, h5'.lt, h7'.lt, (h5'.cell 0).trans h6, h7'.cell 0, h7'.cell 1⟩
    have hF := Lib.hid (And.intro hDV (hI.bel.trans (belowK_b (w := w) (Nat.le_refl _) W D _ (.deferred none) (by omega) hK rfl rfl)))
    clear hV hcase hg hr hDV hI
    gi_wp2
    go_wp2
    refine ⟨by simp, .inl ⟨_, _, rfl, run_takeDeferred hK, ?_⟩⟩
    exact ⟨.tuple #[V, .int .i64 0], by simp [results, Try.results5, go_sem], ⟨_, rfl, hF.out.1⟩, hF.out.2⟩
  case body =>
    rintro lf pre u W hI hlen
    obtain rfl : pre = [] := List.eq_nil_of_length_eq_zero (by omega)
    obtain ⟨V, hV, hcase⟩ := hI.row
    obtain rfl : V = .slice none 0 0 := by
      rcases hcase with ⟨h, _⟩ | ⟨_, h, _⟩
      · exact h
      · exact absurd rfl h
    have ev : W.cell? ⟨w1.heap.size, 0, none⟩ = some (.slice none 0 0) := hV.cell 0
    have eb : W.drew.cell? ⟨w.heap.size, 0, none⟩ = some (.slice A 2 c) := hI.box.cell 0
    obtain ⟨bb, off, rfl, hbb, hcc⟩ := (HX.out.1.up hI.bel).elems (E := encSv) (fun _ => rfl) (by decide) (by decide)
    have d0 : W.drew.cell? ⟨bb, off, none⟩ = some (.int .i64 x.s.num) := hcc 0 (by simp) 0 _ rfl
    have d1 : W.drew.cell? ⟨bb, off + 1, none⟩ = some (.int .i64 x.s.role) := hcc 0 (by simp) 1 _ rfl
    have d2 : W.drew.cell? ⟨bb, off + 2, none⟩ = some (.int .i64 x.s.ep) := hcc 0 (by simp) 2 _ rfl
    have d3 : W.drew.cell? ⟨bb, off + 3, none⟩ = some (.int .i64 x.s.ap) := hcc 0 (by simp) 3 _ rfl
    have d4 : W.drew.cell? ⟨bb, off + 4, none⟩ = some (.slice x.A x.s.l.length x.c) := hcc 0 (by simp) 4 _ rfl
    have d5 : W.drew.cell? ⟨bb, off + 5, none⟩ = some (.int .i64 x.s.src) := hcc 0 (by simp) 5 _ rfl
    have d6 : W.drew.cell? ⟨bb, off + 6, none⟩ = some (.bool x.s.al) := hcc 0 (by simp) 6 _ rfl
    have d7 : W.drew.cell? ⟨bb, off + 7, none⟩ = some (.bool x.s.co) := hcc 0 (by simp) 7 _ rfl
    have f0 : W.drew.cell? ⟨bb, off + 8, none⟩ = some (.int .i64 y.s.num) := hcc 1 (by simp) 0 _ rfl
    have f1 : W.drew.cell? ⟨bb, off + 8 + 1, none⟩ = some (.int .i64 y.s.role) := hcc 1 (by simp) 1 _ rfl
    have f2 : W.drew.cell? ⟨bb, off + 8 + 2, none⟩ = some (.int .i64 y.s.ep) := hcc 1 (by simp) 2 _ rfl
    have f3 : W.drew.cell? ⟨bb, off + 8 + 3, none⟩ = some (.int .i64 y.s.ap) := hcc 1 (by simp) 3 _ rfl
    have f4 : W.drew.cell? ⟨bb, off + 8 + 4, none⟩ = some (.slice y.A y.s.l.length y.c) := hcc 1 (by simp) 4 _ rfl
    have f5 : W.drew.cell? ⟨bb, off + 8 + 5, none⟩ = some (.int .i64 y.s.src) := hcc 1 (by simp) 5 _ rfl
    have f6 : W.drew.cell? ⟨bb, off + 8 + 6, none⟩ = some (.bool y.s.al) := hcc 1 (by simp) 6 _ rfl
    have f7 : W.drew.cell? ⟨bb, off + 8 + 7, none⟩ = some (.bool y.s.co) := hcc 1 (by simp) 7 _ rfl
    clear hcc hcase
    have HQ := Lib.hid (And.intro hI hV)
    clear hI hV
    gi_wp2
    refine wpIn_region_lastD (by kernel_rfl) (by kernel_rfl) (by kernel_rfl) (by kernel_rfl) (by kernel_rfl) (by kernel_rfl) (by kernel_rfl) (fun _ _ _ _ _ h => h) ?_
    repeat (apply lexT_step (by rfl) (by rfl); (go_simp; with_reducible rfl); (try simp only [Act.put, List.setIfInBounds_toArray, List.set_cons_zero, List.set_cons_succ]))
    refine ⟨fun f hf => trivial, ?_⟩
    go_simp
    have hcall := (callsIn_wide (n := 1)).2 (diverged_ok x.s y.s x.A y.A x.c y.c W.drew ((HX.out.2.1.1.up HQ.out.1.bel).up (Below.refl _ _).drew) ((HX.out.2.2.1.1.up HQ.out.1.bel).up (Below.refl _ _).drew) HX.out.2.1.2 HX.out.2.2.1.2 HX.out.2.2.2.1 HX.out.2.2.2.2.1 HX.out.2.2.2.2.2.1)
    unfold siV at hcall
    have hcall2 : CallsIn (Fence.wide.inRound lf) 1 Try.prog 14 _ _ _ := hcall
    have HC := Lib.hid hcall2
    clear hcall hcall2
    refine CallsIn.mono HC.out ?_
    rintro e W3 ⟨rfl, hb3⟩
    rw [← HX.out.2.2.2.2.2.2]
    dsimp only
    have hzW := HQ.out.1.size
    have hbW3 : Below W.heap.size W W3 := (Below.refl _ W).drew.trans hb3
    have hV3 : Blk W3 w1.heap.size 26 #[.slice none 0 0] := HQ.out.2.below hbW3 HQ.out.2.lt
    have ev3 : W3.cell? ⟨w1.heap.size, 0, none⟩ = some (.slice none 0 0) := hV3.cell 0
    have fv3 := hV3.frozen 0
    have lv3 := hV3.lt
    have HW3 := Lib.hid (And.intro hbW3 hV3)
    clear hb3 hbW3 hV3 d0 d1 d2 d3 d4 d5 d6 d7 f0 f1 f2 f3 f4 f5 f6 f7 eb ev
    cases b with
    | false =>
      gi_wp2
      refine ⟨others_below HW3.out.1 (Nat.le_refl _), BK.of_below HW3.out.1 (by omega), ?_⟩
      exact ⟨HQ.out.1.bel.trans (HW3.out.1.mono (by omega)), by have := HW3.out.1.size; omega, HQ.out.1.box.below HW3.out.1 HQ.out.1.box.lt, _, HW3.out.2, .inl ⟨rfl, .inr rfl⟩⟩
    | true =>
      have hz3 := HW3.out.1.size
      have HA := Lib.hid (And.intro ((Below.refl _ W3).alloc (Nat.le_refl _) (.cells #[.int .i64 0, .int .i64 1] 3)) (And.intro (Blk.new W3 3 #[.int .i64 0, .int .i64 1]) (Blk.new (W3.alloc (.cells #[.int .i64 0, .int .i64 1] 3)) 46 #[.slice (some ⟨W3.heap.size, 0, none⟩) 2 2])))
      gi_wp2_with (gi_at_builtin; go_must (refine wpListIn_append_own _ rfl (.tmp 27) (.tmp 31) _ rfl (w1.heap.size + 2) 46 i0 _ 1 24 Try.underlying26 HI.out.1 HI.out.2.1 HI.out.2.2.1 HI.out.2.2.2 rfl (by omega) (.slice none 0 0) 0 [] rfl (World.ownsRow_nil _ _ 46 1) ⟨W3.heap.size + 1, 0, none⟩ 1 1 [.slice (some ⟨W3.heap.size, 0, none⟩) 2 2] rfl rfl (elem_cells #[.slice (some ⟨W3.heap.size, 0, none⟩) 2 2] 46 (World.size_alloc _ _).symm) (by simp [Value.oneCell']) (by unfold maxLen; omega) (by omega) (by simp only [World.size_alloc]; omega) ?_; intro u2 w9 hown2 hgr2 _; obtain ⟨g9, c9, cur9, rfl, hg9, hk9, h91, h92, h93, h94⟩ := own_blk hown2 (by omega); have hs9 := hgr2.size; simp only [World.size_alloc] at hs9; have hv9 := ((HW3.out.2.alloc (.cells #[.int .i64 0, .int .i64 1] 3)).alloc (.cells #[.slice (some ⟨W3.heap.size, 0, none⟩) 2 2] 46)).grown hgr2 (fun q => by cases q); have hp9 := (HA.out.2.1.alloc (.cells #[.slice (some ⟨W3.heap.size, 0, none⟩) 2 2] 46)).grown hgr2 (fun q => by cases q); have e9 := hv9.cell 0; have z9 := hv9.frozen 0; have l9 := hv9.lt; have H9 := Lib.hid (And.intro hgr2 (And.intro hk9 (And.intro hv9 (And.intro hp9 (And.intro hg9 h94))))); clear hgr2 hk9 hv9 hp9 hg9 h94 h91 h92 h93 hown2))
      have hgb : ∀ j, j < W3.heap.size → j ≠ w1.heap.size → (w9.setCell ⟨w1.heap.size, 0, none⟩ (.slice (some ⟨g9, 0, none⟩) 1 c9)).heap[j]? = W3.heap[j]? := fun j hj hne =>
        (Below.heap_setCell w9 ⟨w1.heap.size, 0, none⟩ _ j hne).trans ((H9.out.1.block j (by simp only [World.size_alloc]; omega) (fun q => by cases q)).trans ((Below.heap_alloc _ _ j (by simp only [World.size_alloc]; omega)).trans (Below.heap_alloc _ _ j (by omega))))
      have hgW : ∀ j, j < W.heap.size → j ≠ w1.heap.size → (w9.setCell ⟨w1.heap.size, 0, none⟩ (.slice (some ⟨g9, 0, none⟩) 1 c9)).heap[j]? = W.heap[j]? := fun j hj hne => (hgb j (by omega) hne).trans (HW3.out.1.block j hj)
      have hb9 : Below w.heap.size W (w9.setCell ⟨w1.heap.size, 0, none⟩ (.slice (some ⟨g9, 0, none⟩) 1 c9)) :=
        Below.setCell (((((HW3.out.1.mono (by omega)).alloc (by omega) _).alloc (by simp only [World.size_alloc]; omega) _).grown H9.out.1 (by simp only [World.size_alloc]; omega) (fun r q => by cases q))) (p := ⟨w1.heap.size, 0, none⟩) (by dsimp only; omega) _
      have hVb := HQ.out.2
      refine ⟨⟨by rw [World.size_setCell]; omega, fun k o hk ho => (hgW k (Array.getElem?_eq_some_iff.1 hk).1 (fun q => ?_)).trans hk⟩, ⟨by rw [World.size_setCell]; omega, hgW _ (by omega) (by omega)⟩, HQ.out.1.bel.trans hb9, by rw [World.size_setCell]; omega, (hgW _ HQ.out.1.box.lt (by omega)).trans HQ.out.1.box, _, H9.out.2.2.1.set_ 0 _, .inr ⟨rfl, by simp, g9, W3.heap.size, c9, cur9, rfl, ?_, ?_, ?_⟩⟩
      · subst q
        unfold Blk at hVb
        rw [hVb] at hk
        injection hk with hk
        subst hk
        cases ho
      · exact H9.out.2.1.far (p := ⟨w1.heap.size, 0, none⟩) (by have := H9.out.2.2.2.2.1; dsimp only; omega) _
      · have h := H9.out.2.2.2.2.2
        simp only [Nat.zero_add, Nat.mul_one, List.nil_append] at h
        obtain ⟨l9⟩ := cur9
        cases l9 with
        | nil => simp at h
        | cons a l9 => simp at h; simp [h]
      · exact H9.out.2.2.2.1.far (p := ⟨w1.heap.size, 0, none⟩) (by dsimp only; omega) _
theorem Diverged_ok (w : World) (A : Option Addr) (c : Nat) (x y : Sv) (hR : Reads w w.heap.size 8 A 2 ([x, y].flatMap encSv)) (hx : SiR w x.A x.s ∧ SiOk x.s) (hy : SiR w y.A y.s ∧ SiOk y.s) (h1 : x.s.role = 1) (h2 : y.s.role = 1) (hne : x.s.ep ≠ y.s.ep) :
    Calls Try.prog 5 #[.slice A 2 c] w (DivRet (forkB x.s.l y.s.l) w) := callsIn_wide.1 (Diverged_in w A c x y _ rfl hR hx hy h1 h2 hne)
end Go.Proofs.Ythkajcioeemilaa
