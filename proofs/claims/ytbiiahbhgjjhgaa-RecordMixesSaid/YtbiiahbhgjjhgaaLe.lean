/- The walk of the law RecordMixes. No condition. -/
import Derived.Test.YtbiiahbhgjjhgaaLc
import Derived.Test.YtbiiahbhgjjhgaaWm
import Derived.Test.YtbiiahbhgjjhgaaLibP
import Derived.Test.YtbiiahbhgjjhgaaMathT
import Derived.Test.YtbiiahbhgjjhgaaArgsB
namespace Go.Proofs.Ytbiiahbhgjjhgaa
open Go.RowKit
theorem bools_map (l : List Bool) : bools l = l.map Value.bool := by
  unfold bools
  induction l with
  | nil => rfl
  | cons x l ih => rw [List.flatMap_cons, ih]; rfl
theorem bools_len (l : List Bool) : (bools l).length = l.length := by rw [bools_map, List.length_map]
theorem bools_at (l : List Bool) (i : Nat) (h : i < l.length) : (bools l)[i]? = some (.bool l[i]) := by
  rw [bools_map]
  simp [h]
theorem mixed_ok {a b m : List Sec} (h : Mixed a b m) (ha : ∀ s ∈ a, s.Ok) (hb : ∀ s ∈ b, s.Ok) : ∀ s ∈ m, s.Ok := by
  intro s hs
  obtain ⟨i, hi, rfl⟩ := List.getElem_of_mem hs
  have e : m[i]? = some m[i] := List.getElem?_eq_getElem hi
  rcases h i hi with h | h
  · exact ha _ (List.mem_iff_getElem?.2 ⟨i, by rw [← h, e]⟩)
  · exact hb _ (List.mem_iff_getElem?.2 ⟨i, by rw [← h, e]⟩)
structure FitI (X W : World) (o7 o8 : Option Nat) : Prop where
  bel : Below X.heap.size X W
  h7 : ∀ g, o7 = some g → X.heap.size ≤ g ∧ Blk W g 27 #[.int .i64 0, .int .i64 0, .slice none 0 0]
  h8 : ∀ g, o8 = some g → X.heap.size ≤ g ∧ Blk W g 27 #[.int .i64 0, .int .i64 0, .slice none 0 0]
  ne : ∀ g h, o7 = some g → o8 = some h → g ≠ h
theorem FitI.call {X W W' : World} {a b : Option Nat} (h : FitI X W a b) (hb : Below W.heap.size W W') : FitI X W' a b :=
  ⟨h.bel.trans (hb.mono h.bel.size), fun g e => ⟨(h.h7 g e).1, (h.h7 g e).2.below hb (h.h7 g e).2.lt⟩, fun g e => ⟨(h.h8 g e).1, (h.h8 g e).2.below hb (h.h8 g e).2.lt⟩, h.ne⟩
theorem FitI.al7 {X W : World} {b : Option Nat} (h : FitI X W none b) : FitI X (W.alloc (.cells #[.int .i64 0, .int .i64 0, .slice none 0 0] 27)) (some W.heap.size) b :=
  ⟨h.bel.alloc h.bel.size _, fun g e => by cases e; exact ⟨h.bel.size, Blk.new _ _ _⟩, fun g e => ⟨(h.h8 g e).1, (h.h8 g e).2.alloc _⟩, fun g k e e' => by cases e; have := (h.h8 k e').2.lt; omega⟩
theorem FitI.al8 {X W : World} {a : Option Nat} (h : FitI X W a none) : FitI X (W.alloc (.cells #[.int .i64 0, .int .i64 0, .slice none 0 0] 27)) a (some W.heap.size) :=
  ⟨h.bel.alloc h.bel.size _, fun g e => ⟨(h.h7 g e).1, (h.h7 g e).2.alloc _⟩, fun g e => by cases e; exact ⟨h.bel.size, Blk.new _ _ _⟩, fun g k e e' => by cases e'; have := (h.h7 g e).2.lt; omega⟩
/-- behind both stores -/
structure FitE (X : World) (u v : Array Value) (s7 s8 : Value) (W : World) : Prop where
  val : ∃ g h, s7 = .pointer (some ⟨g, 0, none⟩) ∧ s8 = .pointer (some ⟨h, 0, none⟩) ∧ X.heap.size ≤ g ∧ X.heap.size ≤ h ∧ g ≠ h ∧ Blk W g 27 u ∧ Blk W h 27 v
  bel : Below X.heap.size X W
theorem FitI.fin {X W : World} {a b : Option Nat} (I : FitI X W a b) (g h : Nat) (ea : a = some g) (eb : b = some h) (x y z x' y' z' : Value) :
    FitE X #[x, y, z] #[x', y', z'] (.pointer (some ⟨g, 0, none⟩)) (.pointer (some ⟨h, 0, none⟩)) ((((((W.setCell ⟨g, 0, none⟩ x).setCell ⟨g, 1, none⟩ y).setCell ⟨g, 2, none⟩ z).setCell ⟨h, 0, none⟩ x').setCell ⟨h, 1, none⟩ y').setCell ⟨h, 2, none⟩ z') := by
  obtain ⟨l7, b7⟩ := I.h7 g ea
  obtain ⟨l8, b8⟩ := I.h8 h eb
  have hn := I.ne g h ea eb
  refine ⟨⟨g, h, rfl, rfl, l7, l8, hn, ?_, ?_⟩, ?_⟩
  · exact ((((((b7.set_ 0 x).set_ 1 y).set_ 2 z).far (p := ⟨h, 0, none⟩) hn x').far (p := ⟨h, 1, none⟩) hn y').far (p := ⟨h, 2, none⟩) hn z')
  · exact ((((((b8.far (p := ⟨g, 0, none⟩) hn.symm x).far (p := ⟨g, 1, none⟩) hn.symm y).far (p := ⟨g, 2, none⟩) hn.symm z).set_ 0 x').set_ 1 y').set_ 2 z')
  · exact (((((I.bel.setCell (p := ⟨g, 0, none⟩) l7 x).setCell (p := ⟨g, 1, none⟩) l7 y).setCell (p := ⟨g, 2, none⟩) l7 z).setCell (p := ⟨h, 0, none⟩) l8 x').setCell (p := ⟨h, 1, none⟩) l8 y').setCell (p := ⟨h, 2, none⟩) l8 z'
theorem FitI.facts {X W : World} {a b : Option Nat} (I : FitI X W a b) (g h : Nat) (ea : a = some g) (eb : b = some h) : W.cell? ⟨g, 0, none⟩ = some (.int .i64 0) ∧ W.cell? ⟨g, 1, none⟩ = some (.int .i64 0) ∧ W.cell? ⟨g, 2, none⟩ = some (.slice none 0 0) ∧ W.frozen? ⟨g, 0, none⟩ = false ∧ W.frozen? ⟨g, 1, none⟩ = false ∧ W.frozen? ⟨g, 2, none⟩ = false ∧ W.cell? ⟨h, 0, none⟩ = some (.int .i64 0) ∧ W.cell? ⟨h, 1, none⟩ = some (.int .i64 0) ∧ W.cell? ⟨h, 2, none⟩ = some (.slice none 0 0) ∧ W.frozen? ⟨h, 0, none⟩ = false ∧ W.frozen? ⟨h, 1, none⟩ = false ∧ W.frozen? ⟨h, 2, none⟩ = false ∧ g ≠ h ∧ h ≠ g := by
  have a := (I.h7 g ea).2
  have b := (I.h8 h eb).2
  exact ⟨a.cell 0, a.cell 1, a.cell 2, a.frozen 0, a.frozen 1, a.frozen 2, b.cell 0, b.cell 1, b.cell 2, b.frozen 0, b.frozen 1, b.frozen 2, I.ne g h ea eb, (I.ne g h ea eb).symm⟩
set_option maxRecDepth 100000 in
set_option linter.unusedSimpArgs false in
set_option maxHeartbeats 4000000 in
theorem walkRecordMixes (w : World) (v0 v1 v2 : Value) (h0 : Arg27 w v0) (h1 : Arg27 w v1) (h2 : Arg45 w v2) : Calls Try.prog 7 #[v0, v1, v2] w fun e w' => e = .returned (.bool true) ∧ Below w.heap.size w w' := by
  obtain ⟨k, q, A, n, c, p, rfl, hR, hnc, hcm, hp, _, _⟩ := h0
  obtain ⟨k', q', A', n', c', p', rfl, hR', hnc', hcm', hp', _, _⟩ := h1
  obtain ⟨F, nf, cf, fs, rfl, hF, hfc, hfm⟩ := h2
  unfold recV
  have hb0 : Below w.heap.size w ((w.alloc (.cells #[.int .i64 k, .int .i64 q, .slice A n c] 27)).alloc (.cells #[.int .i64 k', .int .i64 q', .slice A' n' c'] 27)) := ((Below.refl _ _).alloc (Nat.le_refl _) _).alloc (by simp) _
  by_cases c1 : 100 < n
  · have c1' : (100 : Int) < n := by omega
    go_enter Try.func7, Try.ntmps7
    go_wp2_with fail
    refine (awake_any _).mono ?_
    rintro e w1 ⟨rfl, hb1⟩
    go_wp2_with fail
    go_ret
    exact ⟨rfl, hb0.trans (hb1.mono hb0.size)⟩
  by_cases c2 : 100 < n'
  · have c1' : ¬ (100 : Int) < n := by omega
    have c2' : (100 : Int) < n' := by omega
    go_enter Try.func7, Try.ntmps7
    go_wp2_with fail
    refine (awake_any _).mono ?_
    rintro e w1 ⟨rfl, hb1⟩
    go_wp2_with fail
    go_ret
    exact ⟨rfl, hb0.trans (hb1.mono hb0.size)⟩
  have c1' : ¬ (100 : Int) < n := by omega
  have c2' : ¬ (100 : Int) < n' := by omega
  go_enter Try.func7, Try.ntmps7
  go_wp2_with fail
  have hg0 := (Blk.new w 27 #[.int .i64 k, .int .i64 q, .slice A n c]).alloc (.cells #[.int .i64 k', .int .i64 q', .slice A' n' c'] 27)
  have hg1 := Blk.new (w.alloc (.cells #[.int .i64 k, .int .i64 q, .slice A n c] 27)) 27 #[.int .i64 k', .int .i64 q', .slice A' n' c']
  rw [World.size_alloc] at hg1
  obtain ⟨X, hX⟩ : ∃ X, ((w.alloc (.cells #[.int .i64 k, .int .i64 q, .slice A n c] 27)).alloc (.cells #[.int .i64 k', .int .i64 q', .slice A' n' c'] 27)) = X := ⟨_, rfl⟩
  rw [hX] at hg0 hg1 hb0 ⊢
  clear hX
  obtain ⟨kk, hkk⟩ : ∃ x, fitN k 255 = x := ⟨_, rfl⟩
  obtain ⟨qq, hqq⟩ : ∃ x, fitN q 1000000 = x := ⟨_, rfl⟩
  obtain ⟨kk', hkk'⟩ : ∃ x, fitN k' 255 = x := ⟨_, rfl⟩
  obtain ⟨qq', hqq'⟩ : ∃ x, fitN q' 1000000 = x := ⟨_, rfl⟩
  have s0 : X.cell? ⟨w.heap.size, 0, none⟩ = some (.int .i64 k) := hg0.cell 0
  have s1 : X.cell? ⟨w.heap.size, 1, none⟩ = some (.int .i64 q) := hg0.cell 1
  have s2 : X.cell? ⟨w.heap.size, 2, none⟩ = some (.slice A n c) := hg0.cell 2
  have s3 : X.cell? ⟨w.heap.size + 1, 0, none⟩ = some (.int .i64 k') := hg1.cell 0
  have s4 : X.cell? ⟨w.heap.size + 1, 1, none⟩ = some (.int .i64 q') := hg1.cell 1
  have s5 : X.cell? ⟨w.heap.size + 1, 2, none⟩ = some (.slice A' n' c') := hg1.cell 2
  have l0 := hg0.lt
  have l1 := hg1.lt
  have hS : ∀ V a b, FitI X V a b → V.cell? ⟨w.heap.size, 0, none⟩ = some (.int .i64 k) ∧ V.cell? ⟨w.heap.size, 1, none⟩ = some (.int .i64 q) ∧ V.cell? ⟨w.heap.size, 2, none⟩ = some (.slice A n c) ∧ V.cell? ⟨w.heap.size + 1, 0, none⟩ = some (.int .i64 k') ∧ V.cell? ⟨w.heap.size + 1, 1, none⟩ = some (.int .i64 q') ∧ V.cell? ⟨w.heap.size + 1, 2, none⟩ = some (.slice A' n' c') := fun V a b h =>
    ⟨(h.bel.cell (p := ⟨_, 0, none⟩) l0).trans s0, (h.bel.cell (p := ⟨_, 1, none⟩) l0).trans s1, (h.bel.cell (p := ⟨_, 2, none⟩) l0).trans s2, (h.bel.cell (p := ⟨_, 0, none⟩) l1).trans s3, (h.bel.cell (p := ⟨_, 1, none⟩) l1).trans s4, (h.bel.cell (p := ⟨_, 2, none⟩) l1).trans s5⟩
  have I0 : FitI X X.drew none none := ⟨(Below.refl _ X).drew, nofun, nofun, nofun⟩
  have HF := Lib.hid hF
  clear hF
  have HA := Lib.hid (And.intro hR hp)
  have HA' := Lib.hid (And.intro hR' hp')
  clear hR hR' hp hp'
  have HX := Lib.hid (And.intro hg0 (And.intro hg1 (And.intro hb0 (And.intro hkk (And.intro hqq (And.intro hkk' hqq'))))))
  clear hg0 hg1 hb0
  go_cut [7, 8] from 30 to 33 (fun s7 s8 wx => FitE X #[.int .i64 (kk : Nat), .int .i64 (qq : Nat), .slice A n c] #[.int .i64 (kk' : Nat), .int .i64 (qq' : Nat), .slice A' n' c'] s7 s8 wx)
  case first =>
    refine wp_pan (Pc := fun _ _ _ => False) (fun _ _ _ h => h.elim) ?_
    refine wp_region_tail_lit (S := fun V => V.cell? ⟨w.heap.size, 0, none⟩ = some (.int .i64 k) ∧ V.cell? ⟨w.heap.size, 1, none⟩ = some (.int .i64 q) ∧ V.cell? ⟨w.heap.size, 2, none⟩ = some (.slice A n c) ∧ V.cell? ⟨w.heap.size + 1, 0, none⟩ = some (.int .i64 k') ∧ V.cell? ⟨w.heap.size + 1, 1, none⟩ = some (.int .i64 q') ∧ V.cell? ⟨w.heap.size + 1, 2, none⟩ = some (.slice A' n' c')) 6 (by kernel_rfl) (by kernel_rfl) ⟨s0, s1, s2, s3, s4, s5⟩ (fun hHeld => ?_)
    simp only [List.take, List.drop]
    generalize X.drew = V0 at *
    refine wpAnyH_take (i := 0) (oi := _) (v := ?_) rfl (by kernel_rfl) (by kernel_rfl) (by kernel_rfl) (fun _ _ _ h => h) (Or.inl ⟨by rfl, ?_⟩) (by assumption) ?_
    rotate_left 1
    · (intro w9 hS9; (try dsimp only at hS9); go_simp <;> with_reducible rfl)
    try simp only [List.getElem_toArray, List.getElem_cons_succ, List.getElem_cons_zero, Act.put, List.setIfInBounds_toArray, List.set_cons_zero, List.set_cons_succ]
    refine wpAnyH_take (i := 2) (oi := _) (v := ?_) rfl (by kernel_rfl) (by kernel_rfl) (by kernel_rfl) (fun _ _ _ h => h) (Or.inl ⟨by rfl, ?_⟩) (by assumption) ?_
    rotate_left 1
    · (intro w9 hS9; (try dsimp only at hS9); go_simp <;> with_reducible rfl)
    try simp only [List.getElem_toArray, List.getElem_cons_succ, List.getElem_cons_zero, Act.put, List.setIfInBounds_toArray, List.set_cons_zero, List.set_cons_succ]
    
    refine wpAnyH_ready (rs := [1, 4, 5]) (by kernel_rfl) (by simp) ?_
    refine (AllReadyH.cons (o := _) rfl (fun K hK => ?_) (AllReadyH.cons (o := _) rfl (fun K hK => ?_) (AllReadyH.cons (o := _) rfl (fun K hK => ?_) AllReadyH.nil)))
    · try simp only [List.getElem_toArray, List.getElem_cons_succ, List.getElem_cons_zero]
      go_simp
      refine (fit_any k q n c A _).mono ?_
      rintro e V1 ⟨rfl, hb1⟩
      rw [hkk, hqq]
      unfold recV
      go_wp2_with fail
      have I1 := I0.call hb1
      refine hK.out _ _ (hS _ _ _ I1) (fun hHeld => ?_)
      clear hK K
      try simp only [List.getElem_toArray, List.getElem_cons_succ, List.getElem_cons_zero, Act.put, List.setIfInBounds_toArray, List.set_cons_zero, List.set_cons_succ]
      refine wpAnyH_ready (rs := [3, 4, 5]) (by kernel_rfl) (by simp) ?_
      refine (AllReadyH.cons (o := _) rfl (fun K hK => ?_) (AllReadyH.cons (o := _) rfl (fun K hK => ?_) (AllReadyH.cons (o := _) rfl (fun K hK => ?_) AllReadyH.nil)))
      · try simp only [List.getElem_toArray, List.getElem_cons_succ, List.getElem_cons_zero]
        go_simp
        refine (fit_any k' q' n' c' A' _).mono ?_
        rintro e V2 ⟨rfl, hb2⟩
        rw [hkk', hqq']
        unfold recV
        go_wp2_with fail
        have I2 := I1.call hb2
        refine hK.out _ _ (hS _ _ _ I2) (fun hHeld => ?_)
        clear hK K
        try simp only [List.getElem_toArray, List.getElem_cons_succ, List.getElem_cons_zero, Act.put, List.setIfInBounds_toArray, List.set_cons_zero, List.set_cons_succ]
        refine wpAnyH_ready (rs := [4, 5]) (by kernel_rfl) (by simp) ?_
        refine (AllReadyH.cons (o := _) rfl (fun K hK => ?_) (AllReadyH.cons (o := _) rfl (fun K hK => ?_) AllReadyH.nil))
        · try simp only [List.getElem_toArray, List.getElem_cons_succ, List.getElem_cons_zero]
          go_simp
          have I3 := I2.al7
          refine hK.out _ _ (hS _ _ _ I3) (fun hHeld => ?_)
          clear hK K
          generalize (V2.alloc (.cells #[.int .i64 0, .int .i64 0, .slice none 0 0] 27)) = V3 at *
          try simp only [List.getElem_toArray, List.getElem_cons_succ, List.getElem_cons_zero, Act.put, List.setIfInBounds_toArray, List.set_cons_zero, List.set_cons_succ]
          refine wpAnyH_ready (rs := [5]) (by kernel_rfl) (by simp) ?_
          refine (AllReadyH.cons (o := _) rfl (fun K hK => ?_) AllReadyH.nil)
          · try simp only [List.getElem_toArray, List.getElem_cons_succ, List.getElem_cons_zero]
            go_simp
            have I4 := I3.al8
            refine hK.out _ _ (hS _ _ _ I4) (fun hHeld => ?_)
            clear hK K
            generalize (V3.alloc (.cells #[.int .i64 0, .int .i64 0, .slice none 0 0] 27)) = V4 at *
            try simp only [List.getElem_toArray, List.getElem_cons_succ, List.getElem_cons_zero, Act.put, List.setIfInBounds_toArray, List.set_cons_zero, List.set_cons_succ]
            refine wpAnyH_done (by kernel_rfl) ?_ _
            try simp only [List.getElem_toArray, List.getElem_cons_succ, List.getElem_cons_zero]
            have f9 := I4.fin _ _ rfl rfl (.int .i64 (kk : Nat)) (.int .i64 (qq : Nat)) (.slice A n c) (.int .i64 (kk' : Nat)) (.int .i64 (qq' : Nat)) (.slice A' n' c')
            have f10 := I4.facts _ _ rfl rfl
            obtain ⟨x1, x2, x3, x4, x5, x6, x7, x8, x9, x10, x11, x12, x13, x14⟩ := f10
            refine tailQ_step rfl ?_
            go_wp2_with fail
            refine tailQ_step rfl ?_
            go_wp2_with fail
            refine tailQ_nil (panQ_normal ?_)
            go_wp2_with fail
            go_meet
            exact f9
        · try simp only [List.getElem_toArray, List.getElem_cons_succ, List.getElem_cons_zero]
          go_simp
          have I5 := I2.al8
          refine hK.out _ _ (hS _ _ _ I5) (fun hHeld => ?_)
          clear hK K
          generalize (V2.alloc (.cells #[.int .i64 0, .int .i64 0, .slice none 0 0] 27)) = V5 at *
          try simp only [List.getElem_toArray, List.getElem_cons_succ, List.getElem_cons_zero, Act.put, List.setIfInBounds_toArray, List.set_cons_zero, List.set_cons_succ]
          refine wpAnyH_ready (rs := [4]) (by kernel_rfl) (by simp) ?_
          refine (AllReadyH.cons (o := _) rfl (fun K hK => ?_) AllReadyH.nil)
          · try simp only [List.getElem_toArray, List.getElem_cons_succ, List.getElem_cons_zero]
            go_simp
            have I6 := I5.al7
            refine hK.out _ _ (hS _ _ _ I6) (fun hHeld => ?_)
            clear hK K
            generalize (V5.alloc (.cells #[.int .i64 0, .int .i64 0, .slice none 0 0] 27)) = V6 at *
            try simp only [List.getElem_toArray, List.getElem_cons_succ, List.getElem_cons_zero, Act.put, List.setIfInBounds_toArray, List.set_cons_zero, List.set_cons_succ]
            refine wpAnyH_done (by kernel_rfl) ?_ _
            try simp only [List.getElem_toArray, List.getElem_cons_succ, List.getElem_cons_zero]
            have f9 := I6.fin _ _ rfl rfl (.int .i64 (kk : Nat)) (.int .i64 (qq : Nat)) (.slice A n c) (.int .i64 (kk' : Nat)) (.int .i64 (qq' : Nat)) (.slice A' n' c')
            have f10 := I6.facts _ _ rfl rfl
            obtain ⟨x1, x2, x3, x4, x5, x6, x7, x8, x9, x10, x11, x12, x13, x14⟩ := f10
            refine tailQ_step rfl ?_
            go_wp2_with fail
            refine tailQ_step rfl ?_
            go_wp2_with fail
            refine tailQ_nil (panQ_normal ?_)
            go_wp2_with fail
            go_meet
            exact f9
      · try simp only [List.getElem_toArray, List.getElem_cons_succ, List.getElem_cons_zero]
        go_simp
        have I7 := I1.al7
        refine hK.out _ _ (hS _ _ _ I7) (fun hHeld => ?_)
        clear hK K
        generalize (V1.alloc (.cells #[.int .i64 0, .int .i64 0, .slice none 0 0] 27)) = V7 at *
        try simp only [List.getElem_toArray, List.getElem_cons_succ, List.getElem_cons_zero, Act.put, List.setIfInBounds_toArray, List.set_cons_zero, List.set_cons_succ]
        refine wpAnyH_ready (rs := [3, 5]) (by kernel_rfl) (by simp) ?_
        refine (AllReadyH.cons (o := _) rfl (fun K hK => ?_) (AllReadyH.cons (o := _) rfl (fun K hK => ?_) AllReadyH.nil))
        · try simp only [List.getElem_toArray, List.getElem_cons_succ, List.getElem_cons_zero]
          go_simp
          refine (fit_any k' q' n' c' A' _).mono ?_
          rintro e V8 ⟨rfl, hb8⟩
          rw [hkk', hqq']
          unfold recV
          go_wp2_with fail
          have I8 := I7.call hb8
          refine hK.out _ _ (hS _ _ _ I8) (fun hHeld => ?_)
          clear hK K
          try simp only [List.getElem_toArray, List.getElem_cons_succ, List.getElem_cons_zero, Act.put, List.setIfInBounds_toArray, List.set_cons_zero, List.set_cons_succ]
          refine wpAnyH_ready (rs := [5]) (by kernel_rfl) (by simp) ?_
          refine (AllReadyH.cons (o := _) rfl (fun K hK => ?_) AllReadyH.nil)
          · try simp only [List.getElem_toArray, List.getElem_cons_succ, List.getElem_cons_zero]
            go_simp
            have I9 := I8.al8
            refine hK.out _ _ (hS _ _ _ I9) (fun hHeld => ?_)
            clear hK K
            generalize (V8.alloc (.cells #[.int .i64 0, .int .i64 0, .slice none 0 0] 27)) = V9 at *
            try simp only [List.getElem_toArray, List.getElem_cons_succ, List.getElem_cons_zero, Act.put, List.setIfInBounds_toArray, List.set_cons_zero, List.set_cons_succ]
            refine wpAnyH_done (by kernel_rfl) ?_ _
            try simp only [List.getElem_toArray, List.getElem_cons_succ, List.getElem_cons_zero]
            have f9 := I9.fin _ _ rfl rfl (.int .i64 (kk : Nat)) (.int .i64 (qq : Nat)) (.slice A n c) (.int .i64 (kk' : Nat)) (.int .i64 (qq' : Nat)) (.slice A' n' c')
            have f10 := I9.facts _ _ rfl rfl
            obtain ⟨x1, x2, x3, x4, x5, x6, x7, x8, x9, x10, x11, x12, x13, x14⟩ := f10
            refine tailQ_step rfl ?_
            go_wp2_with fail
            refine tailQ_step rfl ?_
            go_wp2_with fail
            refine tailQ_nil (panQ_normal ?_)
            go_wp2_with fail
            go_meet
            exact f9
        · try simp only [List.getElem_toArray, List.getElem_cons_succ, List.getElem_cons_zero]
          go_simp
          have I10 := I7.al8
          refine hK.out _ _ (hS _ _ _ I10) (fun hHeld => ?_)
          clear hK K
          generalize (V7.alloc (.cells #[.int .i64 0, .int .i64 0, .slice none 0 0] 27)) = V10 at *
          try simp only [List.getElem_toArray, List.getElem_cons_succ, List.getElem_cons_zero, Act.put, List.setIfInBounds_toArray, List.set_cons_zero, List.set_cons_succ]
          refine wpAnyH_ready (rs := [3]) (by kernel_rfl) (by simp) ?_
          refine (AllReadyH.cons (o := _) rfl (fun K hK => ?_) AllReadyH.nil)
          · try simp only [List.getElem_toArray, List.getElem_cons_succ, List.getElem_cons_zero]
            go_simp
            refine (fit_any k' q' n' c' A' _).mono ?_
            rintro e V11 ⟨rfl, hb11⟩
            rw [hkk', hqq']
            unfold recV
            go_wp2_with fail
            have I11 := I10.call hb11
            refine hK.out _ _ (hS _ _ _ I11) (fun hHeld => ?_)
            clear hK K
            try simp only [List.getElem_toArray, List.getElem_cons_succ, List.getElem_cons_zero, Act.put, List.setIfInBounds_toArray, List.set_cons_zero, List.set_cons_succ]
            refine wpAnyH_done (by kernel_rfl) ?_ _
            try simp only [List.getElem_toArray, List.getElem_cons_succ, List.getElem_cons_zero]
            have f9 := I11.fin _ _ rfl rfl (.int .i64 (kk : Nat)) (.int .i64 (qq : Nat)) (.slice A n c) (.int .i64 (kk' : Nat)) (.int .i64 (qq' : Nat)) (.slice A' n' c')
            have f10 := I11.facts _ _ rfl rfl
            obtain ⟨x1, x2, x3, x4, x5, x6, x7, x8, x9, x10, x11, x12, x13, x14⟩ := f10
            refine tailQ_step rfl ?_
            go_wp2_with fail
            refine tailQ_step rfl ?_
            go_wp2_with fail
            refine tailQ_nil (panQ_normal ?_)
            go_wp2_with fail
            go_meet
            exact f9
      · try simp only [List.getElem_toArray, List.getElem_cons_succ, List.getElem_cons_zero]
        go_simp
        have I12 := I1.al8
        refine hK.out _ _ (hS _ _ _ I12) (fun hHeld => ?_)
        clear hK K
        generalize (V1.alloc (.cells #[.int .i64 0, .int .i64 0, .slice none 0 0] 27)) = V12 at *
        try simp only [List.getElem_toArray, List.getElem_cons_succ, List.getElem_cons_zero, Act.put, List.setIfInBounds_toArray, List.set_cons_zero, List.set_cons_succ]
        refine wpAnyH_ready (rs := [3, 4]) (by kernel_rfl) (by simp) ?_
        refine (AllReadyH.cons (o := _) rfl (fun K hK => ?_) (AllReadyH.cons (o := _) rfl (fun K hK => ?_) AllReadyH.nil))
        · try simp only [List.getElem_toArray, List.getElem_cons_succ, List.getElem_cons_zero]
          go_simp
          refine (fit_any k' q' n' c' A' _).mono ?_
          rintro e V13 ⟨rfl, hb13⟩
          rw [hkk', hqq']
          unfold recV
          go_wp2_with fail
          have I13 := I12.call hb13
          refine hK.out _ _ (hS _ _ _ I13) (fun hHeld => ?_)
          clear hK K
          try simp only [List.getElem_toArray, List.getElem_cons_succ, List.getElem_cons_zero, Act.put, List.setIfInBounds_toArray, List.set_cons_zero, List.set_cons_succ]
          refine wpAnyH_ready (rs := [4]) (by kernel_rfl) (by simp) ?_
          refine (AllReadyH.cons (o := _) rfl (fun K hK => ?_) AllReadyH.nil)
          · try simp only [List.getElem_toArray, List.getElem_cons_succ, List.getElem_cons_zero]
            go_simp
            have I14 := I13.al7
            refine hK.out _ _ (hS _ _ _ I14) (fun hHeld => ?_)
            clear hK K
            generalize (V13.alloc (.cells #[.int .i64 0, .int .i64 0, .slice none 0 0] 27)) = V14 at *
            try simp only [List.getElem_toArray, List.getElem_cons_succ, List.getElem_cons_zero, Act.put, List.setIfInBounds_toArray, List.set_cons_zero, List.set_cons_succ]
            refine wpAnyH_done (by kernel_rfl) ?_ _
            try simp only [List.getElem_toArray, List.getElem_cons_succ, List.getElem_cons_zero]
            have f9 := I14.fin _ _ rfl rfl (.int .i64 (kk : Nat)) (.int .i64 (qq : Nat)) (.slice A n c) (.int .i64 (kk' : Nat)) (.int .i64 (qq' : Nat)) (.slice A' n' c')
            have f10 := I14.facts _ _ rfl rfl
            obtain ⟨x1, x2, x3, x4, x5, x6, x7, x8, x9, x10, x11, x12, x13, x14⟩ := f10
            refine tailQ_step rfl ?_
            go_wp2_with fail
            refine tailQ_step rfl ?_
            go_wp2_with fail
            refine tailQ_nil (panQ_normal ?_)
            go_wp2_with fail
            go_meet
            exact f9
        · try simp only [List.getElem_toArray, List.getElem_cons_succ, List.getElem_cons_zero]
          go_simp
          have I15 := I12.al7
          refine hK.out _ _ (hS _ _ _ I15) (fun hHeld => ?_)
          clear hK K
          generalize (V12.alloc (.cells #[.int .i64 0, .int .i64 0, .slice none 0 0] 27)) = V15 at *
          try simp only [List.getElem_toArray, List.getElem_cons_succ, List.getElem_cons_zero, Act.put, List.setIfInBounds_toArray, List.set_cons_zero, List.set_cons_succ]
          refine wpAnyH_ready (rs := [3]) (by kernel_rfl) (by simp) ?_
          refine (AllReadyH.cons (o := _) rfl (fun K hK => ?_) AllReadyH.nil)
          · try simp only [List.getElem_toArray, List.getElem_cons_succ, List.getElem_cons_zero]
            go_simp
            refine (fit_any k' q' n' c' A' _).mono ?_
            rintro e V16 ⟨rfl, hb16⟩
            rw [hkk', hqq']
            unfold recV
            go_wp2_with fail
            have I16 := I15.call hb16
            refine hK.out _ _ (hS _ _ _ I16) (fun hHeld => ?_)
            clear hK K
            try simp only [List.getElem_toArray, List.getElem_cons_succ, List.getElem_cons_zero, Act.put, List.setIfInBounds_toArray, List.set_cons_zero, List.set_cons_succ]
            refine wpAnyH_done (by kernel_rfl) ?_ _
            try simp only [List.getElem_toArray, List.getElem_cons_succ, List.getElem_cons_zero]
            have f9 := I16.fin _ _ rfl rfl (.int .i64 (kk : Nat)) (.int .i64 (qq : Nat)) (.slice A n c) (.int .i64 (kk' : Nat)) (.int .i64 (qq' : Nat)) (.slice A' n' c')
            have f10 := I16.facts _ _ rfl rfl
            obtain ⟨x1, x2, x3, x4, x5, x6, x7, x8, x9, x10, x11, x12, x13, x14⟩ := f10
            refine tailQ_step rfl ?_
            go_wp2_with fail
            refine tailQ_step rfl ?_
            go_wp2_with fail
            refine tailQ_nil (panQ_normal ?_)
            go_wp2_with fail
            go_meet
            exact f9
    · try simp only [List.getElem_toArray, List.getElem_cons_succ, List.getElem_cons_zero]
      go_simp
      have I17 := I0.al7
      refine hK.out _ _ (hS _ _ _ I17) (fun hHeld => ?_)
      clear hK K
      generalize (V0.alloc (.cells #[.int .i64 0, .int .i64 0, .slice none 0 0] 27)) = V17 at *
      try simp only [List.getElem_toArray, List.getElem_cons_succ, List.getElem_cons_zero, Act.put, List.setIfInBounds_toArray, List.set_cons_zero, List.set_cons_succ]
      refine wpAnyH_ready (rs := [1, 5]) (by kernel_rfl) (by simp) ?_
      refine (AllReadyH.cons (o := _) rfl (fun K hK => ?_) (AllReadyH.cons (o := _) rfl (fun K hK => ?_) AllReadyH.nil))
      · try simp only [List.getElem_toArray, List.getElem_cons_succ, List.getElem_cons_zero]
        go_simp
        refine (fit_any k q n c A _).mono ?_
        rintro e V18 ⟨rfl, hb18⟩
        rw [hkk, hqq]
        unfold recV
        go_wp2_with fail
        have I18 := I17.call hb18
        refine hK.out _ _ (hS _ _ _ I18) (fun hHeld => ?_)
        clear hK K
        try simp only [List.getElem_toArray, List.getElem_cons_succ, List.getElem_cons_zero, Act.put, List.setIfInBounds_toArray, List.set_cons_zero, List.set_cons_succ]
        refine wpAnyH_ready (rs := [3, 5]) (by kernel_rfl) (by simp) ?_
        refine (AllReadyH.cons (o := _) rfl (fun K hK => ?_) (AllReadyH.cons (o := _) rfl (fun K hK => ?_) AllReadyH.nil))
        · try simp only [List.getElem_toArray, List.getElem_cons_succ, List.getElem_cons_zero]
          go_simp
          refine (fit_any k' q' n' c' A' _).mono ?_
          rintro e V19 ⟨rfl, hb19⟩
          rw [hkk', hqq']
          unfold recV
          go_wp2_with fail
          have I19 := I18.call hb19
          refine hK.out _ _ (hS _ _ _ I19) (fun hHeld => ?_)
          clear hK K
          try simp only [List.getElem_toArray, List.getElem_cons_succ, List.getElem_cons_zero, Act.put, List.setIfInBounds_toArray, List.set_cons_zero, List.set_cons_succ]
          refine wpAnyH_ready (rs := [5]) (by kernel_rfl) (by simp) ?_
          refine (AllReadyH.cons (o := _) rfl (fun K hK => ?_) AllReadyH.nil)
          · try simp only [List.getElem_toArray, List.getElem_cons_succ, List.getElem_cons_zero]
            go_simp
            have I20 := I19.al8
            refine hK.out _ _ (hS _ _ _ I20) (fun hHeld => ?_)
            clear hK K
            generalize (V19.alloc (.cells #[.int .i64 0, .int .i64 0, .slice none 0 0] 27)) = V20 at *
            try simp only [List.getElem_toArray, List.getElem_cons_succ, List.getElem_cons_zero, Act.put, List.setIfInBounds_toArray, List.set_cons_zero, List.set_cons_succ]
            refine wpAnyH_done (by kernel_rfl) ?_ _
            try simp only [List.getElem_toArray, List.getElem_cons_succ, List.getElem_cons_zero]
            have f9 := I20.fin _ _ rfl rfl (.int .i64 (kk : Nat)) (.int .i64 (qq : Nat)) (.slice A n c) (.int .i64 (kk' : Nat)) (.int .i64 (qq' : Nat)) (.slice A' n' c')
            have f10 := I20.facts _ _ rfl rfl
            obtain ⟨x1, x2, x3, x4, x5, x6, x7, x8, x9, x10, x11, x12, x13, x14⟩ := f10
            refine tailQ_step rfl ?_
            go_wp2_with fail
            refine tailQ_step rfl ?_
            go_wp2_with fail
            refine tailQ_nil (panQ_normal ?_)
            go_wp2_with fail
            go_meet
            exact f9
        · try simp only [List.getElem_toArray, List.getElem_cons_succ, List.getElem_cons_zero]
          go_simp
          have I21 := I18.al8
          refine hK.out _ _ (hS _ _ _ I21) (fun hHeld => ?_)
          clear hK K
          generalize (V18.alloc (.cells #[.int .i64 0, .int .i64 0, .slice none 0 0] 27)) = V21 at *
          try simp only [List.getElem_toArray, List.getElem_cons_succ, List.getElem_cons_zero, Act.put, List.setIfInBounds_toArray, List.set_cons_zero, List.set_cons_succ]
          refine wpAnyH_ready (rs := [3]) (by kernel_rfl) (by simp) ?_
          refine (AllReadyH.cons (o := _) rfl (fun K hK => ?_) AllReadyH.nil)
          · try simp only [List.getElem_toArray, List.getElem_cons_succ, List.getElem_cons_zero]
            go_simp
            refine (fit_any k' q' n' c' A' _).mono ?_
            rintro e V22 ⟨rfl, hb22⟩
            rw [hkk', hqq']
            unfold recV
            go_wp2_with fail
            have I22 := I21.call hb22
            refine hK.out _ _ (hS _ _ _ I22) (fun hHeld => ?_)
            clear hK K
            try simp only [List.getElem_toArray, List.getElem_cons_succ, List.getElem_cons_zero, Act.put, List.setIfInBounds_toArray, List.set_cons_zero, List.set_cons_succ]
            refine wpAnyH_done (by kernel_rfl) ?_ _
            try simp only [List.getElem_toArray, List.getElem_cons_succ, List.getElem_cons_zero]
            have f9 := I22.fin _ _ rfl rfl (.int .i64 (kk : Nat)) (.int .i64 (qq : Nat)) (.slice A n c) (.int .i64 (kk' : Nat)) (.int .i64 (qq' : Nat)) (.slice A' n' c')
            have f10 := I22.facts _ _ rfl rfl
            obtain ⟨x1, x2, x3, x4, x5, x6, x7, x8, x9, x10, x11, x12, x13, x14⟩ := f10
            refine tailQ_step rfl ?_
            go_wp2_with fail
            refine tailQ_step rfl ?_
            go_wp2_with fail
            refine tailQ_nil (panQ_normal ?_)
            go_wp2_with fail
            go_meet
            exact f9
      · try simp only [List.getElem_toArray, List.getElem_cons_succ, List.getElem_cons_zero]
        go_simp
        have I23 := I17.al8
        refine hK.out _ _ (hS _ _ _ I23) (fun hHeld => ?_)
        clear hK K
        generalize (V17.alloc (.cells #[.int .i64 0, .int .i64 0, .slice none 0 0] 27)) = V23 at *
        try simp only [List.getElem_toArray, List.getElem_cons_succ, List.getElem_cons_zero, Act.put, List.setIfInBounds_toArray, List.set_cons_zero, List.set_cons_succ]
        refine wpAnyH_ready (rs := [1]) (by kernel_rfl) (by simp) ?_
        refine (AllReadyH.cons (o := _) rfl (fun K hK => ?_) AllReadyH.nil)
        · try simp only [List.getElem_toArray, List.getElem_cons_succ, List.getElem_cons_zero]
          go_simp
          refine (fit_any k q n c A _).mono ?_
          rintro e V24 ⟨rfl, hb24⟩
          rw [hkk, hqq]
          unfold recV
          go_wp2_with fail
          have I24 := I23.call hb24
          refine hK.out _ _ (hS _ _ _ I24) (fun hHeld => ?_)
          clear hK K
          try simp only [List.getElem_toArray, List.getElem_cons_succ, List.getElem_cons_zero, Act.put, List.setIfInBounds_toArray, List.set_cons_zero, List.set_cons_succ]
          refine wpAnyH_ready (rs := [3]) (by kernel_rfl) (by simp) ?_
          refine (AllReadyH.cons (o := _) rfl (fun K hK => ?_) AllReadyH.nil)
          · try simp only [List.getElem_toArray, List.getElem_cons_succ, List.getElem_cons_zero]
            go_simp
            refine (fit_any k' q' n' c' A' _).mono ?_
            rintro e V25 ⟨rfl, hb25⟩
            rw [hkk', hqq']
            unfold recV
            go_wp2_with fail
            have I25 := I24.call hb25
            refine hK.out _ _ (hS _ _ _ I25) (fun hHeld => ?_)
            clear hK K
            try simp only [List.getElem_toArray, List.getElem_cons_succ, List.getElem_cons_zero, Act.put, List.setIfInBounds_toArray, List.set_cons_zero, List.set_cons_succ]
            refine wpAnyH_done (by kernel_rfl) ?_ _
            try simp only [List.getElem_toArray, List.getElem_cons_succ, List.getElem_cons_zero]
            have f9 := I25.fin _ _ rfl rfl (.int .i64 (kk : Nat)) (.int .i64 (qq : Nat)) (.slice A n c) (.int .i64 (kk' : Nat)) (.int .i64 (qq' : Nat)) (.slice A' n' c')
            have f10 := I25.facts _ _ rfl rfl
            obtain ⟨x1, x2, x3, x4, x5, x6, x7, x8, x9, x10, x11, x12, x13, x14⟩ := f10
            refine tailQ_step rfl ?_
            go_wp2_with fail
            refine tailQ_step rfl ?_
            go_wp2_with fail
            refine tailQ_nil (panQ_normal ?_)
            go_wp2_with fail
            go_meet
            exact f9
    · try simp only [List.getElem_toArray, List.getElem_cons_succ, List.getElem_cons_zero]
      go_simp
      have I26 := I0.al8
      refine hK.out _ _ (hS _ _ _ I26) (fun hHeld => ?_)
      clear hK K
      generalize (V0.alloc (.cells #[.int .i64 0, .int .i64 0, .slice none 0 0] 27)) = V26 at *
      try simp only [List.getElem_toArray, List.getElem_cons_succ, List.getElem_cons_zero, Act.put, List.setIfInBounds_toArray, List.set_cons_zero, List.set_cons_succ]
      refine wpAnyH_ready (rs := [1, 4]) (by kernel_rfl) (by simp) ?_
      refine (AllReadyH.cons (o := _) rfl (fun K hK => ?_) (AllReadyH.cons (o := _) rfl (fun K hK => ?_) AllReadyH.nil))
      · try simp only [List.getElem_toArray, List.getElem_cons_succ, List.getElem_cons_zero]
        go_simp
        refine (fit_any k q n c A _).mono ?_
        rintro e V27 ⟨rfl, hb27⟩
        rw [hkk, hqq]
        unfold recV
        go_wp2_with fail
        have I27 := I26.call hb27
        refine hK.out _ _ (hS _ _ _ I27) (fun hHeld => ?_)
        clear hK K
        try simp only [List.getElem_toArray, List.getElem_cons_succ, List.getElem_cons_zero, Act.put, List.setIfInBounds_toArray, List.set_cons_zero, List.set_cons_succ]
        refine wpAnyH_ready (rs := [3, 4]) (by kernel_rfl) (by simp) ?_
        refine (AllReadyH.cons (o := _) rfl (fun K hK => ?_) (AllReadyH.cons (o := _) rfl (fun K hK => ?_) AllReadyH.nil))
        · try simp only [List.getElem_toArray, List.getElem_cons_succ, List.getElem_cons_zero]
          go_simp
          refine (fit_any k' q' n' c' A' _).mono ?_
          rintro e V28 ⟨rfl, hb28⟩
          rw [hkk', hqq']
          unfold recV
          go_wp2_with fail
          have I28 := I27.call hb28
          refine hK.out _ _ (hS _ _ _ I28) (fun hHeld => ?_)
          clear hK K
          try simp only [List.getElem_toArray, List.getElem_cons_succ, List.getElem_cons_zero, Act.put, List.setIfInBounds_toArray, List.set_cons_zero, List.set_cons_succ]
          refine wpAnyH_ready (rs := [4]) (by kernel_rfl) (by simp) ?_
          refine (AllReadyH.cons (o := _) rfl (fun K hK => ?_) AllReadyH.nil)
          · try simp only [List.getElem_toArray, List.getElem_cons_succ, List.getElem_cons_zero]
            go_simp
            have I29 := I28.al7
            refine hK.out _ _ (hS _ _ _ I29) (fun hHeld => ?_)
            clear hK K
            generalize (V28.alloc (.cells #[.int .i64 0, .int .i64 0, .slice none 0 0] 27)) = V29 at *
            try simp only [List.getElem_toArray, List.getElem_cons_succ, List.getElem_cons_zero, Act.put, List.setIfInBounds_toArray, List.set_cons_zero, List.set_cons_succ]
            refine wpAnyH_done (by kernel_rfl) ?_ _
            try simp only [List.getElem_toArray, List.getElem_cons_succ, List.getElem_cons_zero]
            have f9 := I29.fin _ _ rfl rfl (.int .i64 (kk : Nat)) (.int .i64 (qq : Nat)) (.slice A n c) (.int .i64 (kk' : Nat)) (.int .i64 (qq' : Nat)) (.slice A' n' c')
            have f10 := I29.facts _ _ rfl rfl
            obtain ⟨x1, x2, x3, x4, x5, x6, x7, x8, x9, x10, x11, x12, x13, x14⟩ := f10
            refine tailQ_step rfl ?_
            go_wp2_with fail
            refine tailQ_step rfl ?_
            go_wp2_with fail
            refine tailQ_nil (panQ_normal ?_)
            go_wp2_with fail
            go_meet
            exact f9
        · try simp only [List.getElem_toArray, List.getElem_cons_succ, List.getElem_cons_zero]
          go_simp
          have I30 := I27.al7
          refine hK.out _ _ (hS _ _ _ I30) (fun hHeld => ?_)
          clear hK K
          generalize (V27.alloc (.cells #[.int .i64 0, .int .i64 0, .slice none 0 0] 27)) = V30 at *
          try simp only [List.getElem_toArray, List.getElem_cons_succ, List.getElem_cons_zero, Act.put, List.setIfInBounds_toArray, List.set_cons_zero, List.set_cons_succ]
          refine wpAnyH_ready (rs := [3]) (by kernel_rfl) (by simp) ?_
          refine (AllReadyH.cons (o := _) rfl (fun K hK => ?_) AllReadyH.nil)
          · try simp only [List.getElem_toArray, List.getElem_cons_succ, List.getElem_cons_zero]
            go_simp
            refine (fit_any k' q' n' c' A' _).mono ?_
            rintro e V31 ⟨rfl, hb31⟩
            rw [hkk', hqq']
            unfold recV
            go_wp2_with fail
            have I31 := I30.call hb31
            refine hK.out _ _ (hS _ _ _ I31) (fun hHeld => ?_)
            clear hK K
            try simp only [List.getElem_toArray, List.getElem_cons_succ, List.getElem_cons_zero, Act.put, List.setIfInBounds_toArray, List.set_cons_zero, List.set_cons_succ]
            refine wpAnyH_done (by kernel_rfl) ?_ _
            try simp only [List.getElem_toArray, List.getElem_cons_succ, List.getElem_cons_zero]
            have f9 := I31.fin _ _ rfl rfl (.int .i64 (kk : Nat)) (.int .i64 (qq : Nat)) (.slice A n c) (.int .i64 (kk' : Nat)) (.int .i64 (qq' : Nat)) (.slice A' n' c')
            have f10 := I31.facts _ _ rfl rfl
            obtain ⟨x1, x2, x3, x4, x5, x6, x7, x8, x9, x10, x11, x12, x13, x14⟩ := f10
            refine tailQ_step rfl ?_
            go_wp2_with fail
            refine tailQ_step rfl ?_
            go_wp2_with fail
            refine tailQ_nil (panQ_normal ?_)
            go_wp2_with fail
            go_meet
            exact f9
      · try simp only [List.getElem_toArray, List.getElem_cons_succ, List.getElem_cons_zero]
        go_simp
        have I32 := I26.al7
        refine hK.out _ _ (hS _ _ _ I32) (fun hHeld => ?_)
        clear hK K
        generalize (V26.alloc (.cells #[.int .i64 0, .int .i64 0, .slice none 0 0] 27)) = V32 at *
        try simp only [List.getElem_toArray, List.getElem_cons_succ, List.getElem_cons_zero, Act.put, List.setIfInBounds_toArray, List.set_cons_zero, List.set_cons_succ]
        refine wpAnyH_ready (rs := [1]) (by kernel_rfl) (by simp) ?_
        refine (AllReadyH.cons (o := _) rfl (fun K hK => ?_) AllReadyH.nil)
        · try simp only [List.getElem_toArray, List.getElem_cons_succ, List.getElem_cons_zero]
          go_simp
          refine (fit_any k q n c A _).mono ?_
          rintro e V33 ⟨rfl, hb33⟩
          rw [hkk, hqq]
          unfold recV
          go_wp2_with fail
          have I33 := I32.call hb33
          refine hK.out _ _ (hS _ _ _ I33) (fun hHeld => ?_)
          clear hK K
          try simp only [List.getElem_toArray, List.getElem_cons_succ, List.getElem_cons_zero, Act.put, List.setIfInBounds_toArray, List.set_cons_zero, List.set_cons_succ]
          refine wpAnyH_ready (rs := [3]) (by kernel_rfl) (by simp) ?_
          refine (AllReadyH.cons (o := _) rfl (fun K hK => ?_) AllReadyH.nil)
          · try simp only [List.getElem_toArray, List.getElem_cons_succ, List.getElem_cons_zero]
            go_simp
            refine (fit_any k' q' n' c' A' _).mono ?_
            rintro e V34 ⟨rfl, hb34⟩
            rw [hkk', hqq']
            unfold recV
            go_wp2_with fail
            have I34 := I33.call hb34
            refine hK.out _ _ (hS _ _ _ I34) (fun hHeld => ?_)
            clear hK K
            try simp only [List.getElem_toArray, List.getElem_cons_succ, List.getElem_cons_zero, Act.put, List.setIfInBounds_toArray, List.set_cons_zero, List.set_cons_succ]
            refine wpAnyH_done (by kernel_rfl) ?_ _
            try simp only [List.getElem_toArray, List.getElem_cons_succ, List.getElem_cons_zero]
            have f9 := I34.fin _ _ rfl rfl (.int .i64 (kk : Nat)) (.int .i64 (qq : Nat)) (.slice A n c) (.int .i64 (kk' : Nat)) (.int .i64 (qq' : Nat)) (.slice A' n' c')
            have f10 := I34.facts _ _ rfl rfl
            obtain ⟨x1, x2, x3, x4, x5, x6, x7, x8, x9, x10, x11, x12, x13, x14⟩ := f10
            refine tailQ_step rfl ?_
            go_wp2_with fail
            refine tailQ_step rfl ?_
            go_wp2_with fail
            refine tailQ_nil (panQ_normal ?_)
            go_wp2_with fail
            go_meet
            exact f9
  case rest =>
    obtain ⟨⟨g, gh, rfl, rfl, lg, lh, hgh, hg, hh⟩, hbc⟩ := hcut
    obtain ⟨Q2, hQ2⟩ : ∃ Q2, (if qq = qq' then qq' + 1 else qq') = Q2 := ⟨_, rfl⟩
    have d0 : wc.cell? ⟨g, 1, none⟩ = some (.int .i64 (qq : Nat)) := hg.cell 1
    have d1 : wc.cell? ⟨gh, 1, none⟩ = some (.int .i64 (qq' : Nat)) := hh.cell 1
    have d2 := hh.frozen 1
    have HQ2 := Lib.hid hQ2
    clear hQ2
    go_upto_if 38 with (fail)
    go_cut [7, 8] from 34 to 42 (fun s7 s8 wx => FitE X #[.int .i64 (kk : Nat), .int .i64 (qq : Nat), .slice A n c] #[.int .i64 (kk' : Nat), .int .i64 (Q2 : Nat), .slice A' n' c'] s7 s8 wx)
    case first =>
      have hQ2 := HQ2.out
      have q0' := fitN_pos q' 1000000
      have q1' := (fit_one q' 1000000 (by omega)).2
      rw [HX.out.2.2.2.2.2.2] at q0' q1'
      by_cases hq : qq = qq'
      · rw [if_pos hq] at hQ2
        have hqe : ((qq : Int) == (qq' : Int)) = true := by rw [beq_iff_eq]; omega
        have HQ := Lib.hid hq
        clear hq
        go_wp2_with fail
        go_meet
        have e : (qq' : Int) + 1 = (Q2 : Nat) := by omega
        rw [e]
        exact ⟨⟨g, gh, rfl, rfl, lg, lh, hgh, hg.far (p := ⟨gh, 1, none⟩) hgh _, hh.set_ 1 _⟩, hbc.setCell (p := ⟨gh, 1, none⟩) lh _⟩
      · rw [if_neg hq] at hQ2
        have hqe : ((qq : Int) == (qq' : Int)) = false := by rw [beq_eq_false_iff_ne]; omega
        have HQ := Lib.hid hq
        clear hq
        go_wp2_with fail
        go_meet
        rw [← hQ2]
        exact ⟨⟨g, gh, rfl, rfl, lg, lh, hgh, hg, hh⟩, hbc⟩
    case rest =>
      clear lg lh hgh hg hh hbc d0 d1 d2
      obtain ⟨⟨g, gh, rfl, rfl, lg, lh, hgh, hg9, hh9⟩, hbc9⟩ := hcut
      obtain ⟨hR, hp⟩ := HA.out
      obtain ⟨hR', hp'⟩ := HA'.out
      have hlen : p.length = n := by have := hR.1; rw [u8s_len] at this; omega
      have hlen' : p'.length = n' := by have := hR'.1; rw [u8s_len] at this; omega
      have k0 := fitN_pos k 255
      have k1 := (fit_one k 255 (by omega)).2
      have q0 := fitN_pos q 1000000
      have q1 := (fit_one q 1000000 (by omega)).2
      have k0' := fitN_pos k' 255
      have k1' := (fit_one k' 255 (by omega)).2
      have q0' := fitN_pos q' 1000000
      have q1' := (fit_one q' 1000000 (by omega)).2
      rw [HX.out.2.2.2.1] at k0 k1
      rw [HX.out.2.2.2.2.1] at q0 q1
      rw [HX.out.2.2.2.2.2.1] at k0' k1'
      rw [HX.out.2.2.2.2.2.2] at q0' q1'
      have hne : qq ≠ Q2 := by rw [← HQ2.out]; split <;> omega
      have Q20 : 0 < Q2 := by rw [← HQ2.out]; split <;> omega
      have Q21 : Q2 ≤ 1000001 := by rw [← HQ2.out]; split <;> omega
      have hbk : badK (kk : Nat) (qq : Nat) = false := by unfold badK; rw [decide_eq_false]; omega
      have hbk' : badK (kk' : Nat) (Q2 : Nat) = false := by unfold badK; rw [decide_eq_false]; omega
      have hbwc : Below w.heap.size w wc := HX.out.2.2.1.trans (hbc9.mono HX.out.2.2.1.size)
      have x0 : wc.cell? ⟨g, 0, none⟩ = some (.int .i64 (kk : Nat)) := hg9.cell 0
      have x1 : wc.cell? ⟨g, 1, none⟩ = some (.int .i64 (qq : Nat)) := hg9.cell 1
      have x2 : wc.cell? ⟨g, 2, none⟩ = some (.slice A n c) := hg9.cell 2
      have lgc := hg9.lt
      have lhc := hh9.lt
      have HD := Lib.hid (And.intro hp (And.intro hp' (And.intro hlen (And.intro hlen' (And.intro hne (And.intro hg9 hh9))))))
      have HC := Lib.hid (And.intro hbwc (And.intro hR hR'))
      clear hp hp' hlen hlen' hne hg9 hh9 hbc9 hbwc hR hR'
      go_wp2_with fail
      refine (Encode_any (kk : Nat) (qq : Nat) n c A p wc (HC.out.2.1.up HC.out.1) HD.out.1).mono ?_
      rintro e w3 ⟨hb3, A3, c3, he, hR3, hc3, hm3⟩
      rw [encE_fit hbk (by rw [HD.out.2.2.1]; omega)] at he hR3 hc3
      dsimp only at he hR3 hc3
      have hel3 : (encR kk qq p).length = szN n := by rw [enc_len, HD.out.2.2.1]
      rw [hel3] at he hR3 hc3
      subst he
      have hh3 := HD.out.2.2.2.2.2.2.below hb3 lhc
      have y0 : w3.cell? ⟨gh, 0, none⟩ = some (.int .i64 (kk' : Nat)) := hh3.cell 0
      have y1 : w3.cell? ⟨gh, 1, none⟩ = some (.int .i64 (Q2 : Nat)) := hh3.cell 1
      have y2 : w3.cell? ⟨gh, 2, none⟩ = some (.slice A' n' c') := hh3.cell 2
      have hbw3 := HC.out.1.trans (hb3.mono HC.out.1.size)
      have H3 := Lib.hid (And.intro hb3 (And.intro hR3 (And.intro hc3 (And.intro hm3 hbw3))))
      clear hb3 hR3 hc3 hm3 hbw3 hh3
      go_wp2_with fail
      refine (Encode_any (kk' : Nat) (Q2 : Nat) n' c' A' p' w3 (HC.out.2.2.up H3.out.2.2.2.2) HD.out.2.1).mono ?_
      rintro e w4 ⟨hb4, A4, c4, he, hR4, hc4, hm4⟩
      rw [encE_fit hbk' (by rw [HD.out.2.2.2.1]; omega)] at he hR4 hc4
      dsimp only at he hR4 hc4
      have hel4 : (encR kk' Q2 p').length = szN n' := by rw [enc_len, HD.out.2.2.2.1]
      rw [hel4] at he hR4 hc4
      subst he
      have hbc4 : Below wc.heap.size wc w4 := H3.out.1.trans (hb4.mono H3.out.1.size)
      have hbw4 := HC.out.1.trans (hbc4.mono HC.out.1.size)
      have hR34 : Reads w4 w4.heap.size 8 A3 (szN n) ((encR kk qq p).flatMap encS) := H3.out.2.1.up hb4
      have hok3 := enc_ok qq (p := p) (k := kk) (by omega) HD.out.1
      have hok4 := enc_ok Q2 (p := p') (k := kk') (by omega) HD.out.2.1
      have HMX := Lib.hid (fun (M : List Sec) => dec_mix (m := M) k0 (by omega) q0 (by omega) HD.out.1 (by rw [HD.out.2.2.1]; omega) k0' (by omega) Q20 (by omega) HD.out.2.1 (by rw [HD.out.2.2.2.1]; omega) HD.out.2.2.2.2.1)
      have hn1 : szN n ≤ 100 := by unfold szN; omega
      have hn2 : szN n' ≤ 100 := by unfold szN; omega
      generalize encR kk qq p = L1 at *
      generalize encR kk' Q2 p' = L2 at *
      generalize szN n = N1 at *
      generalize szN n' = N2 at *
      obtain ⟨mx, hmx⟩ : ∃ mx : Nat, (if N1 < N2 then (N2 : Int) else (N1 : Int)) = (mx : Int) := ⟨max N1 N2, by split <;> omega⟩
      have HM := Lib.hid hmx
      have hmx1 : N1 ≤ mx := by split at hmx <;> omega
      have hmx2 : N2 ≤ mx := by split at hmx <;> omega
      have hmx3 : mx ≤ 100 := by split at hmx <;> omega
      have hmx4 : mx ≤ N1 ∨ mx ≤ N2 := by split at hmx <;> omega
      have H4 := Lib.hid (And.intro hbc4 (And.intro hbw4 (And.intro hR34 (And.intro hR4 (And.intro hel3 (And.intro hel4 (And.intro hok3 (And.intro hok4 hmx4))))))))
      clear hb4 hR4 hc4 hm4 hbc4 hbw4 hR34 hel3 hel4 hok3 hok4 hmx4 y0 y1 y2 hbk hbk' x0 x1 x2
      obtain ⟨i7, hi7, hy0, hy1, hy2⟩ := info_parts info47b
      have HI := Lib.hid (And.intro hi7 (And.intro hy0 (And.intro hy1 hy2)))
      clear hi7 hy0 hy1 hy2
      go_wp2_with fail
      go_loopw [13, 14, 15] (fun v i _ wr => ∃ (kq : Nat) (M : List Sec), kq ≤ mx ∧ i = .int .i64 kq ∧ M.length = kq ∧ Mixed L1 L2 M ∧ wr.ownsRow w4.heap.size 47 8 v kq (M.flatMap encS) ∧ Below w4.heap.size w4 wr) (fun _ i _ _ => mx - (intOf i).toNat)
      case atStart => exact ⟨0, [], by omega, rfl, rfl, Mixed.nil _ _, World.ownsRow_nil _ _ _ _, Below.refl _ _⟩
      case round =>
        obtain ⟨kq, M, hkq, rfl, hM, hMx, hown, hbr⟩ := hrel
        by_cases hkm : kq < mx
        · have hkm' : (kq : Int) < mx := by omega
          have HO := Lib.hid (And.intro hown hbr)
          have HO2 := Lib.hid (And.intro hM hMx)
          have hmx := HM.out
          have hfb : ¬ kq < nf ∨ ∃ bf, ∃ b0 o0, kq < nf ∧ F = some ⟨b0, o0, none⟩ ∧ wr.cell? ⟨b0, o0 + kq, none⟩ = some (.bool bf) := by
            by_cases hf : kq < nf
            · right
              obtain ⟨b0, o0, rfl, hb0, hc0⟩ := (HF.out.up H4.out.2.1).plain (by omega) (by omega)
              have hlf : fs.length = nf := by have := HF.out.1; rw [bools_len] at this; omega
              exact ⟨fs[kq], b0, o0, hf, rfl, (hbr.cell (p := ⟨b0, _, none⟩) hb0).trans (hc0 kq _ (bools_at fs kq (by omega)))⟩
            · exact Or.inl hf
          clear hown hM hMx
          by_cases t1 : kq < N1
          · by_cases t2 : kq < N2
            · skip
              have hl1 : kq < L1.length := by rw [H4.out.2.2.2.2.1]; exact t1
              obtain ⟨b1, o1, hA1, hb1, hc1⟩ := (H4.out.2.2.1).sec (by omega)
              subst hA1
              have hx1 := hc1 kq hl1
              obtain ⟨x, hxe1⟩ : ∃ x, L1[kq] = x := ⟨_, rfl⟩
              rw [hxe1] at hx1
              have g1 : ∀ j u, (encS x)[j]? = some u → wr.cell? ⟨b1, o1 + kq * 8 + j, none⟩ = some u := fun j u hu => by rw [Nat.add_assoc, Nat.mul_comm kq 8]; exact (hbr.cell (p := ⟨b1, _, none⟩) hb1).trans (hx1 j u hu)
              obtain ⟨d0, d1, d2, d3, d4, d5, d6, d7⟩ : wr.cell? ⟨b1, o1 + kq * 8, none⟩ = some (.int .u8 (x.a : Int)) ∧ wr.cell? ⟨b1, o1 + kq * 8 + 1, none⟩ = some (.int .u8 (x.b : Int)) ∧ wr.cell? ⟨b1, o1 + kq * 8 + 2, none⟩ = some (.int .u8 (x.c : Int)) ∧ wr.cell? ⟨b1, o1 + kq * 8 + 3, none⟩ = some (.int .u8 (x.d : Int)) ∧ wr.cell? ⟨b1, o1 + kq * 8 + 4, none⟩ = some (.int .u8 (x.e : Int)) ∧ wr.cell? ⟨b1, o1 + kq * 8 + 5, none⟩ = some (.int .u8 (x.f : Int)) ∧ wr.cell? ⟨b1, o1 + kq * 8 + 6, none⟩ = some (.int .u8 (x.g : Int)) ∧ wr.cell? ⟨b1, o1 + kq * 8 + 7, none⟩ = some (.int .u8 (x.h : Int)) := ⟨g1 0 _ rfl, g1 1 _ rfl, g1 2 _ rfl, g1 3 _ rfl, g1 4 _ rfl, g1 5 _ rfl, g1 6 _ rfl, g1 7 _ rfl⟩
              have hm1 : L1[M.length]? = some x := by rw [HO2.out.1, List.getElem?_eq_getElem hl1, hxe1]
              have HM1 := Lib.hid hm1
              clear hc1 hx1 g1 hxe1 hm1
              have t1' : (kq : Int) < N1 := by omega
              have hl2 : kq < L2.length := by rw [H4.out.2.2.2.2.2.1]; exact t2
              obtain ⟨b2, o2, hA2, hb2, hc2⟩ := (H4.out.2.2.2.1).sec (by omega)
              subst hA2
              have hx2 := hc2 kq hl2
              obtain ⟨y, hxe2⟩ : ∃ y, L2[kq] = y := ⟨_, rfl⟩
              rw [hxe2] at hx2
              have g2 : ∀ j u, (encS y)[j]? = some u → wr.cell? ⟨b2, o2 + kq * 8 + j, none⟩ = some u := fun j u hu => by rw [Nat.add_assoc, Nat.mul_comm kq 8]; exact (hbr.cell (p := ⟨b2, _, none⟩) hb2).trans (hx2 j u hu)
              obtain ⟨e0, e1, e2, e3, e4, e5, e6, e7⟩ : wr.cell? ⟨b2, o2 + kq * 8, none⟩ = some (.int .u8 (y.a : Int)) ∧ wr.cell? ⟨b2, o2 + kq * 8 + 1, none⟩ = some (.int .u8 (y.b : Int)) ∧ wr.cell? ⟨b2, o2 + kq * 8 + 2, none⟩ = some (.int .u8 (y.c : Int)) ∧ wr.cell? ⟨b2, o2 + kq * 8 + 3, none⟩ = some (.int .u8 (y.d : Int)) ∧ wr.cell? ⟨b2, o2 + kq * 8 + 4, none⟩ = some (.int .u8 (y.e : Int)) ∧ wr.cell? ⟨b2, o2 + kq * 8 + 5, none⟩ = some (.int .u8 (y.f : Int)) ∧ wr.cell? ⟨b2, o2 + kq * 8 + 6, none⟩ = some (.int .u8 (y.g : Int)) ∧ wr.cell? ⟨b2, o2 + kq * 8 + 7, none⟩ = some (.int .u8 (y.h : Int)) := ⟨g2 0 _ rfl, g2 1 _ rfl, g2 2 _ rfl, g2 3 _ rfl, g2 4 _ rfl, g2 5 _ rfl, g2 6 _ rfl, g2 7 _ rfl⟩
              have hm2 : L2[M.length]? = some y := by rw [HO2.out.1, List.getElem?_eq_getElem hl2, hxe2]
              have HM2 := Lib.hid hm2
              clear hc2 hx2 g2 hxe2 hm2
              have t2' : (kq : Int) < N2 := by omega
              rcases hfb with hf | ⟨bf, b0, o0, hf, rfl, hcf⟩
              · have hf' : ¬ (kq : Int) < nf := by omega
                go_wp2_with (at_builtin; go_must (refine wpList_append_elem wr rfl (.tmp 98) (.tmp 103) _ rfl w4.heap.size 47 i7 _ 8 8 Try.underlying28 HI.out.1 HI.out.2.1 HI.out.2.2.1 HI.out.2.2.2 rfl (by omega) u13 kq (M.flatMap encS) #[.int .u8 (x.a : Int), .int .u8 (x.b : Int), .int .u8 (x.c : Int), .int .u8 (x.d : Int), .int .u8 (x.e : Int), .int .u8 (x.f : Int), .int .u8 (x.g : Int), .int .u8 (x.h : Int)] rfl rfl rfl HO.out.1 (by simp [Value.oneCell']) (by simp only [maxLen]; omega) (by omega) HO.out.2.size ?_; intro v2 w2 hown2 hb2))
                go_roundw
                case rel => exact ⟨kq + 1, M ++ [x], by omega, by go_num, by rw [List.length_append, HO2.out.1]; rfl, HO2.out.2.snoc x (Or.inl HM1.out), by rw [List.flatMap_append]; exact hown2, HO.out.2.trans (hb2.mono (Nat.le_refl _))⟩
                case measure => simp [intOf]; omega
              · have hf' : (kq : Int) < nf := by omega
                cases bf
                · go_wp2_with (at_builtin; go_must (refine wpList_append_elem wr rfl (.tmp 98) (.tmp 103) _ rfl w4.heap.size 47 i7 _ 8 8 Try.underlying28 HI.out.1 HI.out.2.1 HI.out.2.2.1 HI.out.2.2.2 rfl (by omega) u13 kq (M.flatMap encS) #[.int .u8 (x.a : Int), .int .u8 (x.b : Int), .int .u8 (x.c : Int), .int .u8 (x.d : Int), .int .u8 (x.e : Int), .int .u8 (x.f : Int), .int .u8 (x.g : Int), .int .u8 (x.h : Int)] rfl rfl rfl HO.out.1 (by simp [Value.oneCell']) (by simp only [maxLen]; omega) (by omega) HO.out.2.size ?_; intro v2 w2 hown2 hb2))
                  go_roundw
                  case rel => exact ⟨kq + 1, M ++ [x], by omega, by go_num, by rw [List.length_append, HO2.out.1]; rfl, HO2.out.2.snoc x (Or.inl HM1.out), by rw [List.flatMap_append]; exact hown2, HO.out.2.trans (hb2.mono (Nat.le_refl _))⟩
                  case measure => simp [intOf]; omega
                · go_wp2_with (at_builtin; go_must (refine wpList_append_elem wr rfl (.tmp 91) (.tmp 96) _ rfl w4.heap.size 47 i7 _ 8 8 Try.underlying28 HI.out.1 HI.out.2.1 HI.out.2.2.1 HI.out.2.2.2 rfl (by omega) u13 kq (M.flatMap encS) #[.int .u8 (y.a : Int), .int .u8 (y.b : Int), .int .u8 (y.c : Int), .int .u8 (y.d : Int), .int .u8 (y.e : Int), .int .u8 (y.f : Int), .int .u8 (y.g : Int), .int .u8 (y.h : Int)] rfl rfl rfl HO.out.1 (by simp [Value.oneCell']) (by simp only [maxLen]; omega) (by omega) HO.out.2.size ?_; intro v2 w2 hown2 hb2))
                  go_roundw
                  case rel => exact ⟨kq + 1, M ++ [y], by omega, by go_num, by rw [List.length_append, HO2.out.1]; rfl, HO2.out.2.snoc y (Or.inr HM2.out), by rw [List.flatMap_append]; exact hown2, HO.out.2.trans (hb2.mono (Nat.le_refl _))⟩
                  case measure => simp [intOf]; omega
            · have t2' : ¬ (kq : Int) < N2 := by omega
              have hl1 : kq < L1.length := by rw [H4.out.2.2.2.2.1]; exact t1
              obtain ⟨b1, o1, hA1, hb1, hc1⟩ := (H4.out.2.2.1).sec (by omega)
              subst hA1
              have hx1 := hc1 kq hl1
              obtain ⟨x, hxe1⟩ : ∃ x, L1[kq] = x := ⟨_, rfl⟩
              rw [hxe1] at hx1
              have g1 : ∀ j u, (encS x)[j]? = some u → wr.cell? ⟨b1, o1 + kq * 8 + j, none⟩ = some u := fun j u hu => by rw [Nat.add_assoc, Nat.mul_comm kq 8]; exact (hbr.cell (p := ⟨b1, _, none⟩) hb1).trans (hx1 j u hu)
              obtain ⟨d0, d1, d2, d3, d4, d5, d6, d7⟩ : wr.cell? ⟨b1, o1 + kq * 8, none⟩ = some (.int .u8 (x.a : Int)) ∧ wr.cell? ⟨b1, o1 + kq * 8 + 1, none⟩ = some (.int .u8 (x.b : Int)) ∧ wr.cell? ⟨b1, o1 + kq * 8 + 2, none⟩ = some (.int .u8 (x.c : Int)) ∧ wr.cell? ⟨b1, o1 + kq * 8 + 3, none⟩ = some (.int .u8 (x.d : Int)) ∧ wr.cell? ⟨b1, o1 + kq * 8 + 4, none⟩ = some (.int .u8 (x.e : Int)) ∧ wr.cell? ⟨b1, o1 + kq * 8 + 5, none⟩ = some (.int .u8 (x.f : Int)) ∧ wr.cell? ⟨b1, o1 + kq * 8 + 6, none⟩ = some (.int .u8 (x.g : Int)) ∧ wr.cell? ⟨b1, o1 + kq * 8 + 7, none⟩ = some (.int .u8 (x.h : Int)) := ⟨g1 0 _ rfl, g1 1 _ rfl, g1 2 _ rfl, g1 3 _ rfl, g1 4 _ rfl, g1 5 _ rfl, g1 6 _ rfl, g1 7 _ rfl⟩
              have hm1 : L1[M.length]? = some x := by rw [HO2.out.1, List.getElem?_eq_getElem hl1, hxe1]
              have HM1 := Lib.hid hm1
              clear hc1 hx1 g1 hxe1 hm1
              have t1' : (kq : Int) < N1 := by omega
              rcases hfb with hf | ⟨bf, b0, o0, hf, rfl, hcf⟩
              · have hf' : ¬ (kq : Int) < nf := by omega
                go_wp2_with (at_builtin; go_must (refine wpList_append_elem wr rfl (.tmp 98) (.tmp 103) _ rfl w4.heap.size 47 i7 _ 8 8 Try.underlying28 HI.out.1 HI.out.2.1 HI.out.2.2.1 HI.out.2.2.2 rfl (by omega) u13 kq (M.flatMap encS) #[.int .u8 (x.a : Int), .int .u8 (x.b : Int), .int .u8 (x.c : Int), .int .u8 (x.d : Int), .int .u8 (x.e : Int), .int .u8 (x.f : Int), .int .u8 (x.g : Int), .int .u8 (x.h : Int)] rfl rfl rfl HO.out.1 (by simp [Value.oneCell']) (by simp only [maxLen]; omega) (by omega) HO.out.2.size ?_; intro v2 w2 hown2 hb2))
                go_roundw
                case rel => exact ⟨kq + 1, M ++ [x], by omega, by go_num, by rw [List.length_append, HO2.out.1]; rfl, HO2.out.2.snoc x (Or.inl HM1.out), by rw [List.flatMap_append]; exact hown2, HO.out.2.trans (hb2.mono (Nat.le_refl _))⟩
                case measure => simp [intOf]; omega
              · have hf' : (kq : Int) < nf := by omega
                cases bf
                · go_wp2_with (at_builtin; go_must (refine wpList_append_elem wr rfl (.tmp 98) (.tmp 103) _ rfl w4.heap.size 47 i7 _ 8 8 Try.underlying28 HI.out.1 HI.out.2.1 HI.out.2.2.1 HI.out.2.2.2 rfl (by omega) u13 kq (M.flatMap encS) #[.int .u8 (x.a : Int), .int .u8 (x.b : Int), .int .u8 (x.c : Int), .int .u8 (x.d : Int), .int .u8 (x.e : Int), .int .u8 (x.f : Int), .int .u8 (x.g : Int), .int .u8 (x.h : Int)] rfl rfl rfl HO.out.1 (by simp [Value.oneCell']) (by simp only [maxLen]; omega) (by omega) HO.out.2.size ?_; intro v2 w2 hown2 hb2))
                  go_roundw
                  case rel => exact ⟨kq + 1, M ++ [x], by omega, by go_num, by rw [List.length_append, HO2.out.1]; rfl, HO2.out.2.snoc x (Or.inl HM1.out), by rw [List.flatMap_append]; exact hown2, HO.out.2.trans (hb2.mono (Nat.le_refl _))⟩
                  case measure => simp [intOf]; omega
                · go_wp2_with (at_builtin; go_must (refine wpList_append_elem wr rfl (.tmp 98) (.tmp 103) _ rfl w4.heap.size 47 i7 _ 8 8 Try.underlying28 HI.out.1 HI.out.2.1 HI.out.2.2.1 HI.out.2.2.2 rfl (by omega) u13 kq (M.flatMap encS) #[.int .u8 (x.a : Int), .int .u8 (x.b : Int), .int .u8 (x.c : Int), .int .u8 (x.d : Int), .int .u8 (x.e : Int), .int .u8 (x.f : Int), .int .u8 (x.g : Int), .int .u8 (x.h : Int)] rfl rfl rfl HO.out.1 (by simp [Value.oneCell']) (by simp only [maxLen]; omega) (by omega) HO.out.2.size ?_; intro v2 w2 hown2 hb2))
                  go_roundw
                  case rel => exact ⟨kq + 1, M ++ [x], by omega, by go_num, by rw [List.length_append, HO2.out.1]; rfl, HO2.out.2.snoc x (Or.inl HM1.out), by rw [List.flatMap_append]; exact hown2, HO.out.2.trans (hb2.mono (Nat.le_refl _))⟩
                  case measure => simp [intOf]; omega
          · have t1' : ¬ (kq : Int) < N1 := by omega
            have t2 : kq < N2 := by have := H4.out.2.2.2.2.2.2.2.2; omega
            have hl2 : kq < L2.length := by rw [H4.out.2.2.2.2.2.1]; exact t2
            obtain ⟨b2, o2, hA2, hb2, hc2⟩ := (H4.out.2.2.2.1).sec (by omega)
            subst hA2
            have hx2 := hc2 kq hl2
            obtain ⟨y, hxe2⟩ : ∃ y, L2[kq] = y := ⟨_, rfl⟩
            rw [hxe2] at hx2
            have g2 : ∀ j u, (encS y)[j]? = some u → wr.cell? ⟨b2, o2 + kq * 8 + j, none⟩ = some u := fun j u hu => by rw [Nat.add_assoc, Nat.mul_comm kq 8]; exact (hbr.cell (p := ⟨b2, _, none⟩) hb2).trans (hx2 j u hu)
            obtain ⟨e0, e1, e2, e3, e4, e5, e6, e7⟩ : wr.cell? ⟨b2, o2 + kq * 8, none⟩ = some (.int .u8 (y.a : Int)) ∧ wr.cell? ⟨b2, o2 + kq * 8 + 1, none⟩ = some (.int .u8 (y.b : Int)) ∧ wr.cell? ⟨b2, o2 + kq * 8 + 2, none⟩ = some (.int .u8 (y.c : Int)) ∧ wr.cell? ⟨b2, o2 + kq * 8 + 3, none⟩ = some (.int .u8 (y.d : Int)) ∧ wr.cell? ⟨b2, o2 + kq * 8 + 4, none⟩ = some (.int .u8 (y.e : Int)) ∧ wr.cell? ⟨b2, o2 + kq * 8 + 5, none⟩ = some (.int .u8 (y.f : Int)) ∧ wr.cell? ⟨b2, o2 + kq * 8 + 6, none⟩ = some (.int .u8 (y.g : Int)) ∧ wr.cell? ⟨b2, o2 + kq * 8 + 7, none⟩ = some (.int .u8 (y.h : Int)) := ⟨g2 0 _ rfl, g2 1 _ rfl, g2 2 _ rfl, g2 3 _ rfl, g2 4 _ rfl, g2 5 _ rfl, g2 6 _ rfl, g2 7 _ rfl⟩
            have hm2 : L2[M.length]? = some y := by rw [HO2.out.1, List.getElem?_eq_getElem hl2, hxe2]
            have HM2 := Lib.hid hm2
            clear hc2 hx2 g2 hxe2 hm2
            have t2' : (kq : Int) < N2 := by omega
            rcases hfb with hf | ⟨bf, b0, o0, hf, rfl, hcf⟩
            · have hf' : ¬ (kq : Int) < nf := by omega
              go_wp2_with (at_builtin; go_must (refine wpList_append_elem wr rfl (.tmp 91) (.tmp 96) _ rfl w4.heap.size 47 i7 _ 8 8 Try.underlying28 HI.out.1 HI.out.2.1 HI.out.2.2.1 HI.out.2.2.2 rfl (by omega) u13 kq (M.flatMap encS) #[.int .u8 (y.a : Int), .int .u8 (y.b : Int), .int .u8 (y.c : Int), .int .u8 (y.d : Int), .int .u8 (y.e : Int), .int .u8 (y.f : Int), .int .u8 (y.g : Int), .int .u8 (y.h : Int)] rfl rfl rfl HO.out.1 (by simp [Value.oneCell']) (by simp only [maxLen]; omega) (by omega) HO.out.2.size ?_; intro v2 w2 hown2 hb2))
              go_roundw
              case rel => exact ⟨kq + 1, M ++ [y], by omega, by go_num, by rw [List.length_append, HO2.out.1]; rfl, HO2.out.2.snoc y (Or.inr HM2.out), by rw [List.flatMap_append]; exact hown2, HO.out.2.trans (hb2.mono (Nat.le_refl _))⟩
              case measure => simp [intOf]; omega
            · have hf' : (kq : Int) < nf := by omega
              cases bf
              · go_wp2_with (at_builtin; go_must (refine wpList_append_elem wr rfl (.tmp 91) (.tmp 96) _ rfl w4.heap.size 47 i7 _ 8 8 Try.underlying28 HI.out.1 HI.out.2.1 HI.out.2.2.1 HI.out.2.2.2 rfl (by omega) u13 kq (M.flatMap encS) #[.int .u8 (y.a : Int), .int .u8 (y.b : Int), .int .u8 (y.c : Int), .int .u8 (y.d : Int), .int .u8 (y.e : Int), .int .u8 (y.f : Int), .int .u8 (y.g : Int), .int .u8 (y.h : Int)] rfl rfl rfl HO.out.1 (by simp [Value.oneCell']) (by simp only [maxLen]; omega) (by omega) HO.out.2.size ?_; intro v2 w2 hown2 hb2))
                go_roundw
                case rel => exact ⟨kq + 1, M ++ [y], by omega, by go_num, by rw [List.length_append, HO2.out.1]; rfl, HO2.out.2.snoc y (Or.inr HM2.out), by rw [List.flatMap_append]; exact hown2, HO.out.2.trans (hb2.mono (Nat.le_refl _))⟩
                case measure => simp [intOf]; omega
              · go_wp2_with (at_builtin; go_must (refine wpList_append_elem wr rfl (.tmp 91) (.tmp 96) _ rfl w4.heap.size 47 i7 _ 8 8 Try.underlying28 HI.out.1 HI.out.2.1 HI.out.2.2.1 HI.out.2.2.2 rfl (by omega) u13 kq (M.flatMap encS) #[.int .u8 (y.a : Int), .int .u8 (y.b : Int), .int .u8 (y.c : Int), .int .u8 (y.d : Int), .int .u8 (y.e : Int), .int .u8 (y.f : Int), .int .u8 (y.g : Int), .int .u8 (y.h : Int)] rfl rfl rfl HO.out.1 (by simp [Value.oneCell']) (by simp only [maxLen]; omega) (by omega) HO.out.2.size ?_; intro v2 w2 hown2 hb2))
                go_roundw
                case rel => exact ⟨kq + 1, M ++ [y], by omega, by go_num, by rw [List.length_append, HO2.out.1]; rfl, HO2.out.2.snoc y (Or.inr HM2.out), by rw [List.flatMap_append]; exact hown2, HO.out.2.trans (hb2.mono (Nat.le_refl _))⟩
                case measure => simp [intOf]; omega
        · have hkm' : ¬ (kq : Int) < mx := by omega
          have hmx := HM.out
          obtain ⟨A5, c5, rfl, hc5, hm5, hR5⟩ := own_slice hown
          have hokM : ∀ s ∈ M, s.Ok := mixed_ok hMx H4.out.2.2.2.2.2.2.1 H4.out.2.2.2.2.2.2.2.1
          have hdm := HMX.out M hMx
          have HR5 := Lib.hid (And.intro hR5 (And.intro hbr (And.intro hM (And.intro hokM hc5))))
          have HDM := Lib.hid hdm
          clear hown hMx hR5 hbr hM hokM hdm
          go_wp2_with fail
          refine (Decode_any kq c5 A5 M wr HR5.out.1 (by omega) HR5.out.2.2.2.2 HR5.out.2.2.2.1).mono ?_
          rintro e w5 ⟨hb5, A6, c6, he, hR6, hc6, _, _⟩
          have hb45 : Below w4.heap.size w4 w5 := HR5.out.2.1.trans (hb5.mono HR5.out.2.1.size)
          have hbc5 : Below wc.heap.size wc w5 := H4.out.1.trans (hb45.mono H4.out.1.size)
          have hbw5 : Below w.heap.size w w5 := H4.out.2.1.trans (hb45.mono H4.out.2.1.size)
          rcases HDM.out with hd | hd | hd
          · subst he
            generalize decM M = D at *
            obtain ⟨de, dk, dq, dp, dn⟩ := D
            dsimp only at hd hR6 ⊢
            have hde : ((de : Int) == 0) = false := by rw [beq_eq_false_iff_ne]; omega
            have hde2 : ((de : Int) != 0) = true := by rw [bne, hde]; rfl
            have HDE := Lib.hid hd
            have hbx : Below w.heap.size w (w5.alloc (.cells #[.int .i64 dk, .int .i64 dq, .slice A6 dp.length c6] 27)) := hbw5.alloc hbw5.size _
            have HBX := Lib.hid hbx
            clear hbx hb45 hbc5 hbw5 hR6 hc6 hd hb5
            go_wp2_with fail
            refine (awake_any _).mono ?_
            rintro e w6 ⟨rfl, hb6⟩
            go_wp2_with fail
            go_ret
            exact ⟨rfl, HBX.out.trans (hb6.mono HBX.out.size)⟩
          · rw [hd] at he hR6 hc6
            dsimp only at he hR6 hc6
            rw [HD.out.2.2.1] at he hR6 hc6
            subst he
            have hbx : Below w5.heap.size w5 (w5.alloc (.cells #[.int .i64 (kk : Nat), .int .i64 (qq : Nat), .slice A6 n c6] 27)) := (Below.refl _ _).alloc (Nat.le_refl _) _
            have gx := Blk.new w5 27 #[.int .i64 (kk : Nat), .int .i64 (qq : Nat), .slice A6 n c6]
            have hsx : (w5.alloc (.cells #[.int .i64 (kk : Nat), .int .i64 (qq : Nat), .slice A6 n c6] 27)).heap.size = w5.heap.size + 1 := by simp
            have HW := Lib.hid (And.intro hbc5 (And.intro hbw5 (And.intro hR6 (And.intro hbx gx))))
            have hs45 := hbc5.size
            clear hb45 hbc5 hbw5 hR6 hc6 hd hb5 hbx gx
            go_wp2_with fail
            generalize (w5.alloc (.cells #[.int .i64 (kk : Nat), .int .i64 (qq : Nat), .slice A6 n c6] 27)) = W5 at *
            refine (awake_any _).mono ?_
            rintro e w6 ⟨rfl, hb6⟩
            have h56 : Below w5.heap.size w5 w6 := HW.out.2.2.2.1.trans (hb6.mono HW.out.2.2.2.1.size)
            have B5 := HW.out.2.2.2.2.below hb6 (by omega)
            have hc6 : Below wc.heap.size wc w6 := HW.out.1.trans (h56.mono HW.out.1.size)
            have Bg := HD.out.2.2.2.2.2.1.below hc6 lgc
            have Bh := HD.out.2.2.2.2.2.2.below hc6 lhc
            have hw6 : Below w.heap.size w w6 := HW.out.2.1.trans (h56.mono HW.out.2.1.size)
            have r0 : w6.cell? ⟨w5.heap.size, 0, none⟩ = some (.int .i64 (kk : Nat)) := B5.cell 0
            have r1 : w6.cell? ⟨w5.heap.size, 1, none⟩ = some (.int .i64 (qq : Nat)) := B5.cell 1
            have r2 : w6.cell? ⟨w5.heap.size, 2, none⟩ = some (.slice A6 n c6) := B5.cell 2
            have r3 : w6.cell? ⟨g, 0, none⟩ = some (.int .i64 (kk : Nat)) := Bg.cell 0
            have r4 : w6.cell? ⟨g, 1, none⟩ = some (.int .i64 (qq : Nat)) := Bg.cell 1
            have r5 : w6.cell? ⟨g, 2, none⟩ = some (.slice A n c) := Bg.cell 2
            have H6 := Lib.hid (And.intro hw6 (And.intro (HW.out.2.2.1.up h56) (And.intro (HC.out.2.1.up hw6) (And.intro (HC.out.2.2.up hw6) (And.intro B5 (And.intro Bh (And.intro B5.lt Bh.lt)))))))
            clear h56 B5 hc6 Bg Bh hw6 hb6
            go_wp2_with fail
            refine (Same_any (kk : Nat) (qq : Nat) (kk : Nat) (qq : Nat) n c6 n c A6 A p p w6 H6.out.2.1 H6.out.2.2.1).mono ?_
            rintro e w7 ⟨rfl, hb7⟩
            rw [sameB_refl]
            go_wp2_with fail
            go_ret
            exact ⟨rfl, H6.out.1.trans (hb7.mono H6.out.1.size)⟩
          · rw [hd] at he hR6 hc6
            dsimp only at he hR6 hc6
            rw [HD.out.2.2.2.1] at he hR6 hc6
            subst he
            have hbx : Below w5.heap.size w5 (w5.alloc (.cells #[.int .i64 (kk' : Nat), .int .i64 (Q2 : Nat), .slice A6 n' c6] 27)) := (Below.refl _ _).alloc (Nat.le_refl _) _
            have gx := Blk.new w5 27 #[.int .i64 (kk' : Nat), .int .i64 (Q2 : Nat), .slice A6 n' c6]
            have hsx : (w5.alloc (.cells #[.int .i64 (kk' : Nat), .int .i64 (Q2 : Nat), .slice A6 n' c6] 27)).heap.size = w5.heap.size + 1 := by simp
            have HW := Lib.hid (And.intro hbc5 (And.intro hbw5 (And.intro hR6 (And.intro hbx gx))))
            have hs45 := hbc5.size
            clear hb45 hbc5 hbw5 hR6 hc6 hd hb5 hbx gx
            go_wp2_with fail
            generalize (w5.alloc (.cells #[.int .i64 (kk' : Nat), .int .i64 (Q2 : Nat), .slice A6 n' c6] 27)) = W5 at *
            refine (awake_any _).mono ?_
            rintro e w6 ⟨rfl, hb6⟩
            have h56 : Below w5.heap.size w5 w6 := HW.out.2.2.2.1.trans (hb6.mono HW.out.2.2.2.1.size)
            have B5 := HW.out.2.2.2.2.below hb6 (by omega)
            have hc6 : Below wc.heap.size wc w6 := HW.out.1.trans (h56.mono HW.out.1.size)
            have Bg := HD.out.2.2.2.2.2.1.below hc6 lgc
            have Bh := HD.out.2.2.2.2.2.2.below hc6 lhc
            have hw6 : Below w.heap.size w w6 := HW.out.2.1.trans (h56.mono HW.out.2.1.size)
            have r0 : w6.cell? ⟨w5.heap.size, 0, none⟩ = some (.int .i64 (kk' : Nat)) := B5.cell 0
            have r1 : w6.cell? ⟨w5.heap.size, 1, none⟩ = some (.int .i64 (Q2 : Nat)) := B5.cell 1
            have r2 : w6.cell? ⟨w5.heap.size, 2, none⟩ = some (.slice A6 n' c6) := B5.cell 2
            have r3 : w6.cell? ⟨g, 0, none⟩ = some (.int .i64 (kk : Nat)) := Bg.cell 0
            have r4 : w6.cell? ⟨g, 1, none⟩ = some (.int .i64 (qq : Nat)) := Bg.cell 1
            have r5 : w6.cell? ⟨g, 2, none⟩ = some (.slice A n c) := Bg.cell 2
            have H6 := Lib.hid (And.intro hw6 (And.intro (HW.out.2.2.1.up h56) (And.intro (HC.out.2.1.up hw6) (And.intro (HC.out.2.2.up hw6) (And.intro B5 (And.intro Bh (And.intro B5.lt Bh.lt)))))))
            clear h56 B5 hc6 Bg Bh hw6 hb6
            go_wp2_with fail
            refine (Same_any (kk' : Nat) (Q2 : Nat) (kk : Nat) (qq : Nat) n' c6 n c A6 A p' p w6 H6.out.2.1 H6.out.2.2.1).mono ?_
            rintro e w7 ⟨rfl, hb7⟩
            have B7 := H6.out.2.2.2.2.1.below hb7 H6.out.2.2.2.2.2.2.1
            have Bh7 := H6.out.2.2.2.2.2.1.below hb7 H6.out.2.2.2.2.2.2.2
            have z0 : w7.cell? ⟨w5.heap.size, 0, none⟩ = some (.int .i64 (kk' : Nat)) := B7.cell 0
            have z1 : w7.cell? ⟨w5.heap.size, 1, none⟩ = some (.int .i64 (Q2 : Nat)) := B7.cell 1
            have z2 : w7.cell? ⟨w5.heap.size, 2, none⟩ = some (.slice A6 n' c6) := B7.cell 2
            have z3 : w7.cell? ⟨gh, 0, none⟩ = some (.int .i64 (kk' : Nat)) := Bh7.cell 0
            have z4 : w7.cell? ⟨gh, 1, none⟩ = some (.int .i64 (Q2 : Nat)) := Bh7.cell 1
            have z5 : w7.cell? ⟨gh, 2, none⟩ = some (.slice A' n' c') := Bh7.cell 2
            have H7 := Lib.hid (And.intro (H6.out.1.trans (hb7.mono H6.out.1.size)) (And.intro (H6.out.2.1.up hb7) (H6.out.2.2.2.1.up hb7)))
            clear B7 Bh7 hb7
            generalize sameB _ _ _ _ _ _ = bb
            cases bb
            · go_wp2_with fail
              refine (Same_any (kk' : Nat) (Q2 : Nat) (kk' : Nat) (Q2 : Nat) n' c6 n' c' A6 A' p' p' w7 H7.out.2.1 H7.out.2.2).mono ?_
              rintro e w8 ⟨rfl, hb8⟩
              rw [sameB_refl]
              go_wp2_with fail
              go_ret
              exact ⟨rfl, H7.out.1.trans (hb8.mono H7.out.1.size)⟩
            · go_wp2_with fail
              go_ret
              exact ⟨rfl, H7.out.1⟩
end Go.Proofs.Ytbiiahbhgjjhgaa
