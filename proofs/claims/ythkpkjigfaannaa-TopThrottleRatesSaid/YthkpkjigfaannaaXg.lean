/- The walk of the planner's plan, with a period of one and no delays. Condition: at most 40 cycles, each of at most 60 sectors. -/
import Derived.Test.YthkpkjigfaannaaLibY
import Derived.Test.YthkpkjigfaannaaXd
import Derived.Test.YthkpkjigfaannaaXe
import Derived.Test.YthkpkjigfaannaaXf
import Derived.Test.YthkpkjigfaannaaMathI
import Derived.Deep.CutRange
namespace Go.Proofs.Ythkpkjigfaannaa
open Go.RowKit
theorem Four.cell {n gp b o : Nat} {W0 W : World} {cp : Array Value} {v0 v1 v2 v3 : Value} {b0 b1 b2 b3 : Option Nat} {l0 l1 l2 l3 : List Int} (h : Four n gp W0 cp v0 v1 v2 v3 b0 b1 b2 b3 l0 l1 l2 l3 W) (hb : b < n) (hne : b ≠ gp) : W.cell? ⟨b, o, none⟩ = W0.cell? ⟨b, o, none⟩ := World.cell?_of_block (w := W0) (h.keep.block b hb hne)
/-- a plan with its bound -/
def PlanV (b : Int) (v : Value) : Prop := ∃ a0 n0 c0 a1 n1 c1 a2 n2 c2 a3 n3 c3, v = .agg #[.slice a0 n0 c0, .slice a1 n1 c1, .slice a2 n2 c2, .slice a3 n3 c3, .int .i64 b]
theorem info61 : (Try.prog.info? 61).map (·.size) = some 5 := by kernel_rfl
theorem cell_same {W W' : World} {b o : Nat} (h : W'.heap[b]? = W.heap[b]?) : W'.cell? ⟨b, o, none⟩ = W.cell? ⟨b, o, none⟩ := World.cell?_of_block (w := W) h
def clP (k : Nat) : List Int := (List.range k).map fun (i : Nat) => (i : Int) + 1
def apP (ws : List Int) (r : Int) (k : Nat) : List Int := (List.range k).map fun i => endP ws r (i + 1)
theorem clP_succ (k : Nat) : clP (k + 1) = clP k ++ [(k : Int) + 1] := by unfold clP; rw [List.range_succ, List.map_append]; rfl
theorem apP_succ (ws : List Int) (r : Int) (k : Nat) : apP ws r (k + 1) = apP ws r k ++ [endP ws r (k + 1)] := by unfold apP; rw [List.range_succ, List.map_append]; rfl
theorem endP_le {ws : List Int} {r : Int} (hw : ∀ k, 0 ≤ ws.getD k 0 ∧ ws.getD k 0 ≤ 60) (hr : 1 ≤ r) : ∀ k : Nat, 0 ≤ endP ws r k ∧ endP ws r k ≤ 61 * k
  | 0 => ⟨Int.le_refl _, by show (0 : Int) ≤ _; omega⟩
  | k + 1 => by
    obtain ⟨h1, h2⟩ := endP_le hw hr k
    obtain ⟨h3, h4⟩ := hw k
    have h5 : 0 ≤ (ws.getD k 0 + r - 1) / r := Int.ediv_nonneg (by omega) (by omega)
    have h6 : (ws.getD k 0 + r - 1) / r ≤ ws.getD k 0 := by
      rcases Int.lt_or_eq_of_le h3 with h | h
      · refine Int.ediv_le_of_le_mul (by omega) ?_
        have h8 : 0 ≤ (ws.getD k 0 - 1) * (r - 1) := Int.mul_nonneg (by omega) (by omega)
        rw [Int.sub_mul, Int.mul_sub, Int.one_mul, Int.mul_one] at h8
        omega
      · rw [← h]
        exact Int.le_of_eq (Int.ediv_eq_zero_of_lt (by omega) (by omega))
    rw [endP]
    omega
theorem clP_getD {m i : Nat} (h : i < m) : (clP m).getD i 0 = (i : Int) + 1 := by simp [clP, h]
theorem apP_getD {ws : List Int} {r : Int} {m i : Nat} (h : i < m) : (apP ws r m).getD i 0 = endP ws r (i + 1) := by simp [apP, h]
theorem clP_range {m : Nat} (hm : m ≤ 40 := by omega) : ∀ k, 0 ≤ (clP m).getD k 0 ∧ (clP m).getD k 0 ≤ 100000 := fun k => by
  by_cases h : k < m
  · rw [clP_getD h]; omega
  · rw [List.getD_eq_getElem?_getD, List.getElem?_eq_none (by simp [clP]; omega)]; exact ⟨Int.le_refl _, by decide⟩
theorem apP_range {ws : List Int} {r : Int} {m : Nat} (hw : ∀ k, 0 ≤ ws.getD k 0 ∧ ws.getD k 0 ≤ 60) (hr : 1 ≤ r) (hm : m ≤ 40) : ∀ k, 0 ≤ (apP ws r m).getD k 0 ∧ (apP ws r m).getD k 0 ≤ 100000 := fun k => by
  by_cases h : k < m
  · rw [apP_getD h]; have := endP_le hw hr (k + 1); omega
  · rw [List.getD_eq_getElem?_getD, List.getElem?_eq_none (by simp [apP]; omega)]; exact ⟨Int.le_refl _, by decide⟩
theorem bnd_law {ws : List Int} {r : Int} (m : Nat) : ∀ k, k ≤ m → bndF (clP m) (apP ws r m) k = (boundP ws r k, (k : Int))
  | 0, _ => rfl
  | k + 1, h => by
    rw [bndF, bnd_law m k (by omega), clP_getD (by omega), apP_getD (by omega), boundP]
    rcases Nat.eq_zero_or_pos k with h0 | h0
    · subst h0
      rw [if_pos (Or.inl rfl), if_pos (Or.inl rfl), apP_getD (show 0 < m by omega)]
      rfl
    · rw [apP_getD (by omega), show k - 1 + 1 = k by omega]
      refine Prod.ext ?_ (by dsimp only; omega)
      dsimp only
set_option maxRecDepth 100000 in
set_option maxHeartbeats 4000000 in
set_option linter.unusedSimpArgs false in
theorem plan_any (A : Option Addr) (m c g : Nat) (vc : Value) (r : Int) (ws : List Int) (w : World) (hR : RdI w A m ws) (hcm : m ≤ c) (hm : m ≤ 40) (hw : ∀ k, 0 ≤ ws.getD k 0 ∧ ws.getD k 0 ≤ 60) (hr : 1 ≤ r ∧ r ≤ 4096) (hC : CarI w g r) :
    Calls Try.prog 41 #[.agg #[.slice A m c, vc, .int .i64 1, .int .i64 0, .int .i64 0], .func (.func 43) #[.pointer (some ⟨g, 0, none⟩)] #[]] w fun e w' => (∃ v, PlanV (boundP ws r m) v ∧ e = .returned (.tuple #[v, .int .i64 0])) ∧ Below w.heap.size w w' := by
  obtain ⟨i0, hi0, hz0, hz1, hz2⟩ := info_parts info3f
  have HI := Lib.hid (And.intro hi0 (And.intro hz0 (And.intro hz1 hz2)))
  clear hi0 hz0 hz1 hz2
  have HSz := Lib.hid (fun w9 (h9 : Below w.heap.size w w9) => sizes_any A m c vc (.int .i64 0) (.int .i64 0) ws w9 (hR.up h9) hcm (by omega) (fun k => ⟨(hw k).1, by have := (hw k).2; omega⟩))
  have HC := Lib.hid (And.intro hw (And.intro hC hR.len))
  clear hw hC hR
  go_enter Try.func41, Try.ntmps41
  go_wp2_with fail
  obtain ⟨W, hW⟩ : ∃ W, ((w.alloc (.cells #[.slice A m c, vc, .int .i64 1, .int .i64 0, .int .i64 0] 65)).alloc (.cells #[.slice none 0 0, .slice none 0 0, .slice none 0 0, .slice none 0 0, .int .i64 0] 61)).alloc (.cells #[.slice none 0 0, .slice none 0 0, .slice none 0 0, .slice none 0 0, .int .i64 0] 61) = W := ⟨_, rfl⟩
  have hbw : Below w.heap.size w W := by rw [← hW]; exact (((Below.refl _ w).alloc (Nat.le_refl _) _).alloc (by simp) _).alloc (by simp; omega) _
  have hsW : W.heap.size = w.heap.size + 3 := by rw [← hW]; simp
  have ht : Blk W w.heap.size 65 #[.slice A m c, vc, .int .i64 1, .int .i64 0, .int .i64 0] := by rw [← hW]; exact ((Blk.new w 65 _).alloc _).alloc _
  have hr4 : Blk W (w.heap.size + 1) 61 #[.slice none 0 0, .slice none 0 0, .slice none 0 0, .slice none 0 0, .int .i64 0] := by
    have h := Blk.new (w.alloc (.cells #[.slice A m c, vc, .int .i64 1, .int .i64 0, .int .i64 0] 65)) 61 #[.slice none 0 0, .slice none 0 0, .slice none 0 0, .slice none 0 0, .int .i64 0]
    simp only [World.size_alloc] at h
    rw [← hW]
    exact h.alloc _
  have hp : Blk W (w.heap.size + 1 + 1) 61 #[.slice none 0 0, .slice none 0 0, .slice none 0 0, .slice none 0 0, .int .i64 0] := by
    have h := Blk.new ((w.alloc (.cells #[.slice A m c, vc, .int .i64 1, .int .i64 0, .int .i64 0] 65)).alloc (.cells #[.slice none 0 0, .slice none 0 0, .slice none 0 0, .slice none 0 0, .int .i64 0] 61)) 61 #[.slice none 0 0, .slice none 0 0, .slice none 0 0, .slice none 0 0, .int .i64 0]
    simp only [World.size_alloc] at h
    rw [← hW]
    exact h
  rw [hW]
  clear hW
  refine (HSz.out _ hbw).mono ?_
  rintro e w1 ⟨⟨A2, n2, c2, rfl, hR2, hfr⟩, hb1⟩
  obtain rfl : n2 = m := hR2.len.symm.trans HC.out.2.2
  obtain ⟨g2, f2, hg2, hc2⟩ := hR2.cells
  have hs1 := hb1.size
  have hfr2 : 0 < n2 → w.heap.size + 3 ≤ g2 := fun h => by
    have h1 := hfr _ (by rw [HC.out.2.2]; exact h) (hg2 (by rw [HC.out.2.2]; exact h)).1
    dsimp only at h1
    omega
  replace ht := ht.below hb1 (by omega)
  replace hr4 := hr4.below hb1 (by omega)
  replace hp := hp.below hb1 (by omega)
  replace hbw := hbw.trans (hb1.mono (by omega))
  have hlw : w.heap.size + 3 ≤ w1.heap.size := by omega
  have hF0 : Four w1.heap.size (w.heap.size + 1 + 1) w1 #[.slice none 0 0, .slice none 0 0, .slice none 0 0, .slice none 0 0, .int .i64 0] (.slice none 0 0) (.slice none 0 0) (.slice none 0 0) (.slice none 0 0) none none none none (clP 0) [] [] (apP ws r 0) w1 :=
    ⟨hp, Que.nil _ _ _, Que.nil _ _ _, Que.nil _ _ _, Que.nil _ _ _, (fun _ h => by cases h), (fun _ h => by cases h), (fun _ h => by cases h), (fun _ h => by cases h), (fun _ h => by cases h), (fun _ h => by cases h), KeepB.refl _ _ _, by omega, Nat.le_refl _⟩
  have HF0 := Lib.hid hF0
  have HX := Lib.hid (And.intro ht (And.intro hr4 (And.intro hbw (And.intro (HC.out.2.1.up hbw) (And.intro hg2 (And.intro hc2 hfr2))))))
  have HLW := Lib.hid hlw
  have HT3 := Lib.hid (And.intro (show w1.cell? ⟨w.heap.size, 3, none⟩ = some (.int .i64 0) from ht.cell 3) (And.intro (show w.heap.size < w1.heap.size by omega) (show w.heap.size ≠ w.heap.size + 1 + 1 by omega)))
  have HT4 := Lib.hid (And.intro (show w1.cell? ⟨w.heap.size, 4, none⟩ = some (.int .i64 0) from ht.cell 4) (And.intro (show w.heap.size < w1.heap.size by omega) (show w.heap.size ≠ w.heap.size + 1 + 1 by omega)))
  clear ht hr4 hp hbw hF0 hR2 hg2 hc2 hb1 hs1 hsW HSz hlw hfr hfr2
  go_wp2_with fail
  go_loopw [7, 8, 9, 10, 11, 12, 13, 17] (fun t7 t8 t9 t10 t11 t12 t13 t17 wr => ∃ (k : Nat) (v0 v1 v2 v3 : Value) (b0 b1 b2 b3 : Option Nat) (l1 l2 : List Int), k ≤ n2 ∧ t17 = .int .i64 k ∧ t7 = .int .i64 (endP ws r k) ∧ l1.length ≤ k ∧ l2.length ≤ k ∧
      Four w1.heap.size (w.heap.size + 1 + 1) w1 #[v0, v1, v2, v3, .int .i64 0] v0 v1 v2 v3 b0 b1 b2 b3 (clP k) l1 l2 (apP ws r k) wr) (fun _ _ _ _ _ _ _ i _ => n2 - (intOf i).toNat)
  case atStart => exact ⟨0, _, _, _, _, _, _, _, _, _, _, by omega, rfl, rfl, by simp, by simp, HF0.out⟩
  case round =>
    obtain ⟨k, v0, v1, v2, v3, b0, b1, b2, b3, l1, l2, hk, rfl, rfl, hl1, hl2, hF⟩ := hrel
    obtain ⟨hE0, hE1⟩ := endP_le HC.out.1 hr.1 k
    by_cases hlt : k < n2
    · have ik : (k : Int) < n2 := by omega
      obtain ⟨h1, h2, h3, h4, h5, h6, h7⟩ := HX.out
      have hln := HC.out.2.2
      obtain ⟨rfl, hg9⟩ := h5 (by omega)
      have hlow := HLW.out
      have hkb : Below w.heap.size w wr := h3.trans (hF.keep.to_below (by omega) (by omega))
      have hg8 := h7 (by omega)
      have kc : ∀ b o, b < w1.heap.size → b ≠ w.heap.size + 1 + 1 → wr.cell? ⟨b, o, none⟩ = w1.cell? ⟨b, o, none⟩ := fun b o q1 q2 => cell_same (hF.keep.block b q1 q2)
      have d0 : wr.cell? ⟨g2, f2 + k, none⟩ = some (.int .i64 (ws.getD k 0)) := (kc g2 _ hg9 (by omega)).trans (h6 k (by omega))
      have t2 : wr.cell? ⟨w.heap.size, 2, none⟩ = some (.int .i64 1) := (kc _ _ (by omega) (by omega)).trans (h1.cell 2)
      have hgC : CarI wr g r := by
        obtain ⟨A5, c5, q1, q2⟩ := HC.out.2.1
        exact (HC.out.2.1.up hkb)
      have hx := HC.out.1 k
      have HF := Lib.hid hF
      have HGC := Lib.hid hgC
      have HEN := Lib.hid (show endP ws r (k + 1) = max ((k : Int) + 1) (endP ws r k) + (ws.getD k 0 + r - 1) / r from rfl)
      generalize endP ws r k = E at *
      generalize ws.getD k 0 = x at *
      obtain ⟨st, hst⟩ : ∃ st, max ((k : Int) + 1) E = st := ⟨_, rfl⟩
      obtain ⟨en, hen⟩ : ∃ en, st + (x + r - 1) / r = en := ⟨_, rfl⟩
      clear h1 h2 h3 h4 h5 h6 h7 kc hkb hgC hF hln
      go_upto_region 7 with fail
      go_cut [11] from 18 to 71 (fun s11 wx => s11 = .int .i64 st ∧ wx = wr)
      case first =>
        rcases Int.lt_trichotomy ((k : Int) + 1) E with hq | hq | hq
        · go_wp2_with fail
          go_meet
          exact ⟨by rw [← hst, Int.max_eq_right (by omega)], rfl⟩
        · subst hq
          go_wp2_with fail
          go_meet
          exact ⟨by rw [← hst, Int.max_eq_right (by omega)], rfl⟩
        · go_wp2_with fail
          go_meet
          exact ⟨by rw [← hst, Int.max_eq_left (by omega)], rfl⟩
      case rest =>
        obtain ⟨rfl, rfl⟩ := hcut
        have hst2 : 1 ≤ st ∧ st ≤ 100000 := by omega
        have hEn := end_any g r st x wc HGC.out hr hst2 ⟨hx.1, by omega⟩
        rw [hen] at hEn
        have HEn := Lib.hid hEn
        have hen2 : 0 ≤ en ∧ en ≤ 100000 := by
          have h1 := HEN.out
          rw [hst, hen] at h1
          have h2 := endP_le HC.out.1 hr.1 (k + 1)
          rw [h1] at h2
          omega
        have HE2 := Lib.hid (show endP ws r (k + 1) = en by rw [HEN.out, hst, hen])
        clear hEn hst hen HEN
        obtain ⟨hen3, hen4⟩ := hen2
        obtain ⟨hst3, hst4⟩ := hst2
        go_wp2_with fail
        refine HEn.out.mono ?_
        rintro e w2 ⟨rfl, hb2⟩
        have hF2 := HF.out.up hb2
        replace HF := Lib.hid hF2
        clear hF2 HEn HGC hb2 t2 d0
        have hn0 : ((clP k).map (Value.int .i64)).length ≤ 1000000 := by simp [clP]; omega
        have hn1 : (l1.map (Value.int .i64)).length ≤ 1000000 := by simp; omega
        have hn2 : (l2.map (Value.int .i64)).length ≤ 1000000 := by simp; omega
        have hn3 : ((apP ws r k).map (Value.int .i64)).length ≤ 1000000 := by simp [apP]; omega
        go_upto_region 12 with fail
        go_cut [45] from 18 to 71 (fun s45 wx => ∃ x0 x1 y0 y1, Four w1.heap.size (w.heap.size + 1 + 1) w1 #[x0, x1, v2, v3, .int .i64 0] x0 x1 v2 v3 y0 y1 b2 b3 (clP k ++ [(k : Int) + 1]) (l1 ++ [st]) l2 (apP ws r k) wx)
        case first =>
          have hD := HF.out.up ((Below.refl _ w2).drew)
          refine wp_region_tail_lit (S := (fun w' => w'.cell? ⟨w.heap.size + 1 + 1, 0, none⟩ = some v0 ∧ w'.cell? ⟨w.heap.size + 1 + 1, 1, none⟩ = some v1)) 11 (by kernel_rfl) (by kernel_rfl) ⟨hD.p.cell 0, hD.p.cell 1⟩ (fun hHeld => ?_)
          clear hD
          simp only [List.take, List.drop]
          refine wpAnyH_take (i := 0) (oi := _) (v := ?_) rfl (by kernel_rfl) (by kernel_rfl) (by kernel_rfl) (fun _ _ _ h => h) (Or.inl ⟨by rfl, ?_⟩) (by assumption) ?_
          rotate_left 1
          · (intro w9 hS9; (try dsimp only at hS9); go_simp <;> with_reducible rfl)
          try simp only [List.getElem_toArray, List.getElem_cons_succ, List.getElem_cons_zero, Act.put, List.setIfInBounds_toArray, List.set_cons_zero, List.set_cons_succ]
          refine wpAnyH_take (i := 1) (oi := _) (v := ?_) rfl (by kernel_rfl) (by kernel_rfl) (by kernel_rfl) (fun _ _ _ h => h) (Or.inl ⟨by rfl, ?_⟩) (by assumption) ?_
          rotate_left 1
          · (intro w9 hS9; (try dsimp only at hS9); go_simp <;> with_reducible rfl)
          try simp only [List.getElem_toArray, List.getElem_cons_succ, List.getElem_cons_zero, Act.put, List.setIfInBounds_toArray, List.set_cons_zero, List.set_cons_succ]
          refine wpAnyH_take (i := 2) (oi := _) (v := ?_) rfl (by kernel_rfl) (by kernel_rfl) (by kernel_rfl) (fun _ _ _ h => h) (Or.inl ⟨by rfl, ?_⟩) (by assumption) ?_
          rotate_left 1
          · (intro w9 hS9; (try dsimp only at hS9); go_simp <;> with_reducible rfl)
          try simp only [List.getElem_toArray, List.getElem_cons_succ, List.getElem_cons_zero, Act.put, List.setIfInBounds_toArray, List.set_cons_zero, List.set_cons_succ]
          refine wpAnyH_take (i := 5) (oi := _) (v := ?_) rfl (by kernel_rfl) (by kernel_rfl) (by kernel_rfl) (fun _ _ _ h => h) (Or.inl ⟨by rfl, ?_⟩) (by assumption) ?_
          rotate_left 1
          · (intro w9 hS9; (try dsimp only at hS9); go_simp <;> with_reducible rfl)
          try simp only [List.getElem_toArray, List.getElem_cons_succ, List.getElem_cons_zero, Act.put, List.setIfInBounds_toArray, List.set_cons_zero, List.set_cons_succ]
          refine wpAnyH_take (i := 6) (oi := _) (v := ?_) rfl (by kernel_rfl) (by kernel_rfl) (by kernel_rfl) (fun _ _ _ h => h) (Or.inl ⟨by rfl, ?_⟩) (by assumption) ?_
          rotate_left 1
          · (intro w9 hS9; (try dsimp only at hS9); go_simp <;> with_reducible rfl)
          try simp only [List.getElem_toArray, List.getElem_cons_succ, List.getElem_cons_zero, Act.put, List.setIfInBounds_toArray, List.set_cons_zero, List.set_cons_succ]
          refine wpAnyH_take (i := 7) (oi := _) (v := ?_) rfl (by kernel_rfl) (by kernel_rfl) (by kernel_rfl) (fun _ _ _ h => h) (Or.inl ⟨by rfl, ?_⟩) (by assumption) ?_
          rotate_left 1
          · (intro w9 hS9; (try dsimp only at hS9); go_simp <;> with_reducible rfl)
          try simp only [List.getElem_toArray, List.getElem_cons_succ, List.getElem_cons_zero, Act.put, List.setIfInBounds_toArray, List.set_cons_zero, List.set_cons_succ]
          refine wpAnyH_ready (rs := [3, 8]) (by kernel_rfl) (by simp) ?_
          refine AllReadyH.cons (o := _) rfl (fun K hK => ?_) ?_
          · try simp only [List.getElem_toArray, List.getElem_cons_succ, List.getElem_cons_zero]
            go_simp
            obtain ⟨WbA, hW⟩ : ∃ W9, (w2.alloc (.cells #[.int .i64 ((k : Int) + 1)] 3)).drew = W9 := ⟨_, rfl⟩
            have hbn : Below w2.heap.size w2 WbA := by rw [← hW]; exact ((Below.refl _ w2).alloc (Nat.le_refl _) _).drew
            have k0bA : Blk WbA w2.heap.size 3 #[.int .i64 ((k : Int) + 1)] := by rw [← hW]; exact Blk.new _ _ _
            rw [hW]
            clear hW
            have hNbA := HF.out.up hbn
            have hzbA : w2.heap.size ≤ WbA.heap.size := hbn.size
            refine hK.out _ _ ⟨hNbA.p.cell 0, hNbA.p.cell 1⟩ (fun hHeld => ?_)
            clear hK K
            try simp only [List.getElem_toArray, List.getElem_cons_succ, List.getElem_cons_zero, Act.put, List.setIfInBounds_toArray, List.set_cons_zero, List.set_cons_succ]
            refine wpAnyH_ready (rs := [4, 8]) (by kernel_rfl) (by simp) ?_
            refine AllReadyH.cons (o := _) rfl (fun K hK => ?_) ?_
            · try simp only [List.getElem_toArray, List.getElem_cons_succ, List.getElem_cons_zero]
              rw [if_pos (show Region.wanted _ _ = true from rfl)]
              refine wp_append_queA _ (.tmp 42) (.tmp 44) _ (by rfl) 3 i0 _ 8 Try.underlying58 HI.out.1 HI.out.2.1 HI.out.2.2.1 HI.out.2.2.2 rfl w1.heap.size _ _ _ (w2.heap.size) (.int .i64 ((k : Int) + 1)) (by rfl) (by rfl) hNbA.q0 hNbA.nW k0bA rfl hn0 (by omega) ?_
              intro vbAaA bbAaA WbAaA h9 hgr hb9
              have hNbAaA := hNbA.app0 h9 hgr hb9
              obtain ⟨AbAaA, NbAaA, cbAaA, hv9⟩ := h9.form2
              subst hv9
              have hzbAaA : w2.heap.size ≤ WbAaA.heap.size := Nat.le_trans hzbA hgr.size
              refine hK.out _ _ ⟨hNbAaA.p.cell 0, hNbAaA.p.cell 1⟩ (fun hHeld => ?_)
              clear hK K
              try simp only [List.getElem_toArray, List.getElem_cons_succ, List.getElem_cons_zero, Act.put, List.setIfInBounds_toArray, List.set_cons_zero, List.set_cons_succ]
              refine wpAnyH_take (i := 10) (oi := _) (v := ?_) rfl (by kernel_rfl) (by kernel_rfl) (by kernel_rfl) (fun _ _ _ h => h) (Or.inl ⟨by rfl, ?_⟩) (by assumption) ?_
              rotate_left 1
              · (intro w9 hS9; (try dsimp only at hS9); go_simp <;> with_reducible rfl)
              try simp only [List.getElem_toArray, List.getElem_cons_succ, List.getElem_cons_zero, Act.put, List.setIfInBounds_toArray, List.set_cons_zero, List.set_cons_succ]
              refine wpAnyH_ready (rs := [8]) (by kernel_rfl) (by simp) ?_
              refine AllReadyH.cons (o := _) rfl (fun K hK => ?_) ?_
              · try simp only [List.getElem_toArray, List.getElem_cons_succ, List.getElem_cons_zero]
                go_simp
                obtain ⟨WbAaAbB, hW⟩ : ∃ W9, WbAaA.alloc (.cells #[.int .i64 st] 3) = W9 := ⟨_, rfl⟩
                have hbn : Below WbAaA.heap.size WbAaA WbAaAbB := by rw [← hW]; exact (Below.refl _ WbAaA).alloc (Nat.le_refl _) _
                have k1bAaAbB : Blk WbAaAbB WbAaA.heap.size 3 #[.int .i64 st] := by rw [← hW]; exact Blk.new _ _ _
                rw [hW]
                clear hW
                have hNbAaAbB := hNbAaA.up hbn
                have hzbAaAbB : w2.heap.size ≤ WbAaAbB.heap.size := Nat.le_trans hzbAaA hbn.size
                refine hK.out _ _ ⟨hNbAaAbB.p.cell 0, hNbAaAbB.p.cell 1⟩ (fun hHeld => ?_)
                clear hK K
                try simp only [List.getElem_toArray, List.getElem_cons_succ, List.getElem_cons_zero, Act.put, List.setIfInBounds_toArray, List.set_cons_zero, List.set_cons_succ]
                refine wpAnyH_ready (rs := [9]) (by kernel_rfl) (by simp) ?_
                refine AllReadyH.cons (o := _) rfl (fun K hK => ?_) ?_
                · try simp only [List.getElem_toArray, List.getElem_cons_succ, List.getElem_cons_zero]
                  rw [if_pos (show Region.wanted _ _ = true from rfl)]
                  refine wp_append_queA _ (.tmp 47) (.tmp 49) _ (by rfl) 3 i0 _ 8 Try.underlying58 HI.out.1 HI.out.2.1 HI.out.2.2.1 HI.out.2.2.2 rfl w1.heap.size _ _ _ (WbAaA.heap.size) (.int .i64 st) (by rfl) (by rfl) hNbAaAbB.q1 hNbAaAbB.nW k1bAaAbB rfl hn1 (by omega) ?_
                  intro vbAaAbBaB bbAaAbBaB WbAaAbBaB h9 hgr hb9
                  have hNbAaAbBaB := hNbAaAbB.app1 h9 hgr hb9
                  obtain ⟨AbAaAbBaB, NbAaAbBaB, cbAaAbBaB, hv9⟩ := h9.form2
                  subst hv9
                  have hzbAaAbBaB : w2.heap.size ≤ WbAaAbBaB.heap.size := Nat.le_trans hzbAaAbB hgr.size
                  refine hK.out _ _ ⟨hNbAaAbBaB.p.cell 0, hNbAaAbBaB.p.cell 1⟩ (fun hHeld => ?_)
                  clear hK K
                  try simp only [List.getElem_toArray, List.getElem_cons_succ, List.getElem_cons_zero, Act.put, List.setIfInBounds_toArray, List.set_cons_zero, List.set_cons_succ]
                  refine wpAnyH_done (by kernel_rfl) ?_ _
                  have zA := hNbAaAbBaB.p.frozen 0
                  have zB := hNbAaAbBaB.p.frozen 1
                  have eA := hNbAaAbBaB.p.cell 0
                  have eB := hNbAaAbBaB.p.cell 1
                  have lp := hNbAaAbBaB.p.lt
                  have HN := Lib.hid hNbAaAbBaB
                  refine tailQ_step rfl ?_
                  go_wp2_with fail
                  refine tailQ_step rfl ?_
                  go_wp2_with fail
                  refine tailQ_step rfl ?_
                  go_wp2_with fail
                  apply_assumption
                  go_meet
                  exact ⟨_, _, _, _, (HN.out.set 0 _).set 1 _⟩
                exact AllReadyH.nil
              exact AllReadyH.nil
            refine AllReadyH.cons (o := _) rfl (fun K hK => ?_) ?_
            · try simp only [List.getElem_toArray, List.getElem_cons_succ, List.getElem_cons_zero]
              go_simp
              obtain ⟨WbAbB, hW⟩ : ∃ W9, WbA.alloc (.cells #[.int .i64 st] 3) = W9 := ⟨_, rfl⟩
              have hbn : Below WbA.heap.size WbA WbAbB := by rw [← hW]; exact (Below.refl _ WbA).alloc (Nat.le_refl _) _
              have k1bAbB : Blk WbAbB WbA.heap.size 3 #[.int .i64 st] := by rw [← hW]; exact Blk.new _ _ _
              have k0bAbB := k0bA.below hbn k0bA.lt
              rw [hW]
              clear hW
              have hNbAbB := hNbA.up hbn
              have hzbAbB : w2.heap.size ≤ WbAbB.heap.size := Nat.le_trans hzbA hbn.size
              refine hK.out _ _ ⟨hNbAbB.p.cell 0, hNbAbB.p.cell 1⟩ (fun hHeld => ?_)
              clear hK K
              try simp only [List.getElem_toArray, List.getElem_cons_succ, List.getElem_cons_zero, Act.put, List.setIfInBounds_toArray, List.set_cons_zero, List.set_cons_succ]
              refine wpAnyH_ready (rs := [4]) (by kernel_rfl) (by simp) ?_
              refine AllReadyH.cons (o := _) rfl (fun K hK => ?_) ?_
              · try simp only [List.getElem_toArray, List.getElem_cons_succ, List.getElem_cons_zero]
                rw [if_pos (show Region.wanted _ _ = true from rfl)]
                refine wp_append_queA _ (.tmp 42) (.tmp 44) _ (by rfl) 3 i0 _ 8 Try.underlying58 HI.out.1 HI.out.2.1 HI.out.2.2.1 HI.out.2.2.2 rfl w1.heap.size _ _ _ (w2.heap.size) (.int .i64 ((k : Int) + 1)) (by rfl) (by rfl) hNbAbB.q0 hNbAbB.nW k0bAbB rfl hn0 (by omega) ?_
                intro vbAbBaA bbAbBaA WbAbBaA h9 hgr hb9
                have hNbAbBaA := hNbAbB.app0 h9 hgr hb9
                have k1bAbBaA := k1bAbB.grown hgr (fun e9 => by have h8 := (HF.out.q0.lt _ e9.symm).1; omega)
                obtain ⟨AbAbBaA, NbAbBaA, cbAbBaA, hv9⟩ := h9.form2
                subst hv9
                have hzbAbBaA : w2.heap.size ≤ WbAbBaA.heap.size := Nat.le_trans hzbAbB hgr.size
                refine hK.out _ _ ⟨hNbAbBaA.p.cell 0, hNbAbBaA.p.cell 1⟩ (fun hHeld => ?_)
                clear hK K
                try simp only [List.getElem_toArray, List.getElem_cons_succ, List.getElem_cons_zero, Act.put, List.setIfInBounds_toArray, List.set_cons_zero, List.set_cons_succ]
                refine wpAnyH_take (i := 10) (oi := _) (v := ?_) rfl (by kernel_rfl) (by kernel_rfl) (by kernel_rfl) (fun _ _ _ h => h) (Or.inl ⟨by rfl, ?_⟩) (by assumption) ?_
                rotate_left 1
                · (intro w9 hS9; (try dsimp only at hS9); go_simp <;> with_reducible rfl)
                try simp only [List.getElem_toArray, List.getElem_cons_succ, List.getElem_cons_zero, Act.put, List.setIfInBounds_toArray, List.set_cons_zero, List.set_cons_succ]
                refine wpAnyH_ready (rs := [9]) (by kernel_rfl) (by simp) ?_
                refine AllReadyH.cons (o := _) rfl (fun K hK => ?_) ?_
                · try simp only [List.getElem_toArray, List.getElem_cons_succ, List.getElem_cons_zero]
                  rw [if_pos (show Region.wanted _ _ = true from rfl)]
                  refine wp_append_queA _ (.tmp 47) (.tmp 49) _ (by rfl) 3 i0 _ 8 Try.underlying58 HI.out.1 HI.out.2.1 HI.out.2.2.1 HI.out.2.2.2 rfl w1.heap.size _ _ _ (WbA.heap.size) (.int .i64 st) (by rfl) (by rfl) hNbAbBaA.q1 hNbAbBaA.nW k1bAbBaA rfl hn1 (by omega) ?_
                  intro vbAbBaAaB bbAbBaAaB WbAbBaAaB h9 hgr hb9
                  have hNbAbBaAaB := hNbAbBaA.app1 h9 hgr hb9
                  obtain ⟨AbAbBaAaB, NbAbBaAaB, cbAbBaAaB, hv9⟩ := h9.form2
                  subst hv9
                  have hzbAbBaAaB : w2.heap.size ≤ WbAbBaAaB.heap.size := Nat.le_trans hzbAbBaA hgr.size
                  refine hK.out _ _ ⟨hNbAbBaAaB.p.cell 0, hNbAbBaAaB.p.cell 1⟩ (fun hHeld => ?_)
                  clear hK K
                  try simp only [List.getElem_toArray, List.getElem_cons_succ, List.getElem_cons_zero, Act.put, List.setIfInBounds_toArray, List.set_cons_zero, List.set_cons_succ]
                  refine wpAnyH_done (by kernel_rfl) ?_ _
                  have zA := hNbAbBaAaB.p.frozen 0
                  have zB := hNbAbBaAaB.p.frozen 1
                  have eA := hNbAbBaAaB.p.cell 0
                  have eB := hNbAbBaAaB.p.cell 1
                  have lp := hNbAbBaAaB.p.lt
                  have HN := Lib.hid hNbAbBaAaB
                  refine tailQ_step rfl ?_
                  go_wp2_with fail
                  refine tailQ_step rfl ?_
                  go_wp2_with fail
                  refine tailQ_step rfl ?_
                  go_wp2_with fail
                  apply_assumption
                  go_meet
                  exact ⟨_, _, _, _, (HN.out.set 0 _).set 1 _⟩
                exact AllReadyH.nil
              exact AllReadyH.nil
            exact AllReadyH.nil
          refine AllReadyH.cons (o := _) rfl (fun K hK => ?_) ?_
          · try simp only [List.getElem_toArray, List.getElem_cons_succ, List.getElem_cons_zero]
            go_simp
            obtain ⟨WbB, hW⟩ : ∃ W9, (w2.alloc (.cells #[.int .i64 st] 3)).drew = W9 := ⟨_, rfl⟩
            have hbn : Below w2.heap.size w2 WbB := by rw [← hW]; exact ((Below.refl _ w2).alloc (Nat.le_refl _) _).drew
            have k1bB : Blk WbB w2.heap.size 3 #[.int .i64 st] := by rw [← hW]; exact Blk.new _ _ _
            rw [hW]
            clear hW
            have hNbB := HF.out.up hbn
            have hzbB : w2.heap.size ≤ WbB.heap.size := hbn.size
            refine hK.out _ _ ⟨hNbB.p.cell 0, hNbB.p.cell 1⟩ (fun hHeld => ?_)
            clear hK K
            try simp only [List.getElem_toArray, List.getElem_cons_succ, List.getElem_cons_zero, Act.put, List.setIfInBounds_toArray, List.set_cons_zero, List.set_cons_succ]
            refine wpAnyH_ready (rs := [3]) (by kernel_rfl) (by simp) ?_
            refine AllReadyH.cons (o := _) rfl (fun K hK => ?_) ?_
            · try simp only [List.getElem_toArray, List.getElem_cons_succ, List.getElem_cons_zero]
              go_simp
              obtain ⟨WbBbA, hW⟩ : ∃ W9, WbB.alloc (.cells #[.int .i64 ((k : Int) + 1)] 3) = W9 := ⟨_, rfl⟩
              have hbn : Below WbB.heap.size WbB WbBbA := by rw [← hW]; exact (Below.refl _ WbB).alloc (Nat.le_refl _) _
              have k0bBbA : Blk WbBbA WbB.heap.size 3 #[.int .i64 ((k : Int) + 1)] := by rw [← hW]; exact Blk.new _ _ _
              have k1bBbA := k1bB.below hbn k1bB.lt
              rw [hW]
              clear hW
              have hNbBbA := hNbB.up hbn
              have hzbBbA : w2.heap.size ≤ WbBbA.heap.size := Nat.le_trans hzbB hbn.size
              refine hK.out _ _ ⟨hNbBbA.p.cell 0, hNbBbA.p.cell 1⟩ (fun hHeld => ?_)
              clear hK K
              try simp only [List.getElem_toArray, List.getElem_cons_succ, List.getElem_cons_zero, Act.put, List.setIfInBounds_toArray, List.set_cons_zero, List.set_cons_succ]
              refine wpAnyH_ready (rs := [4]) (by kernel_rfl) (by simp) ?_
              refine AllReadyH.cons (o := _) rfl (fun K hK => ?_) ?_
              · try simp only [List.getElem_toArray, List.getElem_cons_succ, List.getElem_cons_zero]
                rw [if_pos (show Region.wanted _ _ = true from rfl)]
                refine wp_append_queA _ (.tmp 42) (.tmp 44) _ (by rfl) 3 i0 _ 8 Try.underlying58 HI.out.1 HI.out.2.1 HI.out.2.2.1 HI.out.2.2.2 rfl w1.heap.size _ _ _ (WbB.heap.size) (.int .i64 ((k : Int) + 1)) (by rfl) (by rfl) hNbBbA.q0 hNbBbA.nW k0bBbA rfl hn0 (by omega) ?_
                intro vbBbAaA bbBbAaA WbBbAaA h9 hgr hb9
                have hNbBbAaA := hNbBbA.app0 h9 hgr hb9
                have k1bBbAaA := k1bBbA.grown hgr (fun e9 => by have h8 := (HF.out.q0.lt _ e9.symm).1; omega)
                obtain ⟨AbBbAaA, NbBbAaA, cbBbAaA, hv9⟩ := h9.form2
                subst hv9
                have hzbBbAaA : w2.heap.size ≤ WbBbAaA.heap.size := Nat.le_trans hzbBbA hgr.size
                refine hK.out _ _ ⟨hNbBbAaA.p.cell 0, hNbBbAaA.p.cell 1⟩ (fun hHeld => ?_)
                clear hK K
                try simp only [List.getElem_toArray, List.getElem_cons_succ, List.getElem_cons_zero, Act.put, List.setIfInBounds_toArray, List.set_cons_zero, List.set_cons_succ]
                refine wpAnyH_take (i := 10) (oi := _) (v := ?_) rfl (by kernel_rfl) (by kernel_rfl) (by kernel_rfl) (fun _ _ _ h => h) (Or.inl ⟨by rfl, ?_⟩) (by assumption) ?_
                rotate_left 1
                · (intro w9 hS9; (try dsimp only at hS9); go_simp <;> with_reducible rfl)
                try simp only [List.getElem_toArray, List.getElem_cons_succ, List.getElem_cons_zero, Act.put, List.setIfInBounds_toArray, List.set_cons_zero, List.set_cons_succ]
                refine wpAnyH_ready (rs := [9]) (by kernel_rfl) (by simp) ?_
                refine AllReadyH.cons (o := _) rfl (fun K hK => ?_) ?_
                · try simp only [List.getElem_toArray, List.getElem_cons_succ, List.getElem_cons_zero]
                  rw [if_pos (show Region.wanted _ _ = true from rfl)]
                  refine wp_append_queA _ (.tmp 47) (.tmp 49) _ (by rfl) 3 i0 _ 8 Try.underlying58 HI.out.1 HI.out.2.1 HI.out.2.2.1 HI.out.2.2.2 rfl w1.heap.size _ _ _ (w2.heap.size) (.int .i64 st) (by rfl) (by rfl) hNbBbAaA.q1 hNbBbAaA.nW k1bBbAaA rfl hn1 (by omega) ?_
                  intro vbBbAaAaB bbBbAaAaB WbBbAaAaB h9 hgr hb9
                  have hNbBbAaAaB := hNbBbAaA.app1 h9 hgr hb9
                  obtain ⟨AbBbAaAaB, NbBbAaAaB, cbBbAaAaB, hv9⟩ := h9.form2
                  subst hv9
                  have hzbBbAaAaB : w2.heap.size ≤ WbBbAaAaB.heap.size := Nat.le_trans hzbBbAaA hgr.size
                  refine hK.out _ _ ⟨hNbBbAaAaB.p.cell 0, hNbBbAaAaB.p.cell 1⟩ (fun hHeld => ?_)
                  clear hK K
                  try simp only [List.getElem_toArray, List.getElem_cons_succ, List.getElem_cons_zero, Act.put, List.setIfInBounds_toArray, List.set_cons_zero, List.set_cons_succ]
                  refine wpAnyH_done (by kernel_rfl) ?_ _
                  have zA := hNbBbAaAaB.p.frozen 0
                  have zB := hNbBbAaAaB.p.frozen 1
                  have eA := hNbBbAaAaB.p.cell 0
                  have eB := hNbBbAaAaB.p.cell 1
                  have lp := hNbBbAaAaB.p.lt
                  have HN := Lib.hid hNbBbAaAaB
                  refine tailQ_step rfl ?_
                  go_wp2_with fail
                  refine tailQ_step rfl ?_
                  go_wp2_with fail
                  refine tailQ_step rfl ?_
                  go_wp2_with fail
                  apply_assumption
                  go_meet
                  exact ⟨_, _, _, _, (HN.out.set 0 _).set 1 _⟩
                exact AllReadyH.nil
              exact AllReadyH.nil
            exact AllReadyH.nil
          exact AllReadyH.nil
        case rest =>
          obtain ⟨x0, x1, y0, y1, hF3⟩ := hcut
          replace HF := Lib.hid hF3
          clear hF3 hn0 hn1
          have t3 := (HF.out.cell (b := w.heap.size) (o := 3) HT3.out.2.1 HT3.out.2.2).trans HT3.out.1
          have t4 := (HF.out.cell (b := w.heap.size) (o := 4) HT4.out.2.1 HT4.out.2.2).trans HT4.out.1
          have e2 := HF.out.p.cell 2
          have e3 := HF.out.p.cell 3
          have hwe : IntKind.i64.wrap en = en := IntWalk.i64_in _ (by omega)
          clear e2 e3 t3 t4
          go_upto_region 13 with fail
          have hD := HF.out.up ((Below.refl _ wc).drew)
          refine wp_region_tail_lit (S := (fun w' => w'.cell? ⟨w.heap.size + 1 + 1, 2, none⟩ = some v2 ∧ w'.cell? ⟨w.heap.size + 1 + 1, 3, none⟩ = some v3 ∧ w'.cell? ⟨w.heap.size, 3, none⟩ = some (.int .i64 0) ∧ w'.cell? ⟨w.heap.size, 4, none⟩ = some (.int .i64 0))) 17 (by kernel_rfl) (by kernel_rfl) ⟨hD.p.cell 2, hD.p.cell 3, (hD.cell (b := w.heap.size) (o := 3) HT3.out.2.1 HT3.out.2.2).trans HT3.out.1, (hD.cell (b := w.heap.size) (o := 4) HT4.out.2.1 HT4.out.2.2).trans HT4.out.1⟩ (fun hHeld => ?_)
          clear hD
          simp only [List.take, List.drop]
          refine wpAnyH_take (i := 0) (oi := _) (v := ?_) rfl (by kernel_rfl) (by kernel_rfl) (by kernel_rfl) (fun _ _ _ h => h) (Or.inl ⟨by rfl, ?_⟩) (by assumption) ?_
          rotate_left 1
          · (intro w9 hS9; (try dsimp only at hS9); go_simp <;> with_reducible rfl)
          try simp only [List.getElem_toArray, List.getElem_cons_succ, List.getElem_cons_zero, Act.put, List.setIfInBounds_toArray, List.set_cons_zero, List.set_cons_succ]
          refine wpAnyH_take (i := 1) (oi := _) (v := ?_) rfl (by kernel_rfl) (by kernel_rfl) (by kernel_rfl) (fun _ _ _ h => h) (Or.inl ⟨by rfl, ?_⟩) (by assumption) ?_
          rotate_left 1
          · (intro w9 hS9; (try dsimp only at hS9); go_simp <;> with_reducible rfl)
          try simp only [List.getElem_toArray, List.getElem_cons_succ, List.getElem_cons_zero, Act.put, List.setIfInBounds_toArray, List.set_cons_zero, List.set_cons_succ]
          refine wpAnyH_take (i := 2) (oi := _) (v := ?_) rfl (by kernel_rfl) (by kernel_rfl) (by kernel_rfl) (fun _ _ _ h => h) (Or.inl ⟨by rfl, ?_⟩) (by assumption) ?_
          rotate_left 1
          · (intro w9 hS9; (try dsimp only at hS9); go_simp <;> with_reducible rfl)
          try simp only [List.getElem_toArray, List.getElem_cons_succ, List.getElem_cons_zero, Act.put, List.setIfInBounds_toArray, List.set_cons_zero, List.set_cons_succ]
          refine wpAnyH_take (i := 5) (oi := _) (v := ?_) rfl (by kernel_rfl) (by kernel_rfl) (by kernel_rfl) (fun _ _ _ h => h) (Or.inl ⟨by rfl, ?_⟩) (by assumption) ?_
          rotate_left 1
          · (intro w9 hS9; (try dsimp only at hS9); go_simp <;> with_reducible rfl)
          try simp only [List.getElem_toArray, List.getElem_cons_succ, List.getElem_cons_zero, Act.put, List.setIfInBounds_toArray, List.set_cons_zero, List.set_cons_succ]
          refine wpAnyH_take (i := 6) (oi := _) (v := ?_) rfl (by kernel_rfl) (by kernel_rfl) (by kernel_rfl) (fun _ _ _ h => h) (Or.inl ⟨by rfl, ?_⟩) (by assumption) ?_
          rotate_left 1
          · (intro w9 hS9; (try dsimp only at hS9); go_simp <;> with_reducible rfl)
          try simp only [List.getElem_toArray, List.getElem_cons_succ, List.getElem_cons_zero, Act.put, List.setIfInBounds_toArray, List.set_cons_zero, List.set_cons_succ]
          refine wpAnyH_take (i := 7) (oi := _) (v := ?_) rfl (by kernel_rfl) (by kernel_rfl) (by kernel_rfl) (fun _ _ _ h => h) (Or.inl ⟨by rfl, ?_⟩) (by assumption) ?_
          rotate_left 1
          · (intro w9 hS9; (try dsimp only at hS9); go_simp <;> with_reducible rfl)
          try simp only [List.getElem_toArray, List.getElem_cons_succ, List.getElem_cons_zero, Act.put, List.setIfInBounds_toArray, List.set_cons_zero, List.set_cons_succ]
          refine wpAnyH_take (i := 8) (oi := _) (v := ?_) rfl (by kernel_rfl) (by kernel_rfl) (by kernel_rfl) (fun _ _ _ h => h) (Or.inl ⟨by rfl, ?_⟩) (by assumption) ?_
          rotate_left 1
          · (intro w9 hS9; (try dsimp only at hS9); go_simp <;> with_reducible rfl)
          try simp only [List.getElem_toArray, List.getElem_cons_succ, List.getElem_cons_zero, Act.put, List.setIfInBounds_toArray, List.set_cons_zero, List.set_cons_succ]
          refine wpAnyH_take (i := 9) (oi := _) (v := ?_) rfl (by kernel_rfl) (by kernel_rfl) (by kernel_rfl) (fun _ _ _ h => h) (Or.inl ⟨by rfl, ?_⟩) (by assumption) ?_
          rotate_left 1
          · (intro w9 hS9; (try dsimp only at hS9); go_simp <;> with_reducible rfl)
          try simp only [List.getElem_toArray, List.getElem_cons_succ, List.getElem_cons_zero, Act.put, List.setIfInBounds_toArray, List.set_cons_zero, List.set_cons_succ]
          refine wpAnyH_take (i := 10) (oi := _) (v := ?_) rfl (by kernel_rfl) (by kernel_rfl) (by kernel_rfl) (fun _ _ _ h => h) (Or.inl ⟨by rfl, ?_⟩) (by assumption) ?_
          rotate_left 1
          · (intro w9 hS9; (try dsimp only at hS9); go_simp <;> with_reducible rfl)
          try simp only [List.getElem_toArray, List.getElem_cons_succ, List.getElem_cons_zero, Act.put, List.setIfInBounds_toArray, List.set_cons_zero, List.set_cons_succ]
          refine wpAnyH_take (i := 11) (oi := _) (v := ?_) rfl (by kernel_rfl) (by kernel_rfl) (by kernel_rfl) (fun _ _ _ h => h) (Or.inl ⟨by rfl, ?_⟩) (by assumption) ?_
          rotate_left 1
          · (intro w9 hS9; (try dsimp only at hS9); go_simp <;> with_reducible rfl)
          try simp only [List.getElem_toArray, List.getElem_cons_succ, List.getElem_cons_zero, Act.put, List.setIfInBounds_toArray, List.set_cons_zero, List.set_cons_succ]
          refine wpAnyH_take (i := 12) (oi := _) (v := ?_) rfl (by kernel_rfl) (by kernel_rfl) (by kernel_rfl) (fun _ _ _ h => h) (Or.inl ⟨by rfl, ?_⟩) (by assumption) ?_
          rotate_left 1
          · (intro w9 hS9; (try dsimp only at hS9); go_simp <;> with_reducible rfl)
          try simp only [List.getElem_toArray, List.getElem_cons_succ, List.getElem_cons_zero, Act.put, List.setIfInBounds_toArray, List.set_cons_zero, List.set_cons_succ]
          refine wpAnyH_take (i := 13) (oi := _) (v := ?_) rfl (by kernel_rfl) (by kernel_rfl) (by kernel_rfl) (fun _ _ _ h => h) (Or.inl ⟨by rfl, ?_⟩) (by assumption) ?_
          rotate_left 1
          · (intro w9 hS9; (try dsimp only at hS9); go_simp <;> with_reducible rfl)
          try simp only [List.getElem_toArray, List.getElem_cons_succ, List.getElem_cons_zero, Act.put, List.setIfInBounds_toArray, List.set_cons_zero, List.set_cons_succ]
          refine wpAnyH_ready (rs := [3, 14]) (by kernel_rfl) (by simp) ?_
          refine AllReadyH.cons (o := _) rfl (fun K hK => ?_) ?_
          · try simp only [List.getElem_toArray, List.getElem_cons_succ, List.getElem_cons_zero]
            go_simp
            obtain ⟨WbA, hW⟩ : ∃ W9, (wc.alloc (.cells #[.int .i64 en] 3)).drew = W9 := ⟨_, rfl⟩
            have hbn : Below wc.heap.size wc WbA := by rw [← hW]; exact ((Below.refl _ wc).alloc (Nat.le_refl _) _).drew
            have k0bA : Blk WbA wc.heap.size 3 #[.int .i64 en] := by rw [← hW]; exact Blk.new _ _ _
            rw [hW]
            clear hW
            have hNbA := HF.out.up hbn
            have hzbA : wc.heap.size ≤ WbA.heap.size := hbn.size
            refine hK.out _ _ ⟨hNbA.p.cell 2, hNbA.p.cell 3, (hNbA.cell (b := w.heap.size) (o := 3) HT3.out.2.1 HT3.out.2.2).trans HT3.out.1, (hNbA.cell (b := w.heap.size) (o := 4) HT4.out.2.1 HT4.out.2.2).trans HT4.out.1⟩ (fun hHeld => ?_)
            clear hK K
            try simp only [List.getElem_toArray, List.getElem_cons_succ, List.getElem_cons_zero, Act.put, List.setIfInBounds_toArray, List.set_cons_zero, List.set_cons_succ]
            refine wpAnyH_ready (rs := [4, 14]) (by kernel_rfl) (by simp) ?_
            refine AllReadyH.cons (o := _) rfl (fun K hK => ?_) ?_
            · try simp only [List.getElem_toArray, List.getElem_cons_succ, List.getElem_cons_zero]
              rw [if_pos (show Region.wanted _ _ = true from rfl)]
              refine wp_append_queA _ (.tmp 54) (.tmp 56) _ (by rfl) 3 i0 _ 8 Try.underlying58 HI.out.1 HI.out.2.1 HI.out.2.2.1 HI.out.2.2.2 rfl w1.heap.size _ _ _ (wc.heap.size) (.int .i64 en) (by rfl) (by rfl) hNbA.q2 hNbA.nW k0bA rfl hn2 (by omega) ?_
              intro vbAaA bbAaA WbAaA h9 hgr hb9
              have hNbAaA := hNbA.app2 h9 hgr hb9
              obtain ⟨AbAaA, NbAaA, cbAaA, hv9⟩ := h9.form2
              subst hv9
              have hzbAaA : wc.heap.size ≤ WbAaA.heap.size := Nat.le_trans hzbA hgr.size
              refine hK.out _ _ ⟨hNbAaA.p.cell 2, hNbAaA.p.cell 3, (hNbAaA.cell (b := w.heap.size) (o := 3) HT3.out.2.1 HT3.out.2.2).trans HT3.out.1, (hNbAaA.cell (b := w.heap.size) (o := 4) HT4.out.2.1 HT4.out.2.2).trans HT4.out.1⟩ (fun hHeld => ?_)
              clear hK K
              try simp only [List.getElem_toArray, List.getElem_cons_succ, List.getElem_cons_zero, Act.put, List.setIfInBounds_toArray, List.set_cons_zero, List.set_cons_succ]
              refine wpAnyH_take (i := 16) (oi := _) (v := ?_) rfl (by kernel_rfl) (by kernel_rfl) (by kernel_rfl) (fun _ _ _ h => h) (Or.inl ⟨by rfl, ?_⟩) (by assumption) ?_
              rotate_left 1
              · (intro w9 hS9; (try dsimp only at hS9); go_simp <;> with_reducible rfl)
              try simp only [List.getElem_toArray, List.getElem_cons_succ, List.getElem_cons_zero, Act.put, List.setIfInBounds_toArray, List.set_cons_zero, List.set_cons_succ]
              refine wpAnyH_ready (rs := [14]) (by kernel_rfl) (by simp) ?_
              refine AllReadyH.cons (o := _) rfl (fun K hK => ?_) ?_
              · try simp only [List.getElem_toArray, List.getElem_cons_succ, List.getElem_cons_zero]
                go_simp
                obtain ⟨WbAaAbB, hW⟩ : ∃ W9, WbAaA.alloc (.cells #[.int .i64 en] 3) = W9 := ⟨_, rfl⟩
                have hbn : Below WbAaA.heap.size WbAaA WbAaAbB := by rw [← hW]; exact (Below.refl _ WbAaA).alloc (Nat.le_refl _) _
                have k1bAaAbB : Blk WbAaAbB WbAaA.heap.size 3 #[.int .i64 en] := by rw [← hW]; exact Blk.new _ _ _
                rw [hW]
                clear hW
                have hNbAaAbB := hNbAaA.up hbn
                have hzbAaAbB : wc.heap.size ≤ WbAaAbB.heap.size := Nat.le_trans hzbAaA hbn.size
                refine hK.out _ _ ⟨hNbAaAbB.p.cell 2, hNbAaAbB.p.cell 3, (hNbAaAbB.cell (b := w.heap.size) (o := 3) HT3.out.2.1 HT3.out.2.2).trans HT3.out.1, (hNbAaAbB.cell (b := w.heap.size) (o := 4) HT4.out.2.1 HT4.out.2.2).trans HT4.out.1⟩ (fun hHeld => ?_)
                clear hK K
                try simp only [List.getElem_toArray, List.getElem_cons_succ, List.getElem_cons_zero, Act.put, List.setIfInBounds_toArray, List.set_cons_zero, List.set_cons_succ]
                refine wpAnyH_ready (rs := [15]) (by kernel_rfl) (by simp) ?_
                refine AllReadyH.cons (o := _) rfl (fun K hK => ?_) ?_
                · try simp only [List.getElem_toArray, List.getElem_cons_succ, List.getElem_cons_zero]
                  rw [if_pos (show Region.wanted _ _ = true from rfl)]
                  refine wp_append_queA _ (.tmp 59) (.tmp 67) _ (by rfl) 3 i0 _ 8 Try.underlying58 HI.out.1 HI.out.2.1 HI.out.2.2.1 HI.out.2.2.2 rfl w1.heap.size _ _ _ (WbAaA.heap.size) (.int .i64 en) (by rfl) (by rfl) hNbAaAbB.q3 hNbAaAbB.nW k1bAaAbB rfl hn3 (by omega) ?_
                  intro vbAaAbBaB bbAaAbBaB WbAaAbBaB h9 hgr hb9
                  have hNbAaAbBaB := hNbAaAbB.app3 h9 hgr hb9
                  obtain ⟨AbAaAbBaB, NbAaAbBaB, cbAaAbBaB, hv9⟩ := h9.form2
                  subst hv9
                  have hzbAaAbBaB : wc.heap.size ≤ WbAaAbBaB.heap.size := Nat.le_trans hzbAaAbB hgr.size
                  refine hK.out _ _ ⟨hNbAaAbBaB.p.cell 2, hNbAaAbBaB.p.cell 3, (hNbAaAbBaB.cell (b := w.heap.size) (o := 3) HT3.out.2.1 HT3.out.2.2).trans HT3.out.1, (hNbAaAbBaB.cell (b := w.heap.size) (o := 4) HT4.out.2.1 HT4.out.2.2).trans HT4.out.1⟩ (fun hHeld => ?_)
                  clear hK K
                  try simp only [List.getElem_toArray, List.getElem_cons_succ, List.getElem_cons_zero, Act.put, List.setIfInBounds_toArray, List.set_cons_zero, List.set_cons_succ]
                  refine wpAnyH_done (by kernel_rfl) ?_ _
                  have zA := hNbAaAbBaB.p.frozen 2
                  have zB := hNbAaAbBaB.p.frozen 3
                  have eA := hNbAaAbBaB.p.cell 2
                  have eB := hNbAaAbBaB.p.cell 3
                  have lp := hNbAaAbBaB.p.lt
                  have HN := Lib.hid hNbAaAbBaB
                  refine tailQ_step rfl ?_
                  go_wp2_with fail
                  refine tailQ_step rfl ?_
                  go_wp2_with fail
                  refine tailQ_step rfl ?_
                  go_wp2_with fail
                  apply_assumption
                  go_wp2_with fail
                  go_roundw
                  case rel =>
                    have hap : apP ws r k ++ [en] = apP ws r (k + 1) := by rw [apP_succ, HE2.out]
                    have HN2 := HN.out
                    rw [← clP_succ, hap] at HN2
                    exact ⟨k + 1, _, _, _, _, _, _, _, _, _, _, by omega, by go_num, by rw [HE2.out], by simp; omega, by simp; omega, (HN2.set 2 _).set 3 _⟩
                  case measure => simp [intOf]; omega
                exact AllReadyH.nil
              exact AllReadyH.nil
            refine AllReadyH.cons (o := _) rfl (fun K hK => ?_) ?_
            · try simp only [List.getElem_toArray, List.getElem_cons_succ, List.getElem_cons_zero]
              go_simp
              obtain ⟨WbAbB, hW⟩ : ∃ W9, WbA.alloc (.cells #[.int .i64 en] 3) = W9 := ⟨_, rfl⟩
              have hbn : Below WbA.heap.size WbA WbAbB := by rw [← hW]; exact (Below.refl _ WbA).alloc (Nat.le_refl _) _
              have k1bAbB : Blk WbAbB WbA.heap.size 3 #[.int .i64 en] := by rw [← hW]; exact Blk.new _ _ _
              have k0bAbB := k0bA.below hbn k0bA.lt
              rw [hW]
              clear hW
              have hNbAbB := hNbA.up hbn
              have hzbAbB : wc.heap.size ≤ WbAbB.heap.size := Nat.le_trans hzbA hbn.size
              refine hK.out _ _ ⟨hNbAbB.p.cell 2, hNbAbB.p.cell 3, (hNbAbB.cell (b := w.heap.size) (o := 3) HT3.out.2.1 HT3.out.2.2).trans HT3.out.1, (hNbAbB.cell (b := w.heap.size) (o := 4) HT4.out.2.1 HT4.out.2.2).trans HT4.out.1⟩ (fun hHeld => ?_)
              clear hK K
              try simp only [List.getElem_toArray, List.getElem_cons_succ, List.getElem_cons_zero, Act.put, List.setIfInBounds_toArray, List.set_cons_zero, List.set_cons_succ]
              refine wpAnyH_ready (rs := [4]) (by kernel_rfl) (by simp) ?_
              refine AllReadyH.cons (o := _) rfl (fun K hK => ?_) ?_
              · try simp only [List.getElem_toArray, List.getElem_cons_succ, List.getElem_cons_zero]
                rw [if_pos (show Region.wanted _ _ = true from rfl)]
                refine wp_append_queA _ (.tmp 54) (.tmp 56) _ (by rfl) 3 i0 _ 8 Try.underlying58 HI.out.1 HI.out.2.1 HI.out.2.2.1 HI.out.2.2.2 rfl w1.heap.size _ _ _ (wc.heap.size) (.int .i64 en) (by rfl) (by rfl) hNbAbB.q2 hNbAbB.nW k0bAbB rfl hn2 (by omega) ?_
                intro vbAbBaA bbAbBaA WbAbBaA h9 hgr hb9
                have hNbAbBaA := hNbAbB.app2 h9 hgr hb9
                have k1bAbBaA := k1bAbB.grown hgr (fun e9 => by have h8 := (HF.out.q2.lt _ e9.symm).1; omega)
                obtain ⟨AbAbBaA, NbAbBaA, cbAbBaA, hv9⟩ := h9.form2
                subst hv9
                have hzbAbBaA : wc.heap.size ≤ WbAbBaA.heap.size := Nat.le_trans hzbAbB hgr.size
                refine hK.out _ _ ⟨hNbAbBaA.p.cell 2, hNbAbBaA.p.cell 3, (hNbAbBaA.cell (b := w.heap.size) (o := 3) HT3.out.2.1 HT3.out.2.2).trans HT3.out.1, (hNbAbBaA.cell (b := w.heap.size) (o := 4) HT4.out.2.1 HT4.out.2.2).trans HT4.out.1⟩ (fun hHeld => ?_)
                clear hK K
                try simp only [List.getElem_toArray, List.getElem_cons_succ, List.getElem_cons_zero, Act.put, List.setIfInBounds_toArray, List.set_cons_zero, List.set_cons_succ]
                refine wpAnyH_take (i := 16) (oi := _) (v := ?_) rfl (by kernel_rfl) (by kernel_rfl) (by kernel_rfl) (fun _ _ _ h => h) (Or.inl ⟨by rfl, ?_⟩) (by assumption) ?_
                rotate_left 1
                · (intro w9 hS9; (try dsimp only at hS9); go_simp <;> with_reducible rfl)
                try simp only [List.getElem_toArray, List.getElem_cons_succ, List.getElem_cons_zero, Act.put, List.setIfInBounds_toArray, List.set_cons_zero, List.set_cons_succ]
                refine wpAnyH_ready (rs := [15]) (by kernel_rfl) (by simp) ?_
                refine AllReadyH.cons (o := _) rfl (fun K hK => ?_) ?_
                · try simp only [List.getElem_toArray, List.getElem_cons_succ, List.getElem_cons_zero]
                  rw [if_pos (show Region.wanted _ _ = true from rfl)]
                  refine wp_append_queA _ (.tmp 59) (.tmp 67) _ (by rfl) 3 i0 _ 8 Try.underlying58 HI.out.1 HI.out.2.1 HI.out.2.2.1 HI.out.2.2.2 rfl w1.heap.size _ _ _ (WbA.heap.size) (.int .i64 en) (by rfl) (by rfl) hNbAbBaA.q3 hNbAbBaA.nW k1bAbBaA rfl hn3 (by omega) ?_
                  intro vbAbBaAaB bbAbBaAaB WbAbBaAaB h9 hgr hb9
                  have hNbAbBaAaB := hNbAbBaA.app3 h9 hgr hb9
                  obtain ⟨AbAbBaAaB, NbAbBaAaB, cbAbBaAaB, hv9⟩ := h9.form2
                  subst hv9
                  have hzbAbBaAaB : wc.heap.size ≤ WbAbBaAaB.heap.size := Nat.le_trans hzbAbBaA hgr.size
                  refine hK.out _ _ ⟨hNbAbBaAaB.p.cell 2, hNbAbBaAaB.p.cell 3, (hNbAbBaAaB.cell (b := w.heap.size) (o := 3) HT3.out.2.1 HT3.out.2.2).trans HT3.out.1, (hNbAbBaAaB.cell (b := w.heap.size) (o := 4) HT4.out.2.1 HT4.out.2.2).trans HT4.out.1⟩ (fun hHeld => ?_)
                  clear hK K
                  try simp only [List.getElem_toArray, List.getElem_cons_succ, List.getElem_cons_zero, Act.put, List.setIfInBounds_toArray, List.set_cons_zero, List.set_cons_succ]
                  refine wpAnyH_done (by kernel_rfl) ?_ _
                  have zA := hNbAbBaAaB.p.frozen 2
                  have zB := hNbAbBaAaB.p.frozen 3
                  have eA := hNbAbBaAaB.p.cell 2
                  have eB := hNbAbBaAaB.p.cell 3
                  have lp := hNbAbBaAaB.p.lt
                  have HN := Lib.hid hNbAbBaAaB
                  refine tailQ_step rfl ?_
                  go_wp2_with fail
                  refine tailQ_step rfl ?_
                  go_wp2_with fail
                  refine tailQ_step rfl ?_
                  go_wp2_with fail
                  apply_assumption
                  go_wp2_with fail
                  go_roundw
                  case rel =>
                    have hap : apP ws r k ++ [en] = apP ws r (k + 1) := by rw [apP_succ, HE2.out]
                    have HN2 := HN.out
                    rw [← clP_succ, hap] at HN2
                    exact ⟨k + 1, _, _, _, _, _, _, _, _, _, _, by omega, by go_num, by rw [HE2.out], by simp; omega, by simp; omega, (HN2.set 2 _).set 3 _⟩
                  case measure => simp [intOf]; omega
                exact AllReadyH.nil
              exact AllReadyH.nil
            exact AllReadyH.nil
          refine AllReadyH.cons (o := _) rfl (fun K hK => ?_) ?_
          · try simp only [List.getElem_toArray, List.getElem_cons_succ, List.getElem_cons_zero]
            go_simp
            obtain ⟨WbB, hW⟩ : ∃ W9, (wc.alloc (.cells #[.int .i64 en] 3)).drew = W9 := ⟨_, rfl⟩
            have hbn : Below wc.heap.size wc WbB := by rw [← hW]; exact ((Below.refl _ wc).alloc (Nat.le_refl _) _).drew
            have k1bB : Blk WbB wc.heap.size 3 #[.int .i64 en] := by rw [← hW]; exact Blk.new _ _ _
            rw [hW]
            clear hW
            have hNbB := HF.out.up hbn
            have hzbB : wc.heap.size ≤ WbB.heap.size := hbn.size
            refine hK.out _ _ ⟨hNbB.p.cell 2, hNbB.p.cell 3, (hNbB.cell (b := w.heap.size) (o := 3) HT3.out.2.1 HT3.out.2.2).trans HT3.out.1, (hNbB.cell (b := w.heap.size) (o := 4) HT4.out.2.1 HT4.out.2.2).trans HT4.out.1⟩ (fun hHeld => ?_)
            clear hK K
            try simp only [List.getElem_toArray, List.getElem_cons_succ, List.getElem_cons_zero, Act.put, List.setIfInBounds_toArray, List.set_cons_zero, List.set_cons_succ]
            refine wpAnyH_ready (rs := [3]) (by kernel_rfl) (by simp) ?_
            refine AllReadyH.cons (o := _) rfl (fun K hK => ?_) ?_
            · try simp only [List.getElem_toArray, List.getElem_cons_succ, List.getElem_cons_zero]
              go_simp
              obtain ⟨WbBbA, hW⟩ : ∃ W9, WbB.alloc (.cells #[.int .i64 en] 3) = W9 := ⟨_, rfl⟩
              have hbn : Below WbB.heap.size WbB WbBbA := by rw [← hW]; exact (Below.refl _ WbB).alloc (Nat.le_refl _) _
              have k0bBbA : Blk WbBbA WbB.heap.size 3 #[.int .i64 en] := by rw [← hW]; exact Blk.new _ _ _
              have k1bBbA := k1bB.below hbn k1bB.lt
              rw [hW]
              clear hW
              have hNbBbA := hNbB.up hbn
              have hzbBbA : wc.heap.size ≤ WbBbA.heap.size := Nat.le_trans hzbB hbn.size
              refine hK.out _ _ ⟨hNbBbA.p.cell 2, hNbBbA.p.cell 3, (hNbBbA.cell (b := w.heap.size) (o := 3) HT3.out.2.1 HT3.out.2.2).trans HT3.out.1, (hNbBbA.cell (b := w.heap.size) (o := 4) HT4.out.2.1 HT4.out.2.2).trans HT4.out.1⟩ (fun hHeld => ?_)
              clear hK K
              try simp only [List.getElem_toArray, List.getElem_cons_succ, List.getElem_cons_zero, Act.put, List.setIfInBounds_toArray, List.set_cons_zero, List.set_cons_succ]
              refine wpAnyH_ready (rs := [4]) (by kernel_rfl) (by simp) ?_
              refine AllReadyH.cons (o := _) rfl (fun K hK => ?_) ?_
              · try simp only [List.getElem_toArray, List.getElem_cons_succ, List.getElem_cons_zero]
                rw [if_pos (show Region.wanted _ _ = true from rfl)]
                refine wp_append_queA _ (.tmp 54) (.tmp 56) _ (by rfl) 3 i0 _ 8 Try.underlying58 HI.out.1 HI.out.2.1 HI.out.2.2.1 HI.out.2.2.2 rfl w1.heap.size _ _ _ (WbB.heap.size) (.int .i64 en) (by rfl) (by rfl) hNbBbA.q2 hNbBbA.nW k0bBbA rfl hn2 (by omega) ?_
                intro vbBbAaA bbBbAaA WbBbAaA h9 hgr hb9
                have hNbBbAaA := hNbBbA.app2 h9 hgr hb9
                have k1bBbAaA := k1bBbA.grown hgr (fun e9 => by have h8 := (HF.out.q2.lt _ e9.symm).1; omega)
                obtain ⟨AbBbAaA, NbBbAaA, cbBbAaA, hv9⟩ := h9.form2
                subst hv9
                have hzbBbAaA : wc.heap.size ≤ WbBbAaA.heap.size := Nat.le_trans hzbBbA hgr.size
                refine hK.out _ _ ⟨hNbBbAaA.p.cell 2, hNbBbAaA.p.cell 3, (hNbBbAaA.cell (b := w.heap.size) (o := 3) HT3.out.2.1 HT3.out.2.2).trans HT3.out.1, (hNbBbAaA.cell (b := w.heap.size) (o := 4) HT4.out.2.1 HT4.out.2.2).trans HT4.out.1⟩ (fun hHeld => ?_)
                clear hK K
                try simp only [List.getElem_toArray, List.getElem_cons_succ, List.getElem_cons_zero, Act.put, List.setIfInBounds_toArray, List.set_cons_zero, List.set_cons_succ]
                refine wpAnyH_take (i := 16) (oi := _) (v := ?_) rfl (by kernel_rfl) (by kernel_rfl) (by kernel_rfl) (fun _ _ _ h => h) (Or.inl ⟨by rfl, ?_⟩) (by assumption) ?_
                rotate_left 1
                · (intro w9 hS9; (try dsimp only at hS9); go_simp <;> with_reducible rfl)
                try simp only [List.getElem_toArray, List.getElem_cons_succ, List.getElem_cons_zero, Act.put, List.setIfInBounds_toArray, List.set_cons_zero, List.set_cons_succ]
                refine wpAnyH_ready (rs := [15]) (by kernel_rfl) (by simp) ?_
                refine AllReadyH.cons (o := _) rfl (fun K hK => ?_) ?_
                · try simp only [List.getElem_toArray, List.getElem_cons_succ, List.getElem_cons_zero]
                  rw [if_pos (show Region.wanted _ _ = true from rfl)]
                  refine wp_append_queA _ (.tmp 59) (.tmp 67) _ (by rfl) 3 i0 _ 8 Try.underlying58 HI.out.1 HI.out.2.1 HI.out.2.2.1 HI.out.2.2.2 rfl w1.heap.size _ _ _ (wc.heap.size) (.int .i64 en) (by rfl) (by rfl) hNbBbAaA.q3 hNbBbAaA.nW k1bBbAaA rfl hn3 (by omega) ?_
                  intro vbBbAaAaB bbBbAaAaB WbBbAaAaB h9 hgr hb9
                  have hNbBbAaAaB := hNbBbAaA.app3 h9 hgr hb9
                  obtain ⟨AbBbAaAaB, NbBbAaAaB, cbBbAaAaB, hv9⟩ := h9.form2
                  subst hv9
                  have hzbBbAaAaB : wc.heap.size ≤ WbBbAaAaB.heap.size := Nat.le_trans hzbBbAaA hgr.size
                  refine hK.out _ _ ⟨hNbBbAaAaB.p.cell 2, hNbBbAaAaB.p.cell 3, (hNbBbAaAaB.cell (b := w.heap.size) (o := 3) HT3.out.2.1 HT3.out.2.2).trans HT3.out.1, (hNbBbAaAaB.cell (b := w.heap.size) (o := 4) HT4.out.2.1 HT4.out.2.2).trans HT4.out.1⟩ (fun hHeld => ?_)
                  clear hK K
                  try simp only [List.getElem_toArray, List.getElem_cons_succ, List.getElem_cons_zero, Act.put, List.setIfInBounds_toArray, List.set_cons_zero, List.set_cons_succ]
                  refine wpAnyH_done (by kernel_rfl) ?_ _
                  have zA := hNbBbAaAaB.p.frozen 2
                  have zB := hNbBbAaAaB.p.frozen 3
                  have eA := hNbBbAaAaB.p.cell 2
                  have eB := hNbBbAaAaB.p.cell 3
                  have lp := hNbBbAaAaB.p.lt
                  have HN := Lib.hid hNbBbAaAaB
                  refine tailQ_step rfl ?_
                  go_wp2_with fail
                  refine tailQ_step rfl ?_
                  go_wp2_with fail
                  refine tailQ_step rfl ?_
                  go_wp2_with fail
                  apply_assumption
                  go_wp2_with fail
                  go_roundw
                  case rel =>
                    have hap : apP ws r k ++ [en] = apP ws r (k + 1) := by rw [apP_succ, HE2.out]
                    have HN2 := HN.out
                    rw [← clP_succ, hap] at HN2
                    exact ⟨k + 1, _, _, _, _, _, _, _, _, _, _, by omega, by go_num, by rw [HE2.out], by simp; omega, by simp; omega, (HN2.set 2 _).set 3 _⟩
                  case measure => simp [intOf]; omega
                exact AllReadyH.nil
              exact AllReadyH.nil
            exact AllReadyH.nil
          exact AllReadyH.nil
    · obtain rfl : k = n2 := by omega
      have ik : ¬ (k : Int) < k := by omega
      have hlow := HLW.out
      obtain ⟨x1, p1, y1', hv1⟩ := hF.q1.form2
      obtain ⟨x2, p2, y2', hv2⟩ := hF.q2.form2
      subst hv1 hv2
      obtain ⟨x0, p0, y0', hv0, hr0⟩ := hF.q0.rdI
      obtain ⟨x3, p3, y3', hv3, hr3⟩ := hF.q3.rdI
      have hl0 : p0 = k := by rw [hr0.len.symm]; simp [clP]
      have hl3 : p3 = k := by rw [hr3.len.symm]; simp [apP]
      have hb := fun w9 (h9 : Below wr.heap.size wr w9) => pbound_any x0 x3 k y0' y3' (.slice x1 p1 y1') (.slice x2 p2 y2') (.int .i64 0) (clP k) (apP ws r k) w9 (hl0 ▸ hr0.up h9) (hl3 ▸ hr3.up h9) (by omega) clP_range (apP_range HC.out.1 hr.1 (by omega))
      subst hl0 hv0 hv3
      subst hl3
      rw [bnd_law p3 p3 (Nat.le_refl _)] at hb
      have HB := Lib.hid hb
      have hr9 : Blk wr (w.heap.size + 1) 61 _ := (hF.keep.block (w.heap.size + 1) (by omega) (by omega)).trans HX.out.2.1
      have c0 := hF.p.cell 0
      have c1 := hF.p.cell 1
      have c2 := hF.p.cell 2
      have c3 := hF.p.cell 3
      have c4 := hF.p.cell 4
      have lg := hF.p.lt
      have lr := hr9.lt
      have HF := Lib.hid (And.intro hF hr9)
      clear hF hr9 hb hr0 hr3
      go_wp2_with fail
      refine (HB.out _ (Below.refl _ _)).mono ?_
      rintro e w5 ⟨rfl, hb5⟩
      have hF5 := HF.out.1.up hb5
      have hr5 := HF.out.2.below hb5 lr
      clear c0 c1 c2 c3 c4 lg lr
      have c0 := hF5.p.cell 0
      have c1 := hF5.p.cell 1
      have c2 := hF5.p.cell 2
      have c3 := hF5.p.cell 3
      have c4 := hF5.p.cell 4
      have z4 := hF5.p.frozen 4
      have lg := hF5.p.lt
      have d0 := hr5.cell 0
      have d1 := hr5.cell 1
      have d2 := hr5.cell 2
      have d3 := hr5.cell 3
      have d4 := hr5.cell 4
      have y0 := hr5.frozen 0
      have y1 := hr5.frozen 1
      have y2 := hr5.frozen 2
      have y3 := hr5.frozen 3
      have y4 := hr5.frozen 4
      have lr := hr5.lt
      have HF5 := Lib.hid (And.intro hF5 hr5)
      clear hF5 hr5 hb5 HB HF
      go_wp2_with fail
      have hbF := HX.out.2.2.1.trans ((HF5.out.1.keep.to_below (m := w.heap.size) (by omega) (by omega)))
      have hK8 := HF5.out.2.far (p := ⟨w.heap.size + 1 + 1, 4, none⟩) (show w.heap.size + 1 ≠ w.heap.size + 1 + 1 by omega) (.int .i64 (boundP ws r p3))
      have hK9 := set5 (x := .slice x0 p3 y0') (y := .slice x1 p1 y1') (z := .slice x2 p2 y2') (u := .slice x3 p3 y3') (v := .int .i64 (boundP ws r p3)) hK8
      refine bodyPost_ret (results_cell_tmp rfl _ _ _ _ _ _ rfl hK9 Try.underlying61 rfl info61) rfl ⟨⟨_, ⟨_, _, _, _, _, _, _, _, _, _, _, _, rfl⟩, rfl⟩, ?_⟩
      exact bel5 (hbF.setCell (p := ⟨w.heap.size + 1 + 1, 4, none⟩) (by dsimp only; omega) _) (by omega)
end Go.Proofs.Ythkpkjigfaannaa
