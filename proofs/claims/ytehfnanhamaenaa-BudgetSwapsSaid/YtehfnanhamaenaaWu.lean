/- The walk of Take, the arm without error. Conditions: at most 1000 buckets. -/
import Derived.Test.YtehfnanhamaenaaWt
import Derived.Deep.DeepCutAuto
namespace Go.Proofs.Ytehfnanhamaenaa
open Go.RowKit Go.Shelf
attribute [local go_sem] Oper.semAt_some
theorem bcell {W w1 : World} (hb : Below W.heap.size W w1) : (∀ b o, b < W.heap.size → w1.cell? ⟨b, o, none⟩ = W.cell? ⟨b, o, none⟩) ∧ (∀ b o, b < W.heap.size → w1.frozen? ⟨b, o, none⟩ = W.frozen? ⟨b, o, none⟩) :=
  ⟨fun b o h => hb.cell (p := ⟨b, o, none⟩) h, fun b o h => hb.frozen (p := ⟨b, o, none⟩) h⟩
theorem Clone_sl (A : Option Addr) (n c : Nat) (l : List Bk) (w : World) (hR : RdB w A n l) (hn : n ≤ 1000) :
    Calls Try.prog 28 #[.slice A n c] w fun e w' => (∃ A1 c1, e = .returned (.slice A1 l.length c1) ∧ w'.ownsRow w.heap.size 64 4 (.slice A1 l.length c1) l.length (encBs l) ∧ l.length ≤ c1 ∧ c1 ≤ maxLen) ∧ Below w.heap.size w w' :=
  (Clone_any A n c l w hR hn).mono fun e w' ⟨⟨v, he, ho⟩, hb⟩ => by
    obtain ⟨A1, c1, rfl, h1, h2, _⟩ := own_RdB ho
    exact ⟨⟨A1, c1, he, ho, h1, h2⟩, hb⟩
theorem sz_le (w : World) (o : Obj) : w.heap.size ≤ (w.alloc o).heap.size := by simp
theorem two_cells {B b0 o0 b1 o1 : Nat} {w6 w' : World} {v0 v1 : Value} (hB : Below B w6 w') (h0 : w6.cell? ⟨b0, o0, none⟩ = some v0) (h1 : w6.cell? ⟨b1, o1, none⟩ = some v1) (l0 : b0 < B) (l1 : b1 < B) :
    w'.cell? ⟨b0, o0, none⟩ = some v0 ∧ w'.cell? ⟨b1, o1, none⟩ = some v1 ∧ Below B w6 w' :=
  ⟨(hB.cell (p := ⟨b0, o0, none⟩) l0).trans h0, (hB.cell (p := ⟨b1, o1, none⟩) l1).trans h1, hB⟩
/-- what stands behind the clone -/
def TkCut (w : World) (t n : Int) (l : List Bk) (s9 : Value) (wx : World) : Prop := ∃ g1 A1 c1, s9 = .pointer (some ⟨g1, 0, none⟩) ∧ w.heap.size + 3 ≤ g1 ∧ Blk wx g1 24 #[.int .i64 t, .slice A1 l.length c1] ∧ wx.ownsRow (w.heap.size + 3) 64 4 (.slice A1 l.length c1) l.length (encBs l) ∧
  Value.ownBlock (.slice A1 l.length c1) ≠ some g1 ∧ Blk wx (w.heap.size + 1) 3 #[.int .i64 n] ∧ Blk wx (w.heap.size + 1 + 1) 24 #[.int .i64 0, .slice none 0 0] ∧ Below w.heap.size w wx
set_option maxHeartbeats 1000000 in
theorem take_wk (g o : Nat) (q n : Int) (w : World) (hq : w.cell? ⟨g, o + 3, none⟩ = some (.int .i64 q)) (hf : w.frozen? ⟨g, o + 3, none⟩ = false)
    (h0 : -1152921504606846976 ≤ q) (h1 : q ≤ 1073741824) (h2 : 0 ≤ n) (h3 : n ≤ 1073741824) :
    Calls Try.prog 37 #[.agg #[.pointer (some ⟨g, o, none⟩)], .int .i64 n] w fun e w' => (∃ v, e = .returned v) ∧ Below w.heap.size (w.setCell ⟨g, o + 3, none⟩ (.int .i64 (q - n))) w' := by
  have hg : g < w.heap.size := block_lt_of_cell hq
  go_enter Try.func37, Try.ntmps37
  go_wp2
  go_end0
  exact ⟨⟨_, rfl⟩, (Below.refl _ _).alloc (by simp) _⟩
theorem ownFrom_of_below {β : Type} {B : Nat} {I : β → World → Prop} (hs : ∀ s W, I s W → B ≤ W.heap.size) (h : ∀ s W W', I s W → Below B W W' → I s W') : OwnFrom B I :=
  fun s W _ _ hi hg hr => h s W _ hi ((Below.refl B W).grown hg (hs s W hi) (fun k e => (hr k e).1))
theorem keepsOthers_of_set {W W' : World} {p : Addr} {v : Value} (h : Below W.heap.size (W.setCell p v) W') : KeepsOthers W W' := by
  refine (KeepsOthers.setCell W p v).trans ⟨h.size, fun k o hk _ => ?_⟩
  have hl := (Array.getElem?_eq_some_iff.1 hk).1
  have hl2 : k < W.heap.size := by simpa [World.setCell] using hl
  rw [h.block k hl2]; exact hk
theorem PKeep.tok {n₀ B1 B2 : Nat} (W : World) (g x : Nat) (v : Value) (h0 : n₀ ≤ g) (h1 : B1 ≠ g) (h2 : B2 ≠ g) : PKeep n₀ B1 B2 g 0 W (W.setCell ⟨g, x * 4 + 3, none⟩ v) :=
  ⟨(Below.refl _ _).setCell h0 _, World.cell?_setCell_other W ⟨g, x * 4 + 3, none⟩ _ v (fun e => h1 (by injection e with e1; exact e1.symm)), World.cell?_setCell_other W ⟨g, x * 4 + 3, none⟩ _ v (fun e => h2 (by injection e with e1; exact e1.symm)), fun k => World.cell?_setCell_other W ⟨g, x * 4 + 3, none⟩ _ v (fun e => by injection e with _ e2; omega)⟩
theorem own_cap {w : World} {base : Nat} {e : TypeId} {size : Nat} {A : Option Addr} {n c : Nat} {xs : List Value} (h : w.ownsRow base e size (.slice A n c) n xs) : n ≤ c ∧ c ≤ maxLen := by
  obtain ⟨A2, c2, hv, h1, h2, _⟩ := own_slice h
  injection hv with _ _ hc
  subst hc
  exact ⟨h1, h2⟩
/-- what a round finds -/
structure TkI (B : Nat) (w : World) (t n : Int) (l : List Bk) (g1 gr c1 : Nat) (pre : List Nat) (W : World) : Prop where
  size : B ≤ W.heap.size
  row : W.ownsRow (w.heap.size + 3) 64 4 (.slice (some ⟨gr, 0, none⟩) l.length c1) l.length (encBs (takeP n l pre))
  box : Blk W g1 24 #[.int .i64 t, .slice (some ⟨gr, 0, none⟩) l.length c1]
  num : Blk W (w.heap.size + 1) 3 #[.int .i64 n]
  res : Blk W (w.heap.size + 1 + 1) 24 #[.int .i64 0, .slice none 0 0]
  below : Below w.heap.size w W
theorem TkI.keep {B : Nat} {w : World} {t n : Int} {l : List Bk} {g1 gr c1 : Nat} {pre : List Nat} {W W' : World} (h : TkI B w t n l g1 gr c1 pre W) (hb : Below B W W') (h1 : g1 < B) (h2 : gr < B) (h3 : w.heap.size + 3 ≤ B) : TkI B w t n l g1 gr c1 pre W' :=
  ⟨Nat.le_trans h.size hb.size, own_keep h.row (fun g hg => by cases hg; exact hb.block _ h2), h.box.below hb h1, h.num.below hb (by omega), h.res.below hb (by omega), h.below.trans (hb.mono (by omega))⟩
theorem tk_way1 {w w6 w' : World} {t n : Int} {l : List Bk} {A1 : Option Addr} {c1 : Nat} (q4 : Blk w6 (w.heap.size + 1) 3 #[.int .i64 n]) (q5 : Blk w6 (w.heap.size + 1 + 1) 24 #[.int .i64 0, .slice none 0 0]) (q6 : Below w.heap.size w w6) (q7 : w.heap.size + 1 + 1 < w6.heap.size)
    (hb' : Below w6.heap.size w6.drew w') (hown : w'.ownsRow w6.heap.size 64 4 (.slice A1 l.length c1) l.length (encBs l)) :
    TkCut w t n l (.pointer (some ⟨w'.heap.size, 0, none⟩)) (w'.alloc (.cells #[.int .i64 t, .slice A1 l.length c1] 24)) := by
  have hs : w6.heap.size ≤ w'.heap.size := hb'.size
  exact ⟨w'.heap.size, A1, c1, rfl, by omega, Blk.new _ _ _, own_alloc (own_base hown (by omega)) _, fun e => by have := own_lt hown _ e; omega, (q4.drew.below hb' (by omega)).alloc _, (q5.drew.below hb' (by omega)).alloc _,
    (q6.drew.trans (hb'.mono q6.size)).alloc (Nat.le_trans q6.size hs) _⟩
theorem tk_way2 {w w6 w' : World} {t n : Int} {l : List Bk} {A1 : Option Addr} {c1 : Nat} (q4 : Blk w6 (w.heap.size + 1) 3 #[.int .i64 n]) (q5 : Blk w6 (w.heap.size + 1 + 1) 24 #[.int .i64 0, .slice none 0 0]) (q6 : Below w.heap.size w w6) (q7 : w.heap.size + 1 + 1 < w6.heap.size)
    (hb' : Below (w6.alloc (.cells #[.int .i64 0, .slice none 0 0] 24)).heap.size (w6.alloc (.cells #[.int .i64 0, .slice none 0 0] 24)).drew w') (hown : w'.ownsRow (w6.alloc (.cells #[.int .i64 0, .slice none 0 0] 24)).heap.size 64 4 (.slice A1 l.length c1) l.length (encBs l)) :
    TkCut w t n l (.pointer (some ⟨w6.heap.size, 0, none⟩)) ((w'.setCell ⟨w6.heap.size, 0, none⟩ (.int .i64 t)).setCell ⟨w6.heap.size, 1, none⟩ (.slice A1 l.length c1)) := by
  have hs : w6.heap.size + 1 ≤ w'.heap.size := by have h9 := hb'.size; simpa using h9
  have e : (w6.alloc (.cells #[.int .i64 0, .slice none 0 0] 24)).heap.size = w6.heap.size + 1 := by simp
  rw [e] at hb' hown
  have hne : Value.ownBlock (.slice A1 l.length c1) ≠ some w6.heap.size := fun e => by have := own_block_ge hown _ e; omega
  have hK := ((Blk.new w6 24 #[.int .i64 0, .slice none 0 0]).drew.below hb' (by omega)).set_ 0 (.int .i64 t)
  exact ⟨w6.heap.size, A1, c1, rfl, by omega, hK.set_ 1 (.slice A1 l.length c1), own_far (own_far (own_base hown (by omega)) hne _) hne _, hne, ((((q4.alloc _).drew.below hb' (by omega)).far (by dsimp only; omega) _).far (by dsimp only; omega) _), ((((q5.alloc _).drew.below hb' (by omega)).far (by dsimp only; omega) _).far (by dsimp only; omega) _),
    (((q6.alloc q6.size _).drew.trans (hb'.mono (Nat.le_succ_of_le q6.size))).setCell (p := ⟨w6.heap.size, 0, none⟩) q6.size _).setCell (p := ⟨w6.heap.size, 1, none⟩) q6.size _⟩
set_option maxRecDepth 100000 in
set_option maxHeartbeats 400000 in
theorem Take_ok (t n : Int) (k : Nat) (A : Option Addr) (c : Nat) (l : List Bk) (w : World) (hR : RdB w A l.length l) (hn : l.length ≤ 1000) (hf : findV t l k = 0) (n0 : 0 ≤ n) (n1 : n ≤ availL l k) :
    CallsIn Fence.wide 4 Try.prog 21 #[budV t A l.length c, .int .i64 k, .int .i64 n] w fun e w' => BudF w.heap.size t (takeP n l (pathL l k)) 0 e w' ∧ Below w.heap.size w w' := by
  obtain ⟨hz, _, hkl⟩ := findV_zero hf
  have hkl : k < l.length := by omega
  have hb : Below w.heap.size w (((w.alloc (.cells #[.int .i64 t, .slice A l.length c] 24)).alloc (.cells #[.int .i64 n] 3)).alloc (.cells #[.int .i64 0, .slice none 0 0] 24)) := (((Below.refl _ w).alloc (Nat.le_refl _) _).alloc (by simp) _).alloc (by simp; omega) _
  have h1 := ((Blk.new w 24 #[.int .i64 t, .slice A l.length c]).alloc (.cells #[.int .i64 n] 3)).alloc (.cells #[.int .i64 0, .slice none 0 0] 24)
  have h2 := (Blk.new (w.alloc (.cells #[.int .i64 t, .slice A l.length c] 24)) 3 #[.int .i64 n]).alloc (.cells #[.int .i64 0, .slice none 0 0] 24)
  have h3 := Blk.new ((w.alloc (.cells #[.int .i64 t, .slice A l.length c] 24)).alloc (.cells #[.int .i64 n] 3)) 24 #[.int .i64 0, .slice none 0 0]
  simp only [World.size_alloc] at h2 h3
  have H := Lib.hid (And.intro h1 (And.intro h2 h3))
  have C0 := Lib.hid hf
  have C0z := Lib.hid hz
  clear h1 h2 h3 hf
  refine callsIn_of_wp_marks Try.func21 rfl trivial ?_ rfl
  simp only [Try.ntmps21, List.size_toArray, List.length_cons, List.length_nil, Nat.reduceAdd, Nat.reduceSub, Array.replicate_succ, Array.replicate_zero, List.push_toArray, List.append_toArray, List.nil_append, List.cons_append]
  refine wpIn_wide.2 ?_
  go_wp2_with fail
  generalize (((w.alloc (.cells #[.int .i64 t, .slice A l.length c] 24)).alloc (.cells #[.int .i64 n] 3)).alloc (.cells #[.int .i64 0, .slice none 0 0] 24)) = W0 at *
  refine (find_any _ _ _ _ _ l _ (hR.up hb) hn).mono ?_
  rintro e w2 ⟨rfl, hb2⟩
  rw [C0.out]
  have hk1 := H.out.1.below hb2 H.out.1.lt
  have hk2 := H.out.2.1.below hb2 H.out.2.1.lt
  have hk3 := H.out.2.2.below hb2 H.out.2.2.lt
  have hbl := hb.trans (hb2.mono hb.size)
  have a0 : w2.cell? ⟨w.heap.size, 0, none⟩ = some (.int .i64 t) := hk1.cell 0
  have a1 : w2.cell? ⟨w.heap.size, 1, none⟩ = some (.slice A l.length c) := hk1.cell 1
  have m0 : w2.cell? ⟨w.heap.size + 1, 0, none⟩ = some (.int .i64 n) := hk2.cell 0
  have hkl2 := hk3.lt
  obtain ⟨g, off, rfl, hg, _⟩ := (hR.up hbl).cells (by omega)
  have HAV := Lib.hid (fun (w9 : World) (h9 : Below w.heap.size w w9) => callsIn_wide.1 (available_in g off c l k w9 (up_of hz) (by omega) (checkL_zero hz).1 (hR.up h9)))
  have hmn : ¬ availL l k < n := by omega
  have n2 : n ≤ 1073741824 := Int.le_trans n1 (availL_le hz k)
  generalize availL l k = mx at *
  clear hz hk1
  go_wp2_with fail
  go_region_held3 (fun w' => w'.cell? ⟨w.heap.size, 1, none⟩ = some (.slice (some ⟨g, off, none⟩) l.length c) ∧ w'.cell? ⟨w.heap.size, 0, none⟩ = some (.int .i64 t) ∧ w'.cell? ⟨w.heap.size + 1, 0, none⟩ = some (.int .i64 n) ∧ Blk w' (w.heap.size + 1) 3 #[.int .i64 n] ∧ Blk w' (w.heap.size + 1 + 1) 24 #[.int .i64 0, .slice none 0 0] ∧ Below w.heap.size w w' ∧ w.heap.size + 1 + 1 < w'.heap.size)
    (first
      | (go_keep; done)
      | (go_split_ands
         refine ⟨?_, ?_, ?_, ?_, ?_, ?_, ?_⟩ <;> first | assumption | exact Blk.drew (by assumption) | exact Below.drew (by assumption) | exact (hb6.cell (p := ⟨w.heap.size, 1, none⟩) (by dsimp only; omega)).trans (by assumption) | exact (hb6.cell (p := ⟨w.heap.size, 0, none⟩) (by dsimp only; omega)).trans (by assumption) | exact (hb6.cell (p := ⟨w.heap.size + 1, 0, none⟩) (by dsimp only; omega)).trans (by assumption) | exact Blk.below (by assumption) hb6 (by omega) | exact Below.trans (by assumption) (hb6.mono (by omega)) | exact Nat.lt_of_lt_of_le (by assumption) hb6.size))
    (first
      | (go_at_call 33; refine (HAV.out _ (by go_split_ands; first | assumption | exact Below.drew (by assumption))).mono ?_; rintro e w6 ⟨rfl, hb6⟩))
  rename_i hH
  have HH := Lib.hid hH
  clear hH
  go_wp2_with fail
  go_cut [9] from 30 to 35 (fun s9 wx => TkCut w t n l s9 wx)
  case first =>
    obtain ⟨q1, q2, q3, q4, q5, q6, q7⟩ := HH.out
    have l1 : w.heap.size < w6.heap.size := by omega
    go_region_held3 (fun w' => w'.cell? ⟨w.heap.size, 1, none⟩ = some (.slice (some ⟨g, off, none⟩) l.length c) ∧ w'.cell? ⟨w.heap.size, 0, none⟩ = some (.int .i64 t) ∧ Below w6.heap.size w6 w')
      (((refine two_cells ?_ q1 q2 l1 l1); (first
        | exact (Below.refl _ w6).drew
        | exact ((Below.refl _ w6).drew.trans hb')
        | exact ((Below.refl _ w6).drew.trans hb').drew
        | exact ((Below.refl _ w6).drew.trans hb').alloc hb'.size _
        | exact (((Below.refl _ w6).drew.trans hb').alloc hb'.size _).drew
        | exact (Below.refl _ w6).drew.alloc (Nat.le_refl _) _
        | exact ((Below.refl _ w6).drew.alloc (Nat.le_refl _) _).drew
        | exact ((Below.refl _ w6).drew.alloc (Nat.le_refl _) _).trans (hb'.mono (sz_le _ _))
        | exact (((Below.refl _ w6).drew.alloc (Nat.le_refl _) _).trans (hb'.mono (sz_le _ _))).setCell (Nat.le_refl _) _
        | exact ((((Below.refl _ w6).drew.alloc (Nat.le_refl _) _).trans (hb'.mono (sz_le _ _))).setCell (Nat.le_refl _) _).setCell (Nat.le_refl _) _
        | (trace_state; sorry))))
        (first
          | (go_at_call 28; refine (Clone_sl _ _ _ l _ (hR.up ?_) hn).mono ?_; (first | exact q6.drew | exact (q6.alloc q6.size _).drew); rintro e w' ⟨⟨A1, c1, rfl, hown, hca, hcb⟩, hb'⟩; obtain ⟨hcc, hff⟩ := bcell hb'))
    · go_wp2_with fail
      go_meet
      exact tk_way1 q4 q5 q6 q7 hb' hown
    · go_wp2_with fail
      go_meet
      exact tk_way2 q4 q5 q6 q7 hb' hown
  case rest =>
    obtain ⟨g1, A1, c1, rfl, hg1, hK1, ho, hne, hK2, hK3, hbc⟩ := hcut
    have e0 : wc.cell? ⟨g1, 0, none⟩ = some (.int .i64 t) := hK1.cell 0
    have e1 : wc.cell? ⟨g1, 1, none⟩ = some (.slice A1 l.length c1) := hK1.cell 1
    go_wp2_with fail
    refine (path_any _ _ _ _ _).mono ?_
    rintro e w7 ⟨rfl, hb7, hk7, hk8⟩
    obtain ⟨gr, cap, cur, hv1, hgr1, _, _, _, _, _⟩ := own_blk ho (by omega)
    obtain ⟨rfl, rfl⟩ : A1 = some ⟨gr, 0, none⟩ ∧ c1 = cap := by
      injection hv1 with h1 _ h2
      exact ⟨h1, h2⟩
    have hgrl : gr < wc.heap.size := own_lt ho gr rfl
    have hg1l : g1 < wc.heap.size := hK1.lt
    have hws : w.heap.size + 3 ≤ wc.heap.size := by omega
    have hne' : gr ≠ g1 := fun e => hne (by rw [e]; rfl)
    have hl7 := hk7.lt
    have hl8 := hk8.lt
    have hbs : wc.heap.size ≤ w7.heap.size := hb7.size
    have hu := up_of C0z.out
    have hI0 : TkI w7.heap.size w t n l g1 gr c1 [] w7 := ⟨Nat.le_refl _, own_below ho hb7, hK1.below hb7 hg1l, hK2.below hb7 (by omega), hK3.below hb7 (by omega), hbc.trans (hb7.mono (by omega))⟩
    have hpar : ∀ i, i < l.length → w7.cell? ⟨gr, 0 + i * 4, none⟩ = some (.int .i64 (bkAt l i).par) := fun i hi => by
      rw [Nat.zero_add]
      exact (own_cell hI0.row (i * 4) _ (by rw [show i * 4 = i * 4 + 0 from rfl, takeP_nil, encBs_at l i 0 hi (by omega), bkAt_lt l i hi]; rfl)).1
    have hst := path1_stops 3 (by omega) (wc.heap.size + 1) wc.heap.size gr 0 c1 w.heap.size l k hu hkl w7 hl8 hl7 (by omega) (hk8.cell 0) (hk7.cell 0) hpar
    simp only [Nat.zero_add] at hst
    have HS := Lib.hid hst
    have HI0 := Lib.hid hI0
    clear hst hI0 hpar ho hK1 hK2 hK3 hv1 hk7 hk8 hne e0 e1
    go_wp2_with fail
    refine (wpIn_wide (n := 4)).1 ?_
    refine wpIn_rangeFunc_ownF (w0 := w7) rfl (by omega) (gf := 39) (lb := #[.pointer (some ⟨wc.heap.size + 1, 0, none⟩), .pointer (some ⟨wc.heap.size, 0, none⟩)]) rfl trivial enters39 HS.out PKeep.trans (PKeep.b (by omega) (by omega) (by omega) (by omega)) (Below.refl _ _) (fun _ => rfl)
      (fun pre W => TkI w7.heap.size w t n l g1 gr c1 (pre.map Subtype.val) W)
      (fun _ _ _ => False)
      (ownFrom_of_below (fun s W h => h.size) (fun s W W' h hb => h.keep hb (by omega) (by omega) (by omega)))
      (fun _ _ _ _ _ hs _ _ => hs)
      HI0.out
      ?act ?assign ?body ?done ?stop
    case assign =>
      intro l x W K hK
      gi_wp2
      exact hK
    case body =>
      rintro lf pre ⟨x, hx⟩ W hI hlen
      have hx3 : (encBs (takeP n l (pre.map Subtype.val)))[x * 4 + 3]? = some (.int .i64 (bkAt (takeP n l (pre.map Subtype.val)) x).tok) := encBs_tok _ _ (by rw [takeP_len]; exact hx)
      obtain ⟨kc, kf⟩ := own_cell hI.row (x * 4 + 3) _ hx3
      have kn : W.cell? ⟨w.heap.size + 1, 0, none⟩ = some (.int .i64 n) := hI.num.cell 0
      have hbd := takeP_bd n n0 n2 (pre.map Subtype.val) l 0 (tok_bd C0z.out) x
      rw [List.length_map] at hbd
      have hset : (encBs (takeP n l (pre.map Subtype.val))).set (x * 4 + 3) (.int .i64 ((bkAt (takeP n l (pre.map Subtype.val)) x).tok - n)) = encBs (takeP n l ((pre ++ [(⟨x, hx⟩ : { i : Nat // i < l.length })]).map Subtype.val)) := by
        rw [List.map_append, List.map_cons, List.map_nil, takeP_snoc]
        exact encBs_set _ _ (by rw [takeP_len]; exact hx) (takeB n (bkAt (takeP n l (pre.map Subtype.val)) x)) 3 _ (by omega) (by rw [← bkAt_lt _ _ (by rw [takeP_len]; exact hx)]; rfl)
      have hrow2 := own_set hI.row (x * 4 + 3) (.int .i64 ((bkAt (takeP n l (pre.map Subtype.val)) x).tok - n))
      rw [hset] at hrow2
      have HI := Lib.hid (And.intro hI hrow2)
      clear hset hx3 hI hrow2
      generalize (bkAt (takeP n l (pre.map Subtype.val)) x).tok = q at *
      have hlb : -1099511627776 ≤ q := by omega
      gi_wp2
      refine ⟨trivial, ?_⟩
      refine (CallsIn.inRound lf (callsIn_wide.2 (take_wk gr (x * 4) q n W kc kf (by omega) (by omega) n0 n2))).mono ?_
      rintro e W3 ⟨⟨v, rfl⟩, hb3⟩
      gi_wp2
      have hsz := HI.out.1.size
      have hb4 : Below w7.heap.size (W.setCell ⟨gr, x * 4 + 3, none⟩ (.int .i64 (q - n))) W3 := hb3.mono hsz
      refine ⟨keepsOthers_of_set hb3, (PKeep.tok W gr x _ (by omega) (by omega) (by omega)).trans (PKeep.of_below hb4 (by omega) (by omega) (by omega) (by omega)), ?_⟩
      have hs2 : (W.setCell ⟨gr, x * 4 + 3, none⟩ (.int .i64 (q - n))).heap.size = W.heap.size := by simp [World.setCell]
      refine TkI.keep (W := W.setCell ⟨gr, x * 4 + 3, none⟩ (.int .i64 (q - n))) ⟨by rw [hs2]; exact hsz, HI.out.2, HI.out.1.box.far (Ne.symm hne') _, HI.out.1.num.far (by dsimp only; omega) _, HI.out.1.res.far (by dsimp only; omega) _, HI.out.1.below.setCell (by dsimp only; omega) _⟩ hb4 (by omega) (by omega) (by omega)
    case done =>
      rintro D ys W hD hS hI hK
      have d0 := hI.box.cell 0
      have d1 := hI.box.cell 1
      have r0 := hI.res.cell 0
      have r1 := hI.res.cell 1
      have f0 := hI.res.frozen 0
      have f1 := hI.res.frozen 1
      have HI := Lib.hid hI
      clear hI
      gi_wp2
      go_wp2
      have hK3 := (HI.out.res.set_ 0 (.int .i64 t)).set_ 1 (.slice (some ⟨gr, 0, none⟩) l.length c1)
      have hD2 := ((KeepsOthers.setCell W ⟨w.heap.size + 1 + 1, 0, none⟩ (.int .i64 t)).trans (KeepsOthers.setCell _ ⟨w.heap.size + 1 + 1, 1, none⟩ (.slice (some ⟨gr, 0, none⟩) l.length c1))).same D _ hK rfl
      have hrow := HI.out.row
      rw [hS] at hrow
      have ho2 := own_far (own_far hrow (p := ⟨w.heap.size + 1 + 1, 0, none⟩) (fun e => by injection e with e; dsimp only at e; omega) (.int .i64 t)) (p := ⟨w.heap.size + 1 + 1, 1, none⟩) (fun e => by injection e with e; dsimp only at e; omega) (.slice (some ⟨gr, 0, none⟩) l.length c1)
      have hbf : Below w.heap.size w ((W.setCell ⟨w.heap.size + 1 + 1, 0, none⟩ (.int .i64 t)).setCell ⟨w.heap.size + 1 + 1, 1, none⟩ (.slice (some ⟨gr, 0, none⟩) l.length c1)) := (HI.out.below.setCell (p := ⟨w.heap.size + 1 + 1, 0, none⟩) (by dsimp only; omega) _).setCell (p := ⟨w.heap.size + 1 + 1, 1, none⟩) (by dsimp only; omega) _
      generalize ((W.setCell ⟨w.heap.size + 1 + 1, 0, none⟩ (.int .i64 t)).setCell ⟨w.heap.size + 1 + 1, 1, none⟩ (.slice (some ⟨gr, 0, none⟩) l.length c1)) = WZ at *
      have hbq : Below w7.heap.size WZ (WZ.putObj D (.deferred none)) := belowK_b (w := w7) (Nat.le_refl _) WZ D _ _ (by omega) hD2 rfl rfl
      refine ⟨by simp, .inl ⟨_, _, rfl, run_takeDeferred hD2, ?_⟩⟩
      refine ⟨_, results_cell_tmp rfl _ _ _ _ _ _ rfl (hK3.below hbq (by omega)) Try.underlying24 rfl info24, ?_⟩
      have ho3 := own_keep (w' := WZ.putObj D (.deferred none)) ho2 (fun g9 hg9 => by cases hg9; exact hbq.block gr (by omega))
      obtain ⟨hc3, hm3⟩ := own_cap ho3
      refine ⟨⟨some ⟨gr, 0, none⟩, c1, ?_, ?_, ?_, hm3, fun ad had => Nat.le_trans (Nat.le_add_right _ 3) (own_fresh ho3 ad had)⟩, hbf.trans (hbq.mono (by omega))⟩
      · rw [takeP_len]; rfl
      · rw [takeP_len]; exact own_RdB' ho3
      · rw [takeP_len]; exact hc3
    case stop =>
      rintro D c pre W _ _ h _
      exact h.elim
end Go.Proofs.Ytehfnanhamaenaa
