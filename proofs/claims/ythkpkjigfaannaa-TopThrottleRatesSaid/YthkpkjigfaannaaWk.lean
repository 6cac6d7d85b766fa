/- The walks of Backlog, Age. Condition: at most 1000 marks. -/
import Derived.Test.YthkpkjigfaannaaWh
namespace Go.Proofs.Ythkpkjigfaannaa
open Go.RowKit
def backV (T : Th) : Int := if T.chk = 0 then T.b else 0
def ageV (T : Th) (now : Int) : Int := if T.chk = 0 then (if T.b = 0 then 0 else (if now < (atM T.l (openM (totM T.l - T.b) T.l)).t then 0 else now - (atM T.l (openM (totM T.l - T.b) T.l)).t)) else 0
theorem openM_lt {x : Int} {p : Mk} {l : List Mk} (h : x < (lastM p l).n) (hl : l ≠ []) : openM x l < l.length := by
  induction l generalizing p with
  | nil => exact absurd rfl hl
  | cons m l ih =>
    simp only [openM, List.length_cons]
    split
    · omega
    · next hm =>
      by_cases hl' : l = []
      · subst hl'
        exact absurd h hm
      · have := ih (p := m) h hl'
        omega
theorem marks_at {t : Int} {p : Mk} {l : List Mk} (h : marksB t p l = true) (k : Nat) (hk : k < l.length) : p.t < (atM l k).t ∧ (atM l k).t ≤ t := by
  induction l generalizing p k with
  | nil => simp at hk
  | cons m l ih =>
    simp only [marksB, betwB, Bool.and_eq_true, decide_eq_true_eq] at h
    obtain ⟨⟨⟨h1, h2⟩, _⟩, h5⟩ := h
    cases k with
    | zero => show p.t < m.t ∧ m.t ≤ t; omega
    | succ k =>
      obtain ⟨i1, i2⟩ := ih h5 k (by simpa using hk)
      show p.t < (atM l k).t ∧ (atM l k).t ≤ t
      omega
theorem tot_nil (b : Int) (h0 : 0 ≤ b) (h1 : b ≤ totM []) : b = 0 := by
  have : totM [] = 0 := rfl
  omega
set_option maxRecDepth 100000 in
set_option maxHeartbeats 1000000 in
theorem Backlog_any (T : Th) (A : Option Addr) (n c : Nat) (w : World) (hR : RdM w A n T.l) (hn : n ≤ 1000) :
    Calls Try.prog 23 #[.agg #[.int .i64 T.o, .int .i64 T.r, .int .i64 T.t, .int .i64 T.b, .slice A n c]] w fun e w' => e = .returned (.int .i64 (backV T)) ∧ Below w.heap.size w w' := by
  obtain ⟨o, r, t, b, l⟩ := T
  dsimp only at hR ⊢
  have hB0 : Below w.heap.size w (w.alloc (.cells #[.int .i64 o, .int .i64 r, .int .i64 t, .int .i64 b, .slice A n c] 24)) := (Below.refl _ w).alloc (Nat.le_refl _) _
  have hCk := Check_any o r t b A n c l _ (hR.up hB0) hn
  have hV : backV ⟨o, r, t, b, l⟩ = if chkTh o r t b l = 0 then b else 0 := rfl
  generalize backV ⟨o, r, t, b, l⟩ = V at *
  generalize chkTh o r t b l = ce at *
  have HCk := Lib.hid hCk
  have HB0 := Lib.hid hB0
  clear hCk hB0 hR
  by_cases hc : ce = 0
  · subst hc
    rw [if_pos rfl] at hV
    subst hV
    go_enter Try.func23, Try.ntmps23
    go_wp2_with fail
    refine HCk.out.mono ?_
    rintro e w1 ⟨rfl, hb1⟩
    obtain ⟨hc1, _⟩ := bcell hb1
    have hz1 : w.heap.size < w1.heap.size := by have := hb1.size; simp at this; omega
    go_wp2_with fail
    go_ret
    exact ⟨rfl, HB0.out.trans (hb1.mono HB0.out.size)⟩
  · have hc' : (ce != 0) = true := by simpa using hc
    rw [if_neg hc] at hV
    subst hV
    go_enter Try.func23, Try.ntmps23
    go_wp2_with fail
    refine HCk.out.mono ?_
    rintro e w1 ⟨rfl, hb1⟩
    go_wp2_with fail
    go_ret
    exact ⟨rfl, HB0.out.trans (hb1.mono HB0.out.size)⟩
theorem blk5m {B g g' off : Nat} {X w' : World} {ty : TypeId} {v0 v1 v2 v3 v4 u : Value} (hB : Below B X w') (h : Blk X g ty #[v0, v1, v2, v3, v4]) (hu : X.cell? ⟨g', off, none⟩ = some u) (l : g < B) (l' : g' < B) :
    w'.cell? ⟨g, 0, none⟩ = some v0 ∧ w'.cell? ⟨g, 1, none⟩ = some v1 ∧ w'.cell? ⟨g, 2, none⟩ = some v2 ∧ w'.cell? ⟨g, 3, none⟩ = some v3 ∧ w'.cell? ⟨g, 4, none⟩ = some v4 ∧ w'.cell? ⟨g', off, none⟩ = some u ∧ Below B X w' :=
  have h := h.below hB l
  ⟨h.cell 0, h.cell 1, h.cell 2, h.cell 3, h.cell 4, (hB.cell (p := ⟨g', off, none⟩) l').trans hu, hB⟩
set_option maxRecDepth 100000 in
set_option maxHeartbeats 4000000 in
theorem Age_any (T : Th) (now : Int) (A : Option Addr) (n c : Nat) (w : World) (hR : RdM w A n T.l) (hn : n ≤ 1000) (hnow : -1073741824 ≤ now ∧ now ≤ 1073741824) :
    Calls Try.prog 21 #[.agg #[.int .i64 T.o, .int .i64 T.r, .int .i64 T.t, .int .i64 T.b, .slice A n c], .int .i64 now] w fun e w' => e = .returned (.int .i64 (ageV T now)) ∧ Below w.heap.size w w' := by
  obtain ⟨o, r, t, b, l⟩ := T
  dsimp only at hR ⊢
  obtain ⟨W0, hW0⟩ : ∃ W0, (w.alloc (.cells #[.int .i64 o, .int .i64 r, .int .i64 t, .int .i64 b, .slice A n c] 24)).alloc (.cells #[.int .i64 o, .int .i64 r, .int .i64 t, .int .i64 b, .slice A n c] 76) = W0 := ⟨_, rfl⟩
  have hB0 : Below w.heap.size w W0 := by rw [← hW0]; exact ((Below.refl _ w).alloc (Nat.le_refl _) _).alloc (by simp) _
  have hT0 : Blk W0 w.heap.size 24 #[.int .i64 o, .int .i64 r, .int .i64 t, .int .i64 b, .slice A n c] := by rw [← hW0]; exact (Blk.new _ _ _).alloc _
  have hP0 : Blk W0 (w.heap.size + 1) 76 #[.int .i64 o, .int .i64 r, .int .i64 t, .int .i64 b, .slice A n c] := by
    have := Blk.new (w.alloc (.cells #[.int .i64 o, .int .i64 r, .int .i64 t, .int .i64 b, .slice A n c] 24)) 76 #[.int .i64 o, .int .i64 r, .int .i64 t, .int .i64 b, .slice A n c]
    rw [World.size_alloc] at this
    rw [← hW0]; exact this
  have hCk := Check_any o r t b A n c l W0 (hR.up hB0) hn
  have hV : ageV ⟨o, r, t, b, l⟩ now = if chkTh o r t b l = 0 then (if b = 0 then 0 else (if now < (atM l (openM (totM l - b) l)).t then 0 else now - (atM l (openM (totM l - b) l)).t)) else 0 := rfl
  obtain ⟨V, hVV⟩ : ∃ V, ageV ⟨o, r, t, b, l⟩ now = V := ⟨_, rfl⟩
  rw [hVV] at hV ⊢
  clear hVV
  obtain ⟨ce, hce⟩ : ∃ ce, chkTh o r t b l = ce := ⟨_, rfl⟩
  rw [hce] at hCk hV
  have HCk := Lib.hid hCk
  have HW := Lib.hid hW0
  have HT0 := Lib.hid hT0
  have HP0 := Lib.hid hP0
  have HB0 := Lib.hid hB0
  have HRD := Lib.hid hR
  clear hCk hW0 hB0 hT0 hP0 hR
  by_cases hc : ce = 0
  · subst hc
    rw [if_pos rfl] at hV
    obtain ⟨_, _, _, hmk, b1, b2, t2, _⟩ := chk_zero hce
    by_cases hb : b = 0
    · have hb0 : (b == 0) = true := by simpa using hb
      rw [if_pos hb] at hV
      subst hV
      clear hce hmk
      subst hb
      go_enter Try.func21, Try.ntmps21
      go_wp2_with fail
      rw [HW.out]
      refine HCk.out.mono ?_
      rintro e w1 ⟨rfl, hb1⟩
      have hk := HT0.out.below hb1 HT0.out.lt
      obtain ⟨f0, f1, f2, f3, f4, _⟩ := blk5 (Below.refl _ w1) hk hk.lt
      have l1 := hk.lt
      have HB1 := Lib.hid (HB0.out.trans (hb1.mono HB0.out.size))
      clear hb1 hk
      go_wp2_with fail
      go_ret
      exact ⟨rfl, HB1.out⟩
    · have hb0 : (b == 0) = false := by rw [beq_eq_false_iff_ne]; exact hb
      rw [if_neg hb] at hV
      have hne : l ≠ [] := by rintro rfl; exact hb (tot_nil b b1 b2)
      have hq : openM (totM l - b) l < l.length := openM_lt (p := ⟨-1, 0⟩) (by show totM l - b < totM l; omega) hne
      rw [HRD.out.len] at hq
      have hmat := marks_at hmk (openM (totM l - b) l) (by rw [HRD.out.len]; exact hq)
      have hCo := fun w9 (h9 : Below w.heap.size w w9) => confirmed_any o r t b A n c l w9 (HRD.out.up h9) hn b1 (by omega) (by omega) t2
      have hOp := fun w9 (h9 : Below w.heap.size w w9) => open_any o r t b A n c l (totM l - b) w9 (HRD.out.up h9) hn
      obtain ⟨g, off, hg, hc⟩ := HRD.out.cells
      obtain ⟨rfl, hgw⟩ := hg (by rw [HRD.out.len]; omega)
      obtain ⟨d0, _⟩ := hc (openM (totM l - b) l) (by rw [HRD.out.len]; exact hq)
      obtain ⟨_, _, ⟨_, tb⟩, _⟩ := chk_zero hce
      generalize openM (totM l - b) l = q at *
      generalize totM l - b = Z at *
      obtain ⟨mt, hmt⟩ : ∃ mt, (atM l q).t = mt := ⟨_, rfl⟩
      rw [hmt] at hV d0 hmat
      obtain ⟨mt1, mt2⟩ := hmat
      change -1 < mt at mt1
      have hmt1 : IntKind.i64.wrap (now - mt) = now - mt := IntWalk.i64_in _ (by omega)
      have hqi : (q : Int) < n := by omega
      have HCo := Lib.hid hCo
      have HOp := Lib.hid hOp
      clear hce hmk hCo hOp hc hmt hne
      have hbnz : ¬ b = 0 := hb
      clear hb
      by_cases hlt : now < mt
      · rw [if_pos hlt] at hV
        subst hV
        go_enter Try.func21, Try.ntmps21
        go_wp2_with fail
        rw [HW.out]
        refine HCk.out.mono ?_
        rintro e w1 ⟨rfl, hb1⟩
        have hk := HT0.out.below hb1 HT0.out.lt
        have HP1 := Lib.hid (HP0.out.below hb1 HP0.out.lt)
        obtain ⟨f0, f1, f2, f3, f4, _⟩ := blk5 (Below.refl _ w1) hk hk.lt
        have l1 := hk.lt
        have HB1 := Lib.hid (HB0.out.trans (hb1.mono HB0.out.size))
        have d1 := (HB1.out.cell (p := ⟨g, off + q * 2, none⟩) hgw).trans d0
        have lP1 := HP1.out.lt
        have lg1 : g < w1.heap.size := Nat.lt_of_lt_of_le hgw HB1.out.size
        obtain ⟨e0, e1, e2, e3, e4, _⟩ := blk5 (Below.refl _ w1) HP1.out lP1
        clear hb1 hk
        go_wp2_with fail
        go_region_held3 (fun w' => w'.cell? ⟨w.heap.size + 1, 0, none⟩ = some (.int .i64 o) ∧ w'.cell? ⟨w.heap.size + 1, 1, none⟩ = some (.int .i64 r) ∧ w'.cell? ⟨w.heap.size + 1, 2, none⟩ = some (.int .i64 t) ∧ w'.cell? ⟨w.heap.size + 1, 3, none⟩ = some (.int .i64 b) ∧ w'.cell? ⟨w.heap.size + 1, 4, none⟩ = some (.slice (some ⟨g, off, none⟩) n c) ∧ w'.cell? ⟨g, off + q * 2, none⟩ = some (.int .i64 mt) ∧ Below w1.heap.size w1 w')
        (first
          | exact blk5m ((Below.refl _ w1).drew) HP1.out d1 lP1 lg1
          | (go_split_ands; refine blk5m (below_step ?_ hb') HP1.out d1 lP1 lg1; assumption)
          | (go_split_ands; refine ⟨?_, ?_, ?_, ?_, ?_, ?_, ?_⟩ <;> assumption))
        (first
          | (go_at_call 32; refine (HCo.out _ (HB1.out.trans (Below.mono ?_ HB1.out.size))).mono ?_; (go_split_ands; assumption); rintro e w' ⟨rfl, hb'⟩)
          | (go_at_call 31; refine (HOp.out _ (HB1.out.trans (Below.mono ?_ HB1.out.size))).mono ?_; (go_split_ands; assumption); rintro e w' ⟨rfl, hb'⟩))
        rename_i hS
        have HS := Lib.hid hS
        clear hS
        go_wp2_with fail
        go_ret
        exact ⟨rfl, HB1.out.trans (HS.out.2.2.2.2.2.2.mono HB1.out.size)⟩
      · rw [if_neg hlt] at hV
        subst hV
        go_enter Try.func21, Try.ntmps21
        go_wp2_with fail
        rw [HW.out]
        refine HCk.out.mono ?_
        rintro e w1 ⟨rfl, hb1⟩
        have hk := HT0.out.below hb1 HT0.out.lt
        have HP1 := Lib.hid (HP0.out.below hb1 HP0.out.lt)
        obtain ⟨f0, f1, f2, f3, f4, _⟩ := blk5 (Below.refl _ w1) hk hk.lt
        have l1 := hk.lt
        have HB1 := Lib.hid (HB0.out.trans (hb1.mono HB0.out.size))
        have d1 := (HB1.out.cell (p := ⟨g, off + q * 2, none⟩) hgw).trans d0
        have lP1 := HP1.out.lt
        have lg1 : g < w1.heap.size := Nat.lt_of_lt_of_le hgw HB1.out.size
        obtain ⟨e0, e1, e2, e3, e4, _⟩ := blk5 (Below.refl _ w1) HP1.out lP1
        clear hb1 hk
        go_wp2_with fail
        go_region_held3 (fun w' => w'.cell? ⟨w.heap.size + 1, 0, none⟩ = some (.int .i64 o) ∧ w'.cell? ⟨w.heap.size + 1, 1, none⟩ = some (.int .i64 r) ∧ w'.cell? ⟨w.heap.size + 1, 2, none⟩ = some (.int .i64 t) ∧ w'.cell? ⟨w.heap.size + 1, 3, none⟩ = some (.int .i64 b) ∧ w'.cell? ⟨w.heap.size + 1, 4, none⟩ = some (.slice (some ⟨g, off, none⟩) n c) ∧ w'.cell? ⟨g, off + q * 2, none⟩ = some (.int .i64 mt) ∧ Below w1.heap.size w1 w')
        (first
          | exact blk5m ((Below.refl _ w1).drew) HP1.out d1 lP1 lg1
          | (go_split_ands; refine blk5m (below_step ?_ hb') HP1.out d1 lP1 lg1; assumption)
          | (go_split_ands; refine ⟨?_, ?_, ?_, ?_, ?_, ?_, ?_⟩ <;> assumption))
        (first
          | (go_at_call 32; refine (HCo.out _ (HB1.out.trans (Below.mono ?_ HB1.out.size))).mono ?_; (go_split_ands; assumption); rintro e w' ⟨rfl, hb'⟩)
          | (go_at_call 31; refine (HOp.out _ (HB1.out.trans (Below.mono ?_ HB1.out.size))).mono ?_; (go_split_ands; assumption); rintro e w' ⟨rfl, hb'⟩))
        rename_i hS
        have HS := Lib.hid hS
        clear hS
        have hbw := HS.out.2.2.2.2.2.2
        generalize w' = w2 at *
        have HP2 := Lib.hid (HP1.out.below hbw HP1.out.lt)
        have d2 := (hbw.cell (p := ⟨g, off + q * 2, none⟩) lg1).trans d1
        have HB2 := Lib.hid (HB1.out.trans (hbw.mono HB1.out.size))
        have lP2 := HP2.out.lt
        have lg2 : g < w2.heap.size := Nat.lt_of_lt_of_le lg1 hbw.size
        clear HS hbw f0 f1 f2 f3 f4 e0 e1 e2 e3 e4 d1 lP1 lg1 l1
        obtain ⟨e0, e1, e2, e3, e4, _⟩ := blk5 (Below.refl _ w2) HP2.out lP2
        go_wp2_with fail
        go_region_held3 (fun w' => w'.cell? ⟨w.heap.size + 1, 0, none⟩ = some (.int .i64 o) ∧ w'.cell? ⟨w.heap.size + 1, 1, none⟩ = some (.int .i64 r) ∧ w'.cell? ⟨w.heap.size + 1, 2, none⟩ = some (.int .i64 t) ∧ w'.cell? ⟨w.heap.size + 1, 3, none⟩ = some (.int .i64 b) ∧ w'.cell? ⟨w.heap.size + 1, 4, none⟩ = some (.slice (some ⟨g, off, none⟩) n c) ∧ w'.cell? ⟨g, off + q * 2, none⟩ = some (.int .i64 mt) ∧ Below w2.heap.size w2 w')
        (first
          | exact blk5m ((Below.refl _ w2).drew) HP2.out d2 lP2 lg2
          | (go_split_ands; refine blk5m (below_step ?_ hb') HP2.out d2 lP2 lg2; assumption)
          | (go_split_ands; refine ⟨?_, ?_, ?_, ?_, ?_, ?_, ?_⟩ <;> assumption))
        (first
          | (go_at_call 32; refine (HCo.out _ (HB2.out.trans (Below.mono ?_ HB2.out.size))).mono ?_; (go_split_ands; assumption); rintro e w' ⟨rfl, hb'⟩)
          | (go_at_call 31; refine (HOp.out _ (HB2.out.trans (Below.mono ?_ HB2.out.size))).mono ?_; (go_split_ands; assumption); rintro e w' ⟨rfl, hb'⟩))
        all_goals
          rename_i hS2
          have HS2 := Lib.hid hS2
          clear hS2
          go_wp2_with fail
          all_goals
            go_ret
            refine ⟨ret_int ?_, HB2.out.trans (HS2.out.2.2.2.2.2.2.mono HB2.out.size)⟩
            first | rfl | omega
  · have hc' : (ce != 0) = true := by simpa using hc
    rw [if_neg hc] at hV
    subst hV
    clear hce
    go_enter Try.func21, Try.ntmps21
    go_wp2_with fail
    rw [HW.out]
    refine HCk.out.mono ?_
    rintro e w1 ⟨rfl, hb1⟩
    go_wp2_with fail
    go_ret
    exact ⟨rfl, HB0.out.trans (hb1.mono HB0.out.size)⟩
end Go.Proofs.Ythkpkjigfaannaa
