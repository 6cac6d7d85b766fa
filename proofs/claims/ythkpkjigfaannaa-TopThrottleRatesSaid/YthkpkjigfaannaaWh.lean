/- The walk of Write. Condition: at most 1000 marks. -/
import Derived.Test.YthkpkjigfaannaaWg
import Derived.Test.YthkpkjigfaannaaWf
namespace Go.Proofs.Ythkpkjigfaannaa
open Go.RowKit
/-- a throttle -/
structure Th where
  o : Int
  r : Int
  t : Int
  b : Int
  l : List Mk
def Th.zero : Th := ⟨0, 0, 0, 0, []⟩
/-- a value that is a throttle -/
def ThR (w : World) (v : Value) (T : Th) : Prop := ∃ A n c, v = .agg #[.int .i64 T.o, .int .i64 T.r, .int .i64 T.t, .int .i64 T.b, .slice A n c] ∧ RdM w A n T.l ∧ n ≤ c ∧ c ≤ maxLen
theorem ThR.zero (w : World) : ThR w (.agg #[.int .i64 0, .int .i64 0, .int .i64 0, .int .i64 0, .slice none 0 0]) Th.zero := ⟨none, 0, 0, rfl, Reads.none_, Nat.le_refl _, Nat.zero_le _⟩
def Th.chk (T : Th) : Int := chkTh T.o T.r T.t T.b T.l
def Th.adv (T : Th) (now : Int) : Int := advE T.o T.r T.t T.b T.l now
/-- what Write answers -/
def writeR (T : Th) (now k : Int) : Th × Int × Int :=
  if T.adv now = 0 then
    if 1 ≤ k ∧ k ≤ 4096 then
      if k ≤ T.r * T.o then
        if T.b + k ≤ T.r * T.o then
          if totM T.l + k ≤ 1073741824 then (⟨T.o, T.r, now, T.b + k, admL now T.b k T.l⟩, 0, 0) else (Th.zero, 0, 11)
        else (⟨T.o, T.r, now, T.b, T.l⟩, (T.b + k - T.r * T.o + T.r - 1) / T.r, 0)
      else (Th.zero, 0, 21)
    else (Th.zero, 0, 2)
  else (Th.zero, 0, T.adv now)
theorem results_cell_tmp2 {P : Program} {fn : Func} {p q s : Tmp} {ty : TypeId} (h : fn.results = #[.cell p ty, .tmp q, .tmp s]) (tmps : Array Value) (w : World) (g : Nat) (t : TypeId) (cs : Array Value) (d : TypeDesc)
    (hp : tmps.getD p undef = .pointer (some ⟨g, 0, none⟩)) (hg : Blk w g t cs)
    (hu : P.underlying ty = some d) (hd : (match d with | .struct _ | .array _ _ => true | _ => false) = true) (hi : (P.info? ty).map (·.size) = some cs.size) :
    (results fn tmps).run P w = .ok (.tuple #[.agg cs, tmps.getD q undef, tmps.getD s undef]) w := by
  have hp' : tmps[p]?.getD undef = .pointer (some ⟨g, 0, none⟩) := by simpa using hp
  simp [results, h, hp', asAddr, run_loadVar_row w g t ty cs (0, 0) d hg hu hd hi]
theorem set5 {W : World} {g : Nat} {ty : TypeId} {a b c d e x y z u v : Value} (h : Blk W g ty #[a, b, c, d, e]) : Blk (((((W.setCell ⟨g, 0, none⟩ x).setCell ⟨g, 1, none⟩ y).setCell ⟨g, 2, none⟩ z).setCell ⟨g, 3, none⟩ u).setCell ⟨g, 4, none⟩ v) g ty #[x, y, z, u, v] := ((((h.set_ 0 _).set_ 1 _).set_ 2 _).set_ 3 _).set_ 4 _
theorem bel5 {B : Nat} {W0 W : World} {g : Nat} {x y z u v : Value} (h : Below B W0 W) (hg : B ≤ g) : Below B W0 (((((W.setCell ⟨g, 0, none⟩ x).setCell ⟨g, 1, none⟩ y).setCell ⟨g, 2, none⟩ z).setCell ⟨g, 3, none⟩ u).setCell ⟨g, 4, none⟩ v) :=
  ((((h.setCell (p := ⟨g, 0, none⟩) hg _).setCell (p := ⟨g, 1, none⟩) hg _).setCell (p := ⟨g, 2, none⟩) hg _).setCell (p := ⟨g, 3, none⟩) hg _).setCell (p := ⟨g, 4, none⟩) hg _
theorem cells5 {X : World} {g : Nat} {ty : TypeId} {v0 v1 v2 v3 v4 : Value} (h : Blk X g ty #[v0, v1, v2, v3, v4]) :
    X.cell? ⟨g, 0, none⟩ = some v0 ∧ X.cell? ⟨g, 1, none⟩ = some v1 ∧ X.cell? ⟨g, 2, none⟩ = some v2 ∧ X.cell? ⟨g, 3, none⟩ = some v3 ∧ X.cell? ⟨g, 4, none⟩ = some v4 :=
  ⟨h.cell 0, h.cell 1, h.cell 2, h.cell 3, h.cell 4⟩
theorem Blk.far5 {W : World} {p g : Nat} {ty : TypeId} {cs : Array Value} (h : Blk W p ty cs) (hg : p ≠ g) {x y z u v : Value} :
    Blk (((((W.setCell ⟨g, 0, none⟩ x).setCell ⟨g, 1, none⟩ y).setCell ⟨g, 2, none⟩ z).setCell ⟨g, 3, none⟩ u).setCell ⟨g, 4, none⟩ v) p ty cs :=
  ((((h.far (p := ⟨g, 0, none⟩) hg x).far (p := ⟨g, 1, none⟩) hg y).far (p := ⟨g, 2, none⟩) hg z).far (p := ⟨g, 3, none⟩) hg u).far (p := ⟨g, 4, none⟩) hg v
theorem RdM.far1 {W : World} {A : Option Addr} {n : Nat} {l : List Mk} (h : RdM W A n l) {p : Addr} (hp : ∀ ad, A = some ad → ad.block ≠ p.block) (u : Value) : RdM (W.setCell p u) A n l := Reads.more (Reads.far h hp u) (by simp [World.setCell])
theorem RdM.far5 {W : World} {A : Option Addr} {n : Nat} {l : List Mk} (h : RdM W A n l) {g : Nat} (hg : ∀ ad, A = some ad → ad.block ≠ g) {x y z u v : Value} :
    RdM (((((W.setCell ⟨g, 0, none⟩ x).setCell ⟨g, 1, none⟩ y).setCell ⟨g, 2, none⟩ z).setCell ⟨g, 3, none⟩ u).setCell ⟨g, 4, none⟩ v) A n l :=
  ((((h.far1 (p := ⟨g, 0, none⟩) hg x).far1 (p := ⟨g, 1, none⟩) hg y).far1 (p := ⟨g, 2, none⟩) hg z).far1 (p := ⟨g, 3, none⟩) hg u).far1 (p := ⟨g, 4, none⟩) hg v
theorem RdM.drew {W : World} {A : Option Addr} {n : Nat} {l : List Mk} (h : RdM W A n l) : RdM W.drew A n l := h
theorem chk_zero {o r t b : Int} {l : List Mk} (h : chkTh o r t b l = 0) : (1 ≤ o ∧ o ≤ 1073741824) ∧ (1 ≤ r ∧ r ≤ 4096) ∧ (0 ≤ t ∧ t ≤ 1073741824) ∧ marksB t ⟨-1, 0⟩ l = true ∧ 0 ≤ b ∧ b ≤ totM l ∧ totM l ≤ 1073741824 ∧ (1 < l.length → openM (totM l - b) l = 0) := by
  unfold chkTh at h
  split at h
  · next h1 =>
    split at h
    · next h2 =>
      have hb := tot_bd h2
      unfold chkO at h
      split at h
      · next h3 =>
        split at h
        · cases h
        · next h4 =>
          simp only [okN, betwB, Bool.and_eq_true, decide_eq_true_eq] at h1 h3 h4
          exact ⟨h1.1.1, h1.1.2, h1.2, h2, h3.1, h3.2, hb.2, fun h5 => by
            rcases Nat.eq_zero_or_pos (openM (totM l - b) l) with h6 | h6
            · exact h6
            · exact absurd ⟨h5, h6⟩ h4⟩
      · cases h
    · cases h
  · cases h
theorem adv_zero {o r t b now : Int} {l : List Mk} (h : advE o r t b l now = 0) : chkTh o r t b l = 0 ∧ t ≤ now ∧ now ≤ 1073741824 := by
  unfold advE at h
  split at h
  · next h1 =>
    split at h
    · next h2 =>
      simp only [betwB, decide_eq_true_eq] at h2
      exact ⟨h1, h2.1, h2.2⟩
    · cases h
  · next h1 => exact absurd h h1
theorem mul_bd {r o : Int} (h1 : 1 ≤ r) (h2 : r ≤ 4096) (h3 : 1 ≤ o) (h4 : o ≤ 1073741824) : 1 ≤ r * o ∧ r * o ≤ 4398046511104 := by
  have a1 : 0 ≤ (r - 1) * (o - 1) := Int.mul_nonneg (by omega) (by omega)
  have a2 : 0 ≤ (4096 - r) * o := Int.mul_nonneg (by omega) (by omega)
  rw [Int.sub_mul, Int.mul_sub, Int.mul_sub] at a1
  rw [Int.sub_mul] at a2
  omega
/-- what the laws find behind Write -/
def WriR (R : Th × Int × Int) (e : Ending) (w' : World) : Prop := ∃ v, e = .returned (.tuple #[v, .int .i64 R.2.1, .int .i64 R.2.2]) ∧ ThR w' v R.1
set_option maxRecDepth 100000 in
set_option maxHeartbeats 4000000 in
theorem Write_any (T : Th) (now k : Int) (A : Option Addr) (n c : Nat) (w : World) (hR : RdM w A n T.l) (hn : n ≤ 1000) :
    Calls Try.prog 17 #[.agg #[.int .i64 T.o, .int .i64 T.r, .int .i64 T.t, .int .i64 T.b, .slice A n c], .int .i64 now, .int .i64 k] w fun e w' => WriR (writeR T now k) e w' ∧ Below w.heap.size w w' := by
  obtain ⟨o, r, t, b, l⟩ := T
  dsimp only at hR ⊢
  obtain ⟨W0, hW0⟩ : ∃ W0, ((w.alloc (.cells #[.int .i64 o, .int .i64 r, .int .i64 t, .int .i64 b, .slice A n c] 24)).alloc (.cells #[.int .i64 0, .int .i64 0, .int .i64 0, .int .i64 0, .slice none 0 0] 24)).alloc (.cells #[.int .i64 o, .int .i64 r, .int .i64 t, .int .i64 b, .slice A n c] 76) = W0 := ⟨_, rfl⟩
  have hB0 : Below w.heap.size w W0 := by rw [← hW0]; exact (((Below.refl _ w).alloc (Nat.le_refl _) _).alloc (by simp) _).alloc (by simp; omega) _
  have hs0 : W0.heap.size = w.heap.size + 3 := by rw [← hW0]; simp
  have hP0 : Blk W0 (w.heap.size + 2) 76 #[.int .i64 o, .int .i64 r, .int .i64 t, .int .i64 b, .slice A n c] := by
    have := Blk.new ((w.alloc (.cells #[.int .i64 o, .int .i64 r, .int .i64 t, .int .i64 b, .slice A n c] 24)).alloc (.cells #[.int .i64 0, .int .i64 0, .int .i64 0, .int .i64 0, .slice none 0 0] 24)) 76 #[.int .i64 o, .int .i64 r, .int .i64 t, .int .i64 b, .slice A n c]
    simp only [World.size_alloc] at this
    rw [← hW0]; exact this
  have hR0 : Blk W0 (w.heap.size + 1) 24 #[.int .i64 0, .int .i64 0, .int .i64 0, .int .i64 0, .slice none 0 0] := by
    have := (Blk.new (w.alloc (.cells #[.int .i64 o, .int .i64 r, .int .i64 t, .int .i64 b, .slice A n c] 24)) 24 #[.int .i64 0, .int .i64 0, .int .i64 0, .int .i64 0, .slice none 0 0]).alloc (.cells #[.int .i64 o, .int .i64 r, .int .i64 t, .int .i64 b, .slice A n c] 76)
    rw [World.size_alloc] at this
    rw [← hW0]; exact this
  have hAdv := advance_any (w.heap.size + 2) o r t b now A n c l W0 hP0 ((hR.below hB0).more (by omega)) hn
  obtain ⟨ae, hae⟩ : ∃ ae, advE o r t b l now = ae := ⟨_, rfl⟩
  rw [hae] at hAdv
  have HAdv := Lib.hid hAdv
  have HW := Lib.hid hW0
  have HR0 := Lib.hid hR0
  have HB0 := Lib.hid hB0
  have hTa : Th.adv ⟨o, r, t, b, l⟩ now = ae := hae
  clear hAdv hW0 hR0 hB0 hP0 hae
  by_cases ha0 : ae = 0
  · subst ha0
    obtain ⟨hck, tn1, tn2⟩ := adv_zero (show advE o r t b l now = 0 from hTa)
    obtain ⟨⟨o1, o2⟩, ⟨r1, r2⟩, _, _, b1, b2, t2, _⟩ := chk_zero hck
    obtain ⟨m1, m2⟩ := mul_bd r1 r2 o1 o2
    have hBd := fun (A : Option Addr) (n c : Nat) (w9 : World) => bound_any o r now b A n c w9 (by omega) (by omega)
    have hWR : writeR ⟨o, r, t, b, l⟩ now k = if 1 ≤ k ∧ k ≤ 4096 then (if k ≤ r * o then (if b + k ≤ r * o then (if totM l + k ≤ 1073741824 then (⟨o, r, now, b + k, admL now b k l⟩, 0, 0) else (Th.zero, 0, 11)) else (⟨o, r, now, b, l⟩, (b + k - r * o + r - 1) / r, 0)) else (Th.zero, 0, 21)) else (Th.zero, 0, 2) := by rw [writeR, if_pos hTa]
    generalize r * o = B at *
    have HBd := Lib.hid hBd
    have HWR := Lib.hid hWR
    clear hBd hWR hTa hck
    by_cases hk1 : 1 ≤ k
    · by_cases hk2 : k ≤ 4096
      · have HBT : Hid (betwB k 1 4096 = true) := by simp [Hid, betwB]; omega
        by_cases hkB : k ≤ B
        · by_cases hbk : b + k ≤ B
          · by_cases hT : totM l + k ≤ 1073741824
            · have HW9 : Hid (writeR ⟨o, r, t, b, l⟩ now k = (⟨o, r, now, b + k, admL now b k l⟩, 0, 0)) := by rw [Hid, HWR.out, if_pos ⟨hk1, hk2⟩, if_pos hkB, if_pos hbk, if_pos hT]
              have hTx : (if totM l + k ≤ 1073741824 then (0 : Int) else 11) = 0 := if_pos hT
              go_enter Try.func17, Try.ntmps17
              go_wp2_with fail
              rw [HW.out]
              refine HAdv.out.mono ?_
              rintro e w1 ⟨rfl, hb1, hx⟩
              obtain ⟨A', c', hkP, hown⟩ := hx trivial
              have HKP := Lib.hid hkP
              have HOW := Lib.hid hown
              have HR1 := Lib.hid (HR0.out.below hb1 (by omega))
              have HB1 := Lib.hid (HB0.out.trans (hb1.mono (by omega)))
              obtain ⟨f0, f1, f2, f3, f4, _⟩ := blk5 (Below.refl _ w1) hkP hkP.lt
              have lP := hkP.lt
              clear hx hkP hown hb1
              go_wp2_with fail
              refine (between_any k 1 4096 _).mono ?_
              rintro e w2 ⟨rfl, rfl⟩
              rw [HBT.out]
              go_wp2_with fail
              refine (HBd.out _ _ _ _).mono ?_
              rintro e w2 ⟨rfl, hb2⟩
              have HKP2 := Lib.hid (HKP.out.below hb2 HKP.out.lt)
              have HOW2 := Lib.hid (own_below HOW.out hb2)
              have HR2 := Lib.hid (HR1.out.below hb2 HR1.out.lt)
              have HB2 := Lib.hid (HB1.out.trans (hb2.mono HB1.out.size))
              obtain ⟨f0, f1, f2, f3, f4, _⟩ := blk5 (Below.refl _ w2) HKP2.out HKP2.out.lt
              have lP2 := HKP2.out.lt
              clear hb2
              go_wp2_with fail
              go_region_held3 (fun w' => w'.cell? ⟨w.heap.size + 2, 0, none⟩ = some (.int .i64 o) ∧ w'.cell? ⟨w.heap.size + 2, 1, none⟩ = some (.int .i64 r) ∧ w'.cell? ⟨w.heap.size + 2, 2, none⟩ = some (.int .i64 now) ∧ w'.cell? ⟨w.heap.size + 2, 3, none⟩ = some (.int .i64 b) ∧ w'.cell? ⟨w.heap.size + 2, 4, none⟩ = some (.slice A' n c') ∧ Below w2.heap.size w2 w')
                (first
                  | exact blk5 ((Below.refl _ w2).drew) HKP2.out lP2
                  | (go_split_ands; refine blk5 (below_step ?_ hb') HKP2.out lP2; assumption))
                (((go_at_call 34; refine (HBd.out _ _ _ _).mono ?_; rintro e w' ⟨rfl, hb'⟩)))
              rename_i hS
              have hbw := hS.2.2.2.2.2
              generalize w' = w3 at *
              have HKP3 := Lib.hid (HKP2.out.below hbw HKP2.out.lt)
              have HOW3 := Lib.hid (own_below HOW2.out hbw)
              have HR3 := Lib.hid (HR2.out.below hbw HR2.out.lt)
              have HB3 := Lib.hid (HB2.out.trans (hbw.mono HB2.out.size))
              obtain ⟨f0, f1, f2, f3, f4, _⟩ := blk5 (Below.refl _ w3) HKP3.out HKP3.out.lt
              have lP3 := HKP3.out.lt
              clear hbw hS
              have hAd := admit_any (w.heap.size + 2) o r now b k A' n c' l w3 HKP3.out HOW3.out hn (by omega) (by omega) b1 b2 t2
              rw [hTx] at hAd
              have HAd := Lib.hid hAd
              have HTT := Lib.hid hT
              clear hAd hTx hT
              go_wp2_with fail
              refine HAd.out.mono ?_
              rintro e w5 ⟨rfl, hb5, hx5⟩
              obtain ⟨A5, n5, c5, hk5, hR5, hnc5, hcm5, hgt5⟩ := hx5 HTT.out
              have HE := Lib.hid (And.intro hk5 (And.intro hR5 (And.intro hnc5 (And.intro hcm5 hgt5))))
              have HR5 := Lib.hid (HR3.out.below hb5 (by omega))
              have HB5 := Lib.hid (HB3.out.trans (hb5.mono (by omega)))
              obtain ⟨f0, f1, f2, f3, f4, _⟩ := blk5 (Below.refl _ w5) hk5 hk5.lt
              have hk := HR5.out
              obtain ⟨g0, g1, g2, g3, g4, _⟩ := blk5 (Below.refl _ w5) hk hk.lt
              have z0 := hk.frozen 0
              have z1 := hk.frozen 1
              have z2 := hk.frozen 2
              have z3 := hk.frozen 3
              have z4 := hk.frozen 4
              have l1 := hk.lt
              have l2 := hk5.lt
              clear hk hk5 hR5 hnc5 hcm5 hb5 hx5 hgt5
              go_wp2_with fail
              refine bodyPost_ret (results_cell_tmp2 rfl _ _ _ _ _ _ rfl (set5 HR5.out) Try.underlying24 rfl info24) rfl ?_
              rw [HW9.out]
              refine ⟨⟨_, rfl, A5, n5, c5, rfl, ?_, HE.out.2.2.1, HE.out.2.2.2.1⟩, bel5 HB5.out (by omega)⟩
              exact RdM.far5 HE.out.2.1 (fun ad h => by have := HE.out.2.2.2.2 ad h; omega)
            · have HW9 : Hid (writeR ⟨o, r, t, b, l⟩ now k = (Th.zero, 0, 11)) := by rw [Hid, HWR.out, if_pos ⟨hk1, hk2⟩, if_pos hkB, if_pos hbk, if_neg hT]
              have hTx : (if totM l + k ≤ 1073741824 then (0 : Int) else 11) = 11 := if_neg hT
              go_enter Try.func17, Try.ntmps17
              go_wp2_with fail
              rw [HW.out]
              refine HAdv.out.mono ?_
              rintro e w1 ⟨rfl, hb1, hx⟩
              obtain ⟨A', c', hkP, hown⟩ := hx trivial
              have HKP := Lib.hid hkP
              have HOW := Lib.hid hown
              have HR1 := Lib.hid (HR0.out.below hb1 (by omega))
              have HB1 := Lib.hid (HB0.out.trans (hb1.mono (by omega)))
              obtain ⟨f0, f1, f2, f3, f4, _⟩ := blk5 (Below.refl _ w1) hkP hkP.lt
              have lP := hkP.lt
              clear hx hkP hown hb1
              go_wp2_with fail
              refine (between_any k 1 4096 _).mono ?_
              rintro e w2 ⟨rfl, rfl⟩
              rw [HBT.out]
              go_wp2_with fail
              refine (HBd.out _ _ _ _).mono ?_
              rintro e w2 ⟨rfl, hb2⟩
              have HKP2 := Lib.hid (HKP.out.below hb2 HKP.out.lt)
              have HOW2 := Lib.hid (own_below HOW.out hb2)
              have HR2 := Lib.hid (HR1.out.below hb2 HR1.out.lt)
              have HB2 := Lib.hid (HB1.out.trans (hb2.mono HB1.out.size))
              obtain ⟨f0, f1, f2, f3, f4, _⟩ := blk5 (Below.refl _ w2) HKP2.out HKP2.out.lt
              have lP2 := HKP2.out.lt
              clear hb2
              go_wp2_with fail
              go_region_held3 (fun w' => w'.cell? ⟨w.heap.size + 2, 0, none⟩ = some (.int .i64 o) ∧ w'.cell? ⟨w.heap.size + 2, 1, none⟩ = some (.int .i64 r) ∧ w'.cell? ⟨w.heap.size + 2, 2, none⟩ = some (.int .i64 now) ∧ w'.cell? ⟨w.heap.size + 2, 3, none⟩ = some (.int .i64 b) ∧ w'.cell? ⟨w.heap.size + 2, 4, none⟩ = some (.slice A' n c') ∧ Below w2.heap.size w2 w')
                (first
                  | exact blk5 ((Below.refl _ w2).drew) HKP2.out lP2
                  | (go_split_ands; refine blk5 (below_step ?_ hb') HKP2.out lP2; assumption))
                (((go_at_call 34; refine (HBd.out _ _ _ _).mono ?_; rintro e w' ⟨rfl, hb'⟩)))
              rename_i hS
              have hbw := hS.2.2.2.2.2
              generalize w' = w3 at *
              have HKP3 := Lib.hid (HKP2.out.below hbw HKP2.out.lt)
              have HOW3 := Lib.hid (own_below HOW2.out hbw)
              have HR3 := Lib.hid (HR2.out.below hbw HR2.out.lt)
              have HB3 := Lib.hid (HB2.out.trans (hbw.mono HB2.out.size))
              obtain ⟨f0, f1, f2, f3, f4, _⟩ := blk5 (Below.refl _ w3) HKP3.out HKP3.out.lt
              have lP3 := HKP3.out.lt
              clear hbw hS
              have hAd := admit_any (w.heap.size + 2) o r now b k A' n c' l w3 HKP3.out HOW3.out hn (by omega) (by omega) b1 b2 t2
              rw [hTx] at hAd
              have HAd := Lib.hid hAd
              have HTT := Lib.hid hT
              clear hAd hTx hT
              go_wp2_with fail
              refine HAd.out.mono ?_
              rintro e w5 ⟨rfl, hb5, hx5⟩
              have HR5 := Lib.hid (HR3.out.below hb5 (by omega))
              have HB5 := Lib.hid (HB3.out.trans (hb5.mono (by omega)))
              clear hb5 hx5
              have hk := HR5.out
              obtain ⟨g0, g1, g2, g3, g4, _⟩ := blk5 (Below.refl _ w5) hk hk.lt
              have z0 := hk.frozen 0
              have z1 := hk.frozen 1
              have z2 := hk.frozen 2
              have z3 := hk.frozen 3
              have z4 := hk.frozen 4
              have l1 := hk.lt
              clear hk
              go_wp2_with fail
              refine bodyPost_ret (results_cell_tmp2 rfl _ _ _ _ _ _ rfl (set5 HR5.out) Try.underlying24 rfl info24) rfl ?_
              rw [HW9.out]
              exact ⟨⟨_, rfl, ThR.zero _⟩, bel5 HB5.out (by omega)⟩
          · have HW9 : Hid (writeR ⟨o, r, t, b, l⟩ now k = (⟨o, r, now, b, l⟩, (b + k - B + r - 1) / r, 0)) := by rw [Hid, HWR.out, if_pos ⟨hk1, hk2⟩, if_pos hkB, if_neg hbk]
            go_enter Try.func17, Try.ntmps17
            go_wp2_with fail
            rw [HW.out]
            refine HAdv.out.mono ?_
            rintro e w1 ⟨rfl, hb1, hx⟩
            obtain ⟨A', c', hkP, hown⟩ := hx trivial
            have HKP := Lib.hid hkP
            have HOW := Lib.hid hown
            have HR1 := Lib.hid (HR0.out.below hb1 (by omega))
            have HB1 := Lib.hid (HB0.out.trans (hb1.mono (by omega)))
            obtain ⟨f0, f1, f2, f3, f4, _⟩ := blk5 (Below.refl _ w1) hkP hkP.lt
            have lP := hkP.lt
            clear hx hkP hown hb1
            go_wp2_with fail
            refine (between_any k 1 4096 _).mono ?_
            rintro e w2 ⟨rfl, rfl⟩
            rw [HBT.out]
            go_wp2_with fail
            refine (HBd.out _ _ _ _).mono ?_
            rintro e w2 ⟨rfl, hb2⟩
            have HKP2 := Lib.hid (HKP.out.below hb2 HKP.out.lt)
            have HOW2 := Lib.hid (own_below HOW.out hb2)
            have HR2 := Lib.hid (HR1.out.below hb2 HR1.out.lt)
            have HB2 := Lib.hid (HB1.out.trans (hb2.mono HB1.out.size))
            obtain ⟨f0, f1, f2, f3, f4, _⟩ := blk5 (Below.refl _ w2) HKP2.out HKP2.out.lt
            have lP2 := HKP2.out.lt
            clear hb2
            go_wp2_with fail
            go_region_held3 (fun w' => w'.cell? ⟨w.heap.size + 2, 0, none⟩ = some (.int .i64 o) ∧ w'.cell? ⟨w.heap.size + 2, 1, none⟩ = some (.int .i64 r) ∧ w'.cell? ⟨w.heap.size + 2, 2, none⟩ = some (.int .i64 now) ∧ w'.cell? ⟨w.heap.size + 2, 3, none⟩ = some (.int .i64 b) ∧ w'.cell? ⟨w.heap.size + 2, 4, none⟩ = some (.slice A' n c') ∧ Below w2.heap.size w2 w')
              (first
                | exact blk5 ((Below.refl _ w2).drew) HKP2.out lP2
                | (go_split_ands; refine blk5 (below_step ?_ hb') HKP2.out lP2; assumption))
              (((go_at_call 34; refine (HBd.out _ _ _ _).mono ?_; rintro e w' ⟨rfl, hb'⟩)))
            rename_i hS
            have hbw := hS.2.2.2.2.2
            generalize w' = w3 at *
            have HKP3 := Lib.hid (HKP2.out.below hbw HKP2.out.lt)
            have HOW3 := Lib.hid (own_below HOW2.out hbw)
            have HR3 := Lib.hid (HR2.out.below hbw HR2.out.lt)
            have HB3 := Lib.hid (HB2.out.trans (hbw.mono HB2.out.size))
            obtain ⟨f0, f1, f2, f3, f4, _⟩ := blk5 (Below.refl _ w3) HKP3.out HKP3.out.lt
            have lP3 := HKP3.out.lt
            clear hbw hS
            go_wp2_with fail
            obtain ⟨M, hM⟩ : ∃ M, b + k - B = M := ⟨_, rfl⟩
            obtain ⟨D, hD⟩ : ∃ D, (M + r - 1) / r = D := ⟨_, rfl⟩
            have hM1 : 1 ≤ M := by omega
            have hM2 : M ≤ 2147483648 := by omega
            have hD0 : 0 ≤ D := by rw [← hD]; exact Int.ediv_nonneg (by omega) (by omega)
            have hD1 : D ≤ M + r - 1 := by rw [← hD]; exact Int.ediv_le_self _ (by omega)
            have HWD : Hid ((b + k - B + r - 1) / r = D) := by rw [Hid, hM, hD]
            have hw1 : IntKind.i64.wrap (M + r) = M + r := IntWalk.i64_in _ (by omega)
            have hw2 : IntKind.i64.wrap (M + r - 1) = M + r - 1 := IntWalk.i64_in _ (by omega)
            have hw3 : IntKind.i64.wrap ((M + r - 1).tdiv r) = D := by rw [Int.tdiv_eq_ediv_of_nonneg (by omega), hD]; exact IntWalk.i64_in _ (by omega)
            have hwa : IntKind.i64.wrap (b + k) = b + k := IntWalk.i64_in _ (by omega)
            have hwb : IntKind.i64.wrap (b + k - B) = b + k - B := IntWalk.i64_in _ (by omega)
            have HV : Hid (IntKind.i64.wrap ((IntKind.i64.wrap (IntKind.i64.wrap (IntKind.i64.wrap (IntKind.i64.wrap (b + k) - B) + r) - 1)).tdiv r) = (b + k - B + r - 1) / r) := by rw [Hid, hwa, hwb, hM, hw1, hw2, hw3, hD]
            clear hwa hwb
            have hr0 : ¬ r = 0 := by omega
            have HM := Lib.hid hM
            rw [hM]
            have hk := HR3.out
            obtain ⟨g0, g1, g2, g3, g4, _⟩ := blk5 (Below.refl _ w3) hk hk.lt
            have z0 := hk.frozen 0
            have z1 := hk.frozen 1
            have z2 := hk.frozen 2
            have z3 := hk.frozen 3
            have z4 := hk.frozen 4
            have l1 := hk.lt
            have HNP : w.heap.size + 2 ≠ w.heap.size + 1 := by omega
            clear hk hM hD hM1 hM2 hD0 hD1
            go_region_held3 (fun w' => w'.cell? ⟨w.heap.size + 2, 0, none⟩ = some (.int .i64 o) ∧ w'.cell? ⟨w.heap.size + 2, 1, none⟩ = some (.int .i64 r) ∧ w'.cell? ⟨w.heap.size + 2, 2, none⟩ = some (.int .i64 now) ∧ w'.cell? ⟨w.heap.size + 2, 3, none⟩ = some (.int .i64 b) ∧ w'.cell? ⟨w.heap.size + 2, 4, none⟩ = some (.slice A' n c'))
              (first
                | with_reducible exact cells5 HKP3.out.drew
                | with_reducible exact cells5 (Blk.drew (Blk.far5 HKP3.out HNP)))
              (fail)
            rename_i hS2
            clear hS2
            go_wp2_with fail
            refine bodyPost_ret (results_cell_tmp2 rfl _ _ _ _ _ _ rfl (Blk.drew (set5 HR3.out)) Try.underlying24 rfl info24) rfl ?_
            rw [HW9.out]
            obtain ⟨_, _, hAe, hnc9, hcm9, hR9⟩ := own_slice HOW3.out
            injection hAe with eA _ ec
            subst eA ec
            refine ⟨⟨_, congrArg (fun q => Ending.returned (.tuple #[.agg #[.int .i64 o, .int .i64 r, .int .i64 now, .int .i64 b, .slice A' n c'], .int .i64 q, .int .i64 0])) HV.out, A', n, c', rfl, ?_, hnc9, hcm9⟩, (bel5 HB3.out (by omega)).drew⟩
            exact RdM.drew (RdM.far5 (show RdM w3 A' n l from hR9) (fun ad h => by
              have := own_block_ge HOW3.out ad.block (by rw [h]; rfl)
              omega))
        · have HW9 : Hid (writeR ⟨o, r, t, b, l⟩ now k = (Th.zero, 0, 21)) := by rw [Hid, HWR.out, if_pos ⟨hk1, hk2⟩, if_neg hkB]
          go_enter Try.func17, Try.ntmps17
          go_wp2_with fail
          rw [HW.out]
          refine HAdv.out.mono ?_
          rintro e w1 ⟨rfl, hb1, hx⟩
          obtain ⟨A', c', hkP, hown⟩ := hx trivial
          have HKP := Lib.hid hkP
          have HOW := Lib.hid hown
          have HR1 := Lib.hid (HR0.out.below hb1 (by omega))
          have HB1 := Lib.hid (HB0.out.trans (hb1.mono (by omega)))
          obtain ⟨f0, f1, f2, f3, f4, _⟩ := blk5 (Below.refl _ w1) hkP hkP.lt
          have lP := hkP.lt
          clear hx hkP hown hb1
          go_wp2_with fail
          refine (between_any k 1 4096 _).mono ?_
          rintro e w2 ⟨rfl, rfl⟩
          rw [HBT.out]
          go_wp2_with fail
          refine (HBd.out _ _ _ _).mono ?_
          rintro e w2 ⟨rfl, hb2⟩
          have HKP2 := Lib.hid (HKP.out.below hb2 HKP.out.lt)
          have HOW2 := Lib.hid (own_below HOW.out hb2)
          have HR2 := Lib.hid (HR1.out.below hb2 HR1.out.lt)
          have HB2 := Lib.hid (HB1.out.trans (hb2.mono HB1.out.size))
          obtain ⟨f0, f1, f2, f3, f4, _⟩ := blk5 (Below.refl _ w2) HKP2.out HKP2.out.lt
          have lP2 := HKP2.out.lt
          clear hb2
          have hk := HR2.out
          obtain ⟨g0, g1, g2, g3, g4, _⟩ := blk5 (Below.refl _ w2) hk hk.lt
          have z0 := hk.frozen 0
          have z1 := hk.frozen 1
          have z2 := hk.frozen 2
          have z3 := hk.frozen 3
          have z4 := hk.frozen 4
          have l1 := hk.lt
          clear hk
          go_wp2_with fail
          refine bodyPost_ret (results_cell_tmp2 rfl _ _ _ _ _ _ rfl (set5 HR2.out) Try.underlying24 rfl info24) rfl ?_
          rw [HW9.out]
          exact ⟨⟨_, rfl, ThR.zero _⟩, bel5 HB2.out (by omega)⟩
      · have HBT : Hid (betwB k 1 4096 = false) := by simp [Hid, betwB]; omega
        have HW9 : Hid (writeR ⟨o, r, t, b, l⟩ now k = (Th.zero, 0, 2)) := by rw [Hid, HWR.out, if_neg (by omega)]
        go_enter Try.func17, Try.ntmps17
        go_wp2_with fail
        rw [HW.out]
        refine HAdv.out.mono ?_
        rintro e w1 ⟨rfl, hb1, hx⟩
        obtain ⟨A', c', hkP, hown⟩ := hx trivial
        have HKP := Lib.hid hkP
        have HOW := Lib.hid hown
        have HR1 := Lib.hid (HR0.out.below hb1 (by omega))
        have HB1 := Lib.hid (HB0.out.trans (hb1.mono (by omega)))
        obtain ⟨f0, f1, f2, f3, f4, _⟩ := blk5 (Below.refl _ w1) hkP hkP.lt
        have lP := hkP.lt
        clear hx hkP hown hb1
        go_wp2_with fail
        refine (between_any k 1 4096 _).mono ?_
        rintro e w2 ⟨rfl, rfl⟩
        rw [HBT.out]
        have hk := HR1.out
        obtain ⟨g0, g1, g2, g3, g4, _⟩ := blk5 (Below.refl _ w1) hk hk.lt
        have z0 := hk.frozen 0
        have z1 := hk.frozen 1
        have z2 := hk.frozen 2
        have z3 := hk.frozen 3
        have z4 := hk.frozen 4
        have l1 := hk.lt
        clear hk
        go_wp2_with fail
        refine bodyPost_ret (results_cell_tmp2 rfl _ _ _ _ _ _ rfl (set5 HR1.out) Try.underlying24 rfl info24) rfl ?_
        rw [HW9.out]
        exact ⟨⟨_, rfl, ThR.zero _⟩, bel5 HB1.out (by omega)⟩
    · have HBT : Hid (betwB k 1 4096 = false) := by simp [Hid, betwB]; omega
      have HW9 : Hid (writeR ⟨o, r, t, b, l⟩ now k = (Th.zero, 0, 2)) := by rw [Hid, HWR.out, if_neg (by omega)]
      go_enter Try.func17, Try.ntmps17
      go_wp2_with fail
      rw [HW.out]
      refine HAdv.out.mono ?_
      rintro e w1 ⟨rfl, hb1, hx⟩
      obtain ⟨A', c', hkP, hown⟩ := hx trivial
      have HKP := Lib.hid hkP
      have HOW := Lib.hid hown
      have HR1 := Lib.hid (HR0.out.below hb1 (by omega))
      have HB1 := Lib.hid (HB0.out.trans (hb1.mono (by omega)))
      obtain ⟨f0, f1, f2, f3, f4, _⟩ := blk5 (Below.refl _ w1) hkP hkP.lt
      have lP := hkP.lt
      clear hx hkP hown hb1
      go_wp2_with fail
      refine (between_any k 1 4096 _).mono ?_
      rintro e w2 ⟨rfl, rfl⟩
      rw [HBT.out]
      have hk := HR1.out
      obtain ⟨g0, g1, g2, g3, g4, _⟩ := blk5 (Below.refl _ w1) hk hk.lt
      have z0 := hk.frozen 0
      have z1 := hk.frozen 1
      have z2 := hk.frozen 2
      have z3 := hk.frozen 3
      have z4 := hk.frozen 4
      have l1 := hk.lt
      clear hk
      go_wp2_with fail
      refine bodyPost_ret (results_cell_tmp2 rfl _ _ _ _ _ _ rfl (set5 HR1.out) Try.underlying24 rfl info24) rfl ?_
      rw [HW9.out]
      exact ⟨⟨_, rfl, ThR.zero _⟩, bel5 HB1.out (by omega)⟩
  · have HW9 : Hid (writeR ⟨o, r, t, b, l⟩ now k = (Th.zero, 0, ae)) := by rw [Hid, writeR, if_neg (by rw [hTa]; exact ha0), hTa]
    have ha0' : (ae != 0) = true := by simpa using ha0
    rw [HW9.out]
    clear hTa
    go_enter Try.func17, Try.ntmps17
    go_wp2_with fail
    rw [HW.out]
    refine HAdv.out.mono ?_
    rintro e w1 ⟨rfl, hb1, _⟩
    have hk := HR0.out.below hb1 (by omega)
    have HK := Lib.hid hk
    obtain ⟨f0, f1, f2, f3, f4, _⟩ := blk5 (Below.refl _ w1) hk hk.lt
    have z0 := hk.frozen 0
    have z1 := hk.frozen 1
    have z2 := hk.frozen 2
    have z3 := hk.frozen 3
    have z4 := hk.frozen 4
    have l1 := hk.lt
    have HB1 := Lib.hid (HB0.out.trans (hb1.mono (by omega)))
    clear hk hb1
    go_wp2_with fail
    refine bodyPost_ret (results_cell_tmp2 rfl _ _ _ _ _ _ rfl (set5 HK.out) Try.underlying24 rfl info24) rfl ?_
    exact ⟨⟨_, rfl, ThR.zero _⟩, bel5 HB1.out (by omega)⟩
end Go.Proofs.Ythkpkjigfaannaa
