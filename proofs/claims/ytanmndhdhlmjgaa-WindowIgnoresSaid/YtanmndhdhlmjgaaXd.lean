/- The walk of due's iterator. Conditions: the sender passes its check. -/
import Derived.Test.YtanmndhdhlmjgaaXc
import Derived.RangeFuncCalls
import Derived.RangeFuncLeaves
import Derived.LoopIn
import Derived.LoopNIn
import Derived.BigFrameIn
import Derived.Shelf.Abstract
import Derived.Shelf.RegionOpen
namespace Go.Proofs.Ytanmndhdhlmjgaa
open Go.RowKit Go.Shelf
attribute [local go_sem] Oper.semAt_some
/-- what due's iterator leaves: the sender that Poll returns; xs are its packets -/
def DueF (B RB p1 p2 p3 p4 base bs : Nat) (now : Int) (s : Sm) (xs : List Ke) (W : World) : Prop :=
  ∃ vo vq es qs, DueI B RB p1 p2 p3 p4 base bs now (pollS s now).1 vo vq es qs W ∧ xs.map Ke.pm = (pollS s now).2
theorem updE_at1 (f : Oe → Oe) {k : Nat} (es : List Oe) (h : k < es.length) (h' : k < (updE f (k + 1) es).length) : (updE f (k + 1) es)[k] = f es[k] := by
  have h2 : (updE f (k + 1) es)[k]? = some (f es[k]) := by
    rw [← updE_set f es h, List.getElem?_set_self (by rw [updE_len]; exact h)]
  rw [List.getElem?_eq_getElem h'] at h2
  injection h2
theorem again_len (ses now tmo : Int) : ∀ l : List Om, (l.flatMap (againP ses now tmo)).length ≤ l.length
  | [] => Nat.le_refl _
  | o :: l => by
    have h := again_len ses now tmo l
    have h2 : (againP ses now tmo o).length ≤ 1 := by unfold againP; split <;> simp
    rw [List.flatMap_cons, List.length_append, List.length_cons]
    omega
def A1 (s : Sm) (now : Int) : List Pm := s.out.flatMap (againP s.ses now s.tmo)
/-- the second loop's state -/
structure Du2 (s : Sm) (J : List Ke → World → Prop) (B RB p1 p2 p3 p4 base bs : Nat) (now : Int) (m : Sm) (vo vq : Value) (es : List Oe) (qs : List Qe) (xs : List Ke) (pre : List Pm) (W : World) : Prop where
  mo : DMo s m
  due : DueI B RB p1 p2 p3 p4 base bs now m vo vq es qs W
  j : J xs W
  xe : xs.map Ke.pm = A1 s now ++ pre
  few : xs.length ≤ 64 + m.out.length
  fil : fillS now { s with out := s.out.map (againO now s.tmo) } s.q.length = ((fillS now m m.q.length).1, pre ++ (fillS now m m.q.length).2)
set_option linter.unusedSimpArgs false in
set_option maxRecDepth 100000 in
set_option maxHeartbeats 2000000 in
theorem due3_in (n : Nat) (hn : 1 ≤ n) (lf B RB p1 p2 p3 p4 base bs : Nat) (now : Int) (s : Sm) (vo vq : Value) (es : List Oe) (qs : List Qe) (J : List Ke → World → Prop) (W : World)
    (hJ : ∀ xs A C, J xs A → Turn bs [25, 82] A C → J xs C)
    (hY : ∀ pre x W1, J pre W1 → KeR W1 base x → pre.length < 200 → YieldAt Fence.wide (n - 1) Try.prog lf #[.agg (encK x).toArray] W1 fun e W' => e = .returned (.bool true) ∧ J (pre ++ [x]) W' ∧ TurnW bs [48, 55] W1 W')
    (hs : chkS s = 0) (hnow : 0 ≤ now ∧ now ≤ 1073741824) (hbs : base ≤ bs) (hB : bs ≤ B) (hne : B ≠ RB) (h : DueI B RB p1 p2 p3 p4 base bs now s vo vq es qs W) (h0 : J [] W) :
    CallsIn Fence.wide n Try.prog 79 #[.func (.yield lf) #[] #[], .pointer (some ⟨p1, 0, none⟩), .pointer (some ⟨p2, 0, none⟩), .pointer (some ⟨p3, 0, none⟩), .pointer (some ⟨p4, 0, none⟩)] W fun e W' => (∃ v, e = .returned v) ∧ ∃ xs : List Ke, DueF B RB p1 p2 p3 p4 base bs now s xs W' ∧ J xs W' := by
  have hrg := chkS_rng hs
  have hel : ∀ k (h : k < s.out.length), (0 ≤ s.out[k].time ∧ s.out[k].time ≤ 1073741824) ∧ (1 ≤ s.out[k].cnt ∧ s.out[k].cnt ≤ 1073741824) ∧ s.out[k].p.length ≤ 4096 := fun k h => by
    have h1 := outE_ok (outsE_at s.base s.out 0 hrg.outs k h)
    exact ⟨h1.2.2.2.1, h1.2.1, h1.2.2.2.2⟩
  have HG := Lib.hid (And.intro hs (And.intro hrg (And.intro hel (And.intro hJ hY))))
  have b1 := hrg.tmo
  clear hs hrg hel hJ hY
  have hle : es.length = s.out.length := by rw [← h.om, List.length_map]
  obtain ⟨Ao, co, rfl, -, -⟩ := h.own.vform
  obtain ⟨no, hno⟩ : ∃ n, es.length = n := ⟨_, rfl⟩
  rw [hno] at h hle
  have HL := Lib.hid (And.intro hno hle)
  clear hno hle
  have hno2 : no ≤ 64 := by have h1 := HG.out.2.1.out; have h2 := HG.out.2.1.lim; rw [← HL.out.2] at h1; omega
  have H0 := Lib.hid (And.intro h h0)
  have xp1 : W.cell? ⟨p1, 0, none⟩ = some (.pointer (some ⟨B, 0, none⟩)) := h.c1.cell 0
  have xb6 : W.cell? ⟨B, 6, none⟩ = some (.slice Ao no co) := h.blk.cell 6
  have HE : Hid (s.out = es.map Oe.om) := h.om.symm
  clear h h0
  refine callsIn_of_wp Try.func79 rfl trivial ?_ rfl
  simp only [Try.ntmps79, List.size_toArray, List.length_cons, List.length_nil, Nat.reduceAdd, Nat.reduceSub, Array.replicate_succ, Array.replicate_zero, List.push_toArray, List.append_toArray, List.nil_append, List.cons_append]
  gi_wp2
  gi_loopw [14] (fun i wr => ∃ (k : Nat) (xs : List Ke), k ≤ no ∧ i = .int .i64 k ∧ J xs wr ∧ xs.map Ke.pm = (s.out.take k).flatMap (againP s.ses now s.tmo) ∧ DueI B RB p1 p2 p3 p4 base bs now { s with out := (updE (againE now s.tmo) k es).map Oe.om } (.slice Ao no co) vq (updE (againE now s.tmo) k es) qs wr) (fun i _ => no - (intOf i).toNat)
  case atStart => exact ⟨0, [], by omega, rfl, H0.out.2, by simp, by rw [updE_zero, H0.out.1.om]; exact H0.out.1⟩
  case round =>
    obtain ⟨k, xs, hk, rfl, hJx, hxs, hI⟩ := hrel
    have HI := Lib.hid hI
    have HX := Lib.hid (And.intro hJx hxs)
    clear hI hJx hxs H0 xp1 xb6
    have xp1 : wr.cell? ⟨p1, 0, none⟩ = some (.pointer (some ⟨B, 0, none⟩)) := HI.out.c1.cell 0
    have xp2 : wr.cell? ⟨p2, 0, none⟩ = some (.func (.func 77) #[] #[.pointer (some ⟨p3, 0, none⟩), .pointer (some ⟨p1, 0, none⟩)]) := HI.out.c2.cell 0
    have xp3 : wr.cell? ⟨p3, 0, none⟩ = some (.int .i64 now) := HI.out.c3.cell 0
    have xb2 : wr.cell? ⟨B, 2, none⟩ = some (.int .i64 s.tmo) := HI.out.blk.cell 2
    have xb6 : wr.cell? ⟨B, 6, none⟩ = some (.slice Ao no co) := HI.out.blk.cell 6
    by_cases hlt : k < no
    · have ik : (k : Int) < no := by omega
      have hke : k < es.length := by rw [HL.out.1]; exact hlt
      have hks : k < s.out.length := by rw [← HL.out.2]; exact hlt
      have hkl : k < (updE (againE now s.tmo) k es).length := by rw [updE_len]; exact hke
      have hat := updE_at (againE now s.tmo) es hke hkl
      obtain ⟨g, cc, cur, hv, hg, hbl, _, _, hcell⟩ := HI.out.own.form encO_len (by omega)
      injection hv with hA hn2 hc
      subst hA hc
      clear hn2
      have hcell := hcell k hkl
      rw [hat] at hcell
      obtain ⟨d0, -⟩ := hcell 0 _ rfl
      obtain ⟨d1, z1⟩ := hcell 1 _ rfl
      obtain ⟨d2, z2⟩ := hcell 2 _ rfl
      obtain ⟨d3, -⟩ := hcell 3 _ rfl
      obtain ⟨d4, -⟩ := hcell 4 _ rfl
      rw [Nat.add_zero] at d0
      have hgl := hbl.lt
      have hee : es[k].om = s.out[k] := by
        have h2 : s.out[k]? = (es.map Oe.om)[k]? := by rw [HE.out]
        rw [List.getElem?_map, List.getElem?_eq_getElem hke, List.getElem?_eq_getElem hks] at h2
        injection h2 with h2
        exact h2.symm
      have hb := HG.out.2.2.1 k hks
      rw [← hee] at hb
      have hcall := again_any now s.tmo es[k].om g (k * 5) p1 p3 B wr hnow hb.1 HI.out.c3 HI.out.c1 xb2 d1 d2 d3
      have hfs := flat_succ (againP s.ses now s.tmo) s.out k hks
      rw [← hee] at hfs
      have HC := Lib.hid (And.intro hcall (And.intro hfs (And.intro hb hke)))
      clear hcall hfs hb hcell hat hbl hee hkl
      gi_wp2
      refine ⟨trivial, CallsIn.mono (callsIn_wide.2 HC.out.1) ?_⟩
      rintro e w1 ⟨rfl, hb1⟩
      dsimp only
      have HI1 := Lib.hid (HI.out.below hb1)
      have HX1 := Lib.hid (And.intro (HG.out.2.2.2.1 _ _ _ HX.out.1 (Turn.of_below hb1)) HX.out.2)
      obtain ⟨bb, hbb⟩ : ∃ b, again now s.tmo es[k].om = b := ⟨_, rfl⟩
      rw [hbb]
      have HBB := Lib.hid hbb
      have e0 := (hb1.cell (p := ⟨g, k * 5, none⟩) hgl).trans d0
      have e1 := (hb1.cell (p := ⟨g, k * 5 + 1, none⟩) hgl).trans d1
      have e2 := (hb1.cell (p := ⟨g, k * 5 + 2, none⟩) hgl).trans d2
      have e3 := (hb1.cell (p := ⟨g, k * 5 + 3, none⟩) hgl).trans d3
      have e4 := (hb1.cell (p := ⟨g, k * 5 + 4, none⟩) hgl).trans d4
      have y1 := (hb1.frozen (p := ⟨g, k * 5 + 1, none⟩) hgl).trans z1
      have y2 := (hb1.frozen (p := ⟨g, k * 5 + 2, none⟩) hgl).trans z2
      have hgl1 := Nat.lt_of_lt_of_le hgl hb1.size
      clear hbb d0 d1 d2 d3 d4 z1 z2 hgl hb1 xp1 xp2 xp3 xb2 xb6
      cases bb with
      | false =>
        clear e0 e1 e2 e3 e4 y1 y2 hgl1
        have hE : againE now s.tmo es[k] = es[k] := by unfold againE; rw [if_neg (by rw [HBB.out]; simp)]
        have HN : Hid (DueI B RB p1 p2 p3 p4 base bs now { s with out := (updE (againE now s.tmo) (k + 1) es).map Oe.om } (.slice (some ⟨g, 0, none⟩) no co) vq (updE (againE now s.tmo) (k + 1) es) qs w1) := by
          show DueI _ _ _ _ _ _ _ _ _ _ _ _ _ _ _
          rw [updE_same _ _ HC.out.2.2.2 hE]
          exact HI1.out
        have HN2 : Hid (xs.map Ke.pm = (s.out.take (k + 1)).flatMap (againP s.ses now s.tmo)) := by
          show _ = _
          rw [HC.out.2.1, againP_false HBB.out, List.append_nil]
          exact HX1.out.2
        gi_wp2
        go_roundw
        case rel => exact ⟨k + 1, xs, by omega, by go_num, HX1.out.1, HN2.out, HN.out⟩
        case measure => simp [intOf]; omega
      | true =>
        have xp3 : w1.cell? ⟨p3, 0, none⟩ = some (.int .i64 now) := HI1.out.c3.cell 0
        have hct := HC.out.2.2.1.2.1
        change 1 ≤ es[k].cnt ∧ es[k].cnt ≤ 1073741824 at hct
        have kw : IntKind.i64.wrap (es[k].cnt + 1) = es[k].cnt + 1 := by rw [IntWalk.i64_in _ (by omega)]
        have hE : againE now s.tmo es[k] = { es[k] with time := now, cnt := es[k].cnt + 1 } := by unfold againE; rw [if_pos HBB.out]
        have hat2 := updE_at (againE now s.tmo) es HC.out.2.2.2 (by rw [updE_len]; exact HC.out.2.2.2)
        obtain ⟨hN, hT⟩ := HI1.out.elem hbs (by rw [updE_len]; exact HL.out.1) (k := k) (by rw [updE_len]; exact HC.out.2.2.2) hg (againE now s.tmo es[k]) (by rw [hat2]; exact hE)
        rw [hat2] at hN hT
        rw [updE_set _ _ HC.out.2.2.2] at hN
        have HN := Lib.hid (And.intro hN (And.intro (HG.out.2.2.2.1 _ _ _ HX1.out.1 (hT.mono (by simp))) hE))
        clear hN hT hE hat2
        gi_wp2
        generalize ((w1.setCell ⟨g, k * 5 + 1, none⟩ (.int .i64 now)).setCell ⟨g, k * 5 + 2, none⟩ (.int .i64 (es[k].cnt + 1))) = V at *
        clear e0 e1 e2 e3 e4 y1 y2 hgl1 xp3 kw hct
        have hk1l : k < (updE (againE now s.tmo) (k + 1) es).length := by rw [updE_len]; exact HC.out.2.2.2
        obtain ⟨g2, cc2, cur2, hv2, -, hbl2, -, -, hcell2⟩ := HN.out.1.own.form encO_len (by omega)
        injection hv2 with hA2 hn3 hc3
        injection hA2 with hA2
        injection hA2 with hA2
        subst hA2
        clear hn3 hc3
        have hcell2 := hcell2 k hk1l
        rw [updE_at1 _ _ HC.out.2.2.2] at hcell2
        obtain ⟨E, hEd⟩ : ∃ E, E = againE now s.tmo es[k] := ⟨_, rfl⟩
        rw [← hEd] at hcell2
        have hER := HN.out.1.own.el _ (List.getElem_mem hk1l)
        rw [updE_at1 _ _ HC.out.2.2.2, ← hEd] at hER
        have hEp : E.p.length ≤ 4096 := by rw [hEd, HN.out.2.2]; exact HC.out.2.2.1.2.2
        have HE2 := Lib.hid (And.intro hEd (And.intro hER hEp))
        obtain ⟨d0, -⟩ := hcell2 0 _ rfl
        obtain ⟨d1, -⟩ := hcell2 1 _ rfl
        obtain ⟨d2, -⟩ := hcell2 2 _ rfl
        obtain ⟨d3, -⟩ := hcell2 3 _ rfl
        obtain ⟨d4, -⟩ := hcell2 4 _ rfl
        rw [Nat.add_zero] at d0
        have xp1 : V.cell? ⟨p1, 0, none⟩ = some (.pointer (some ⟨B, 0, none⟩)) := HN.out.1.c1.cell 0
        have xb0 : V.cell? ⟨B, 0, none⟩ = some (.int .i64 s.ses) := HN.out.1.blk.cell 0
        have lB := HN.out.1.blk.lt
        have lg2 := hbl2.lt
        clear hEd hER hEp hcell2 hbl2 hk1l
        refine wpIn_region_lexP [(0, 1), (1, 1), (2, 1), (3, 1), (4, 1), (5, 0), (6, 0), (7, 2)] [6, 7] (fun w9 => w9.cell? ⟨p1, 0, none⟩ = some (.pointer (some ⟨B, 0, none⟩)) ∧ w9.cell? ⟨g, k * 5, none⟩ = some (.int .i64 E.seq) ∧ w9.cell? ⟨g, k * 5 + 1, none⟩ = some (.int .i64 E.time) ∧ w9.cell? ⟨g, k * 5 + 2, none⟩ = some (.int .i64 E.cnt) ∧ w9.cell? ⟨g, k * 5 + 3, none⟩ = some (.bool E.ak) ∧ w9.cell? ⟨g, k * 5 + 4, none⟩ = some (.slice E.A E.p.length E.c)) (by kernel_rfl) (by kernel_rfl) (by kernel_rfl) (by kernel_rfl) (by kernel_rfl) (fun _ d _ _ _ h => by cases d <;> exact h) ⟨xp1, d0, d1, d2, d3, d4⟩ ?_
        repeat (refine lexP_read rfl (by rfl) (by rfl) (by intro w9 hS9; (try dsimp only at hS9); go_simp <;> with_reducible rfl) ?_; (try simp only [Act.put, List.getElem_toArray, List.getElem_cons_succ, List.getElem_cons_zero, List.setIfInBounds_toArray, List.set_cons_zero, List.set_cons_succ]))
        refine lexP_eff rfl (fun _ => trivial) ?_
        go_simp
        refine CallsIn.mono (callsIn_wide.2 (data_any s.ses B E base V.drew xb0 lB (HE2.out.2.1.turn (Turn.of_below (T := []) (Below.refl _ V).drew) (by simp)) (Nat.le_trans HE2.out.2.2 (by omega)) (Nat.le_trans hbs (Nat.le_trans hB (Nat.le_of_lt lB))))) ?_
        rintro e w2 ⟨⟨pv, rfl, hpv⟩, hb2⟩
        dsimp only
        obtain ⟨x, hxv, hxr, hxm⟩ := pkV_ke hpv
        have hb2' : Below V.heap.size V w2 := (Below.refl _ V).drew.trans hb2
        have hyy := HG.out.2.2.2.2 xs x w2 (HG.out.2.2.2.1 _ _ _ HN.out.2.1 (Turn.of_below hb2')) hxr (by have h1 := congrArg List.length HX1.out.2; rw [List.length_map] at h1; have h2 := again_len s.ses now s.tmo (s.out.take k); rw [List.length_take] at h2; omega)
        rw [← hxv] at hyy
        obtain ⟨fn, tmps, assign, body, hy, hRd⟩ := hyy
        have f1 := (hb2'.cell (p := ⟨p1, 0, none⟩) HN.out.1.c1.lt).trans xp1
        have f2 := (hb2'.cell (p := ⟨g, k * 5, none⟩) lg2).trans d0
        have f3 := (hb2'.cell (p := ⟨g, k * 5 + 1, none⟩) lg2).trans d1
        have f4 := (hb2'.cell (p := ⟨g, k * 5 + 2, none⟩) lg2).trans d2
        have f5 := (hb2'.cell (p := ⟨g, k * 5 + 3, none⟩) lg2).trans d3
        have f6 := (hb2'.cell (p := ⟨g, k * 5 + 4, none⟩) lg2).trans d4
        refine ⟨⟨f1, f2, f3, f4, f5, f6⟩, ?_⟩
        (try simp only [Act.put, List.getElem_toArray, List.getElem_cons_succ, List.getElem_cons_zero, List.setIfInBounds_toArray, List.set_cons_zero, List.set_cons_succ])
        have HI3 := Lib.hid (And.intro (HN.out.1.below hb2') hxm)
        clear hpv hxv hxr hxm hb2 hb2' d0 d1 d2 d3 d4 xp1 xb0 lB f1 f2 f3 f4 f5 f6
        refine lexP_eff rfl (fun _ => trivial) ?_
        go_simp
        refine hRd.mono ?_
        rintro e W3 ⟨rfl, hJ3, hT3⟩
        dsimp only
        (try simp only [Act.put, List.getElem_toArray, List.getElem_cons_succ, List.getElem_cons_zero, List.setIfInBounds_toArray, List.set_cons_zero, List.set_cons_succ])
        repeat (refine lexP_late rfl (fun _ => trivial) (by rfl) (by intro w9; go_simp <;> with_reducible rfl) ?_; (try simp only [Act.put, List.getElem_toArray, List.getElem_cons_succ, List.getElem_cons_zero, List.setIfInBounds_toArray, List.set_cons_zero, List.set_cons_succ]))
        refine lexP_nil ?_
        have HI4 := Lib.hid (And.intro (HI3.out.1.turnW hT3 hbs) hJ3)
        have HX4 : Hid ((xs ++ [x]).map Ke.pm = (s.out.take (k + 1)).flatMap (againP s.ses now s.tmo)) := by
          show _ = _
          rw [List.map_append, HX1.out.2, HC.out.2.1, againP_true HBB.out, ← HE2.out.1]
          simp [HI3.out.2]
        clear hJ3 hT3 hy hRd
        gi_wp2
        go_roundw
        case rel => exact ⟨k + 1, xs ++ [x], by omega, by go_num, HI4.out.2, HX4.out, HI4.out.1⟩
        case measure => simp [intOf]; omega
    · obtain rfl : k = no := by omega
      have hD : Hid (Du2 s J B RB p1 p2 p3 p4 base bs now { s with out := s.out.map (againO now s.tmo) } (.slice Ao k co) vq (updE (againE now s.tmo) k es) qs xs [] wr) := by
        refine ⟨DMo.start HG.out.2.1, ?_, HX.out.1, ?_, ?_, rfl⟩
        · have h := HI.out
          rw [updE_all _ _ HL.out.1] at h ⊢
          have h2 : (es.map (againE now s.tmo)).map Oe.om = s.out.map (againO now s.tmo) := by
            rw [HE.out, List.map_map, List.map_map]
            apply List.map_congr_left
            intro e _
            exact againE_om now s.tmo e
          rw [h2] at h
          exact h
        · rw [HX.out.2, List.append_nil, List.take_of_length_le (by rw [← HL.out.2]; exact Nat.le_refl _)]
          rfl
        · have h1 := congrArg List.length HX.out.2
          rw [List.length_map] at h1
          have h2 := again_len s.ses now s.tmo (s.out.take k)
          rw [List.length_take] at h2
          omega
      clear HI HX xp1 xp2 xp3 xb2 xb6
      obtain ⟨wo, hwo⟩ : ∃ x : World, x = wr := ⟨_, rfl⟩
      subst hwo
      gi_wp2
      gi_loopw [46] (fun _ wr => ∃ m vo vq es qs xs pre, Hid (Du2 s J B RB p1 p2 p3 p4 base bs now m vo vq es qs xs pre wr)) (fun _ wr => lenOf ((wr.cell? ⟨B, 7, none⟩).getD undef))
      case atStart => exact ⟨_, _, _, _, _, _, _, hD⟩
      case round =>
        obtain ⟨m, vo, vq, es, qs, xs, pre, HD⟩ := hrel
        clear hD
        obtain ⟨A2, c2, rfl, hA2, hA3⟩ := HD.out.due.own.vform
        obtain ⟨Aq, cq, rfl, hq2, hq3, -⟩ := HD.out.due.vec.val
        have hel2 : es.length = m.out.length := by rw [← HD.out.due.om, List.length_map]
        have hql2 : qs.length = m.q.length := by rw [← HD.out.due.qm, List.length_map]
        have xp1 : wr.cell? ⟨p1, 0, none⟩ = some (.pointer (some ⟨B, 0, none⟩)) := HD.out.due.c1.cell 0
        have xp4 : wr.cell? ⟨p4, 0, none⟩ = some (.func (.func 78) #[] #[.pointer (some ⟨p1, 0, none⟩)]) := HD.out.due.c4.cell 0
        have xb1 : wr.cell? ⟨B, 1, none⟩ = some (.int .i64 m.lim) := HD.out.due.blk.cell 1
        have xb4 : wr.cell? ⟨B, 4, none⟩ = some (.int .i64 m.next) := HD.out.due.blk.cell 4
        have xb5 : wr.cell? ⟨B, 5, none⟩ = some (.int .i64 m.cred) := HD.out.due.blk.cell 5
        have xb6 : wr.cell? ⟨B, 6, none⟩ = some (.slice A2 es.length c2) := HD.out.due.blk.cell 6
        have xb7 : wr.cell? ⟨B, 7, none⟩ = some (.slice Aq qs.length cq) := HD.out.due.blk.cell 7
        have hcall := room_any m.lim m.next m.cred _ es.length qs.length A2 Aq c2 cq p1 B wr rfl HD.out.due.c1 xb1 xb4 xb5 xb6 xb7
        rw [hel2, hql2] at hcall
        change Calls Try.prog 78 _ wr (fun e w' => e = .returned (.bool (roomB m)) ∧ _) at hcall
        have HC2 := Lib.hid hcall
        have HL2 := Lib.hid (And.intro hel2 hql2)
        clear hcall hel2 hql2
        gi_wp2
        refine ⟨trivial, CallsIn.mono (callsIn_wide.2 HC2.out) ?_⟩
        clear HC2
        rintro e w1 ⟨rfl, hb1⟩
        dsimp only
        have HD1 := Lib.hid (And.intro (HD.out.due.below hb1) (HG.out.2.2.2.1 _ _ _ HD.out.j (Turn.of_below hb1)))
        clear xp1 xp4 xb1 xb4 xb5 xb6 xb7 hb1
        obtain ⟨rb, hrb⟩ : ∃ b, roomB m = b := ⟨_, rfl⟩
        rw [hrb]
        have HRB := Lib.hid hrb
        clear hrb
        cases rb with
        | true =>
          cases qs with
          | nil =>
            have h1 := HRB.out
            unfold roomB at h1
            rw [← HL2.out.2] at h1
            simp at h1
          | cons q0 qt =>
          obtain ⟨g, off, c9, hv9, hlc, hcm, hbw, hc⟩ := HD1.out.1.vec.at_ (fun _ => rfl) (by have h1 := HD.out.mo.ql; have h2 := HL2.out.2; omega) (by simp)
          injection hv9 with hA9 hn9 hc9
          subst hA9 hc9
          clear hn9
          have xq : w1.cell? ⟨g, off, none⟩ = some (.slice q0.A q0.p.length q0.c) := by have h := hc 0 (by simp) 0 _ rfl; simpa using h
          have xp1 : w1.cell? ⟨p1, 0, none⟩ = some (.pointer (some ⟨B, 0, none⟩)) := HD1.out.1.c1.cell 0
          have xp3 : w1.cell? ⟨p3, 0, none⟩ = some (.int .i64 now) := HD1.out.1.c3.cell 0
          have xb4 : w1.cell? ⟨B, 4, none⟩ = some (.int .i64 m.next) := HD1.out.1.blk.cell 4
          have xb7 : w1.cell? ⟨B, 7, none⟩ = some (.slice (some ⟨g, off, none⟩) (qt.length + 1) cq) := HD1.out.1.blk.cell 7
          clear hc
          have lB := HD1.out.1.blk.lt
          have lp1 := HD1.out.1.c1.lt
          have lp3 := HD1.out.1.c3.lt
          gi_wp2
          refine wpIn_region_lexP [(0, 1), (4, 1), (5, 1), (1, 1), (6, 1), (2, 1), (7, 1), (3, 1), (8, 1), (9, 1), (10, 1), (11, 1), (12, 0), (13, 0)] [13] (fun w9 => w9.cell? ⟨p1, 0, none⟩ = some (.pointer (some ⟨B, 0, none⟩)) ∧ w9.cell? ⟨p3, 0, none⟩ = some (.int .i64 now) ∧ w9.cell? ⟨B, 4, none⟩ = some (.int .i64 m.next) ∧ w9.cell? ⟨B, 7, none⟩ = some (.slice (some ⟨g, off, none⟩) (qt.length + 1) cq) ∧ w9.cell? ⟨g, off, none⟩ = some (.slice q0.A q0.p.length q0.c)) (by kernel_rfl) (by kernel_rfl) (by kernel_rfl) (by kernel_rfl) (by kernel_rfl) (fun _ d _ _ _ h => by cases d <;> exact h) ⟨xp1, xp3, xb4, xb7, xq⟩ ?_
          repeat (refine lexP_read rfl (by rfl) (by rfl) (by intro w9 hS9; (try dsimp only at hS9); go_simp <;> with_reducible rfl) ?_; (try simp only [Act.put, List.getElem_toArray, List.getElem_cons_succ, List.getElem_cons_zero, List.setIfInBounds_toArray, List.set_cons_zero, List.set_cons_succ]))
          refine lexP_eff rfl (fun _ => trivial) ?_
          go_simp
          (try simp only [Act.put, List.getElem_toArray, List.getElem_cons_succ, List.getElem_cons_zero, List.setIfInBounds_toArray, List.set_cons_zero, List.set_cons_succ])
          refine lexP_eff rfl (fun _ => trivial) ?_
          go_simp
          (try simp only [Act.put, List.getElem_toArray, List.getElem_cons_succ, List.getElem_cons_zero, List.setIfInBounds_toArray, List.set_cons_zero, List.set_cons_succ])
          refine lexP_nil ?_
          have hbV : Below w1.heap.size w1 (w1.alloc (.cells #[.int .i64 m.next, .int .i64 now, .int .i64 1, .bool false, .slice q0.A q0.p.length q0.c] 82)).drew := ((Below.refl _ w1).alloc (Nat.le_refl _) _).drew
          have hkX : Blk (w1.alloc (.cells #[.int .i64 m.next, .int .i64 now, .int .i64 1, .bool false, .slice q0.A q0.p.length q0.c] 82)).drew w1.heap.size 82 #[.int .i64 m.next, .int .i64 now, .int .i64 1, .bool false, .slice q0.A q0.p.length q0.c] := (Blk.new w1 82 #[.int .i64 m.next, .int .i64 now, .int .i64 1, .bool false, .slice q0.A q0.p.length q0.c]).drew
          have hqr := HD1.out.1.vec.el q0 (by simp)
          have HV := Lib.hid (And.intro (HD1.out.1.below hbV) (And.intro (HG.out.2.2.2.1 _ _ _ HD1.out.2 (Turn.of_below hbV)) (And.intro hkX (qeR_ab (T := []) (by simp) _ _ _ _ (Turn.of_below hbV) hqr))))
          have lX : w1.heap.size < (w1.alloc (.cells #[.int .i64 m.next, .int .i64 now, .int .i64 1, .bool false, .slice q0.A q0.p.length q0.c] 82)).drew.heap.size := hkX.lt
          have hob : ∀ j, (Value.slice A2 es.length c2).ownBlock = some j → j < w1.heap.size := fun j hj => own_lt HD1.out.1.own.own j hj
          obtain ⟨X, hX⟩ : ∃ x, x = w1.heap.size := ⟨_, rfl⟩
          rw [← hX] at HV lX hob ⊢
          have HOB := Lib.hid hob
          clear hbV hkX hqr xp1 xp3 xb4 xb7 xq hbw HD1 lB lp1 lp3 hX hob
          generalize (w1.alloc (.cells #[.int .i64 m.next, .int .i64 now, .int .i64 1, .bool false, .slice q0.A q0.p.length q0.c] 82)).drew = V at *
          have xp1 : V.cell? ⟨p1, 0, none⟩ = some (.pointer (some ⟨B, 0, none⟩)) := HV.out.1.c1.cell 0
          have xb7 : V.cell? ⟨B, 7, none⟩ = some (.slice (some ⟨g, off, none⟩) (qt.length + 1) cq) := HV.out.1.blk.cell 7
          have xz7 := HV.out.1.blk.frozen 7
          have lB := HV.out.1.blk.lt
          rw [List.length_cons] at hq2 hlc
          have k1 : (1 ≤ (qt.length : Int) + 1) = True := eq_true (by omega)
          gi_wp2
          refine wpIn_region_lexP [(0, 1), (1, 1), (2, 1), (3, 1), (4, 1), (5, 1), (6, 1), (7, 1), (8, 0)] [8] (fun w9 => w9.cell? ⟨p1, 0, none⟩ = some (.pointer (some ⟨B, 0, none⟩)) ∧ w9.cell? ⟨B, 7, none⟩ = some (.slice (some ⟨g, off, none⟩) (qt.length + 1) cq)) (by kernel_rfl) (by kernel_rfl) (by kernel_rfl) (by kernel_rfl) (by kernel_rfl) (fun _ d _ _ _ h => by cases d <;> exact h) ⟨xp1, xb7⟩ ?_
          repeat (refine lexP_read rfl (by rfl) (by rfl) (by intro w9 hS9; (try dsimp only at hS9); go_simp <;> with_reducible rfl) ?_; (try simp only [Act.put, List.getElem_toArray, List.getElem_cons_succ, List.getElem_cons_zero, List.setIfInBounds_toArray, List.set_cons_zero, List.set_cons_succ]))
          obtain ⟨A3, hA3⟩ : ∃ a, a = (if cq = 1 then some (⟨g, off, none⟩ : Addr) else some ⟨g, off + 1, none⟩) := ⟨_, rfl⟩
          rw [← hA3]
          have hvt := Vec.tail (HV.out.1.vec.turn (Turn.of_below (T := []) (Below.refl _ V).drew) (by simp) (qeR_ab (by simp))) rfl
          have hvt2 : Vec encQ QeR 42 1 V.drew base (.slice A3 qt.length (cq - 1)) qt := by
            rw [hA3]
            exact hvt
          have hf7 : ∀ g', (Value.slice A3 qt.length (cq - 1)).ownBlock = some g' → bs ≤ g' := fun g' e => by
            refine HV.out.1.fr g' ?_
            rw [← e, hA3]
            split <;> rfl
          obtain ⟨hd7, hT7⟩ := (HV.out.1.below (Below.refl _ V).drew).cell hbs hB hne 7 (.slice A3 qt.length (cq - 1)) { m with q := qt.map Qe.p } (.slice A3 qt.length (cq - 1)) qt rfl rfl hvt2 rfl hf7
          have hT8 : Turn bs [25] V (V.drew.setCell ⟨B, 7, none⟩ (.slice A3 qt.length (cq - 1))) := (Turn.of_below (Below.refl _ V).drew).trans hT7
          have HV7 := Lib.hid (And.intro hd7 (And.intro (HG.out.2.2.2.1 _ _ _ HV.out.2.1 (hT8.mono (by simp))) (And.intro (HV.out.2.2.1.turn hT8 (by simp)) (qeR_ab (T := [25]) (by simp) _ _ _ _ (hT8.base hbs) HV.out.2.2.2))))
          clear hvt hvt2 hf7 hd7 hT7 hT8 hA3
          (try simp only [Act.put, List.getElem_toArray, List.getElem_cons_succ, List.getElem_cons_zero, List.setIfInBounds_toArray, List.set_cons_zero, List.set_cons_succ])
          repeat (refine lexP_read rfl (by rfl) (by rfl) (by intro w9 hS9; (try dsimp only at hS9); go_simp <;> with_reducible rfl) ?_; (try simp only [Act.put, List.getElem_toArray, List.getElem_cons_succ, List.getElem_cons_zero, List.setIfInBounds_toArray, List.set_cons_zero, List.set_cons_succ]))
          refine lexP_eff rfl (fun _ => trivial) ?_
          go_simp
          refine lexP_nil ?_
          clear HV xp1 xb7 xz7 lB lX
          rw [show (V.setCell ⟨B, 7, none⟩ (.slice A3 qt.length (cq - 1))).drew = V.drew.setCell ⟨B, 7, none⟩ (.slice A3 qt.length (cq - 1)) from rfl]
          generalize (V.drew.setCell ⟨B, 7, none⟩ (.slice A3 qt.length (cq - 1))) = V2 at *
          have xp1 : V2.cell? ⟨p1, 0, none⟩ = some (.pointer (some ⟨B, 0, none⟩)) := HV7.out.1.c1.cell 0
          have xb6 : V2.cell? ⟨B, 6, none⟩ = some (.slice A2 es.length c2) := HV7.out.1.blk.cell 6
          have xx0 : V2.cell? ⟨X, 0, none⟩ = some (.int .i64 m.next) := HV7.out.2.2.1.cell 0
          have xx1 : V2.cell? ⟨X, 1, none⟩ = some (.int .i64 now) := HV7.out.2.2.1.cell 1
          have xx2 : V2.cell? ⟨X, 2, none⟩ = some (.int .i64 1) := HV7.out.2.2.1.cell 2
          have xx3 : V2.cell? ⟨X, 3, none⟩ = some (.bool false) := HV7.out.2.2.1.cell 3
          have xx4 : V2.cell? ⟨X, 4, none⟩ = some (.slice q0.A q0.p.length q0.c) := HV7.out.2.2.1.cell 4
          have xz6 := HV7.out.1.blk.frozen 6
          have lB := HV7.out.1.blk.lt
          have lX := HV7.out.2.2.1.lt
          have lp1 := HV7.out.1.c1.lt
          gi_wp2
          refine wpIn_region_lexP [(0, 1), (1, 1), (5, 1), (2, 1), (3, 1), (4, 1), (6, 0), (7, 0), (8, 1), (9, 1), (10, 0)] [10] (fun w9 => w9.cell? ⟨p1, 0, none⟩ = some (.pointer (some ⟨B, 0, none⟩)) ∧ w9.cell? ⟨B, 6, none⟩ = some (.slice A2 es.length c2) ∧ w9.cell? ⟨X, 0, none⟩ = some (.int .i64 m.next) ∧ w9.cell? ⟨X, 1, none⟩ = some (.int .i64 now) ∧ w9.cell? ⟨X, 2, none⟩ = some (.int .i64 1) ∧ w9.cell? ⟨X, 3, none⟩ = some (.bool false) ∧ w9.cell? ⟨X, 4, none⟩ = some (.slice q0.A q0.p.length q0.c)) (by kernel_rfl) (by kernel_rfl) (by kernel_rfl) (by kernel_rfl) (by kernel_rfl) (fun _ d _ _ _ h => by cases d <;> exact h) ⟨xp1, xb6, xx0, xx1, xx2, xx3, xx4⟩ ?_
          repeat (refine lexP_read rfl (by rfl) (by rfl) (by intro w9 hS9; (try dsimp only at hS9); go_simp <;> with_reducible rfl) ?_; (try simp only [Act.put, List.getElem_toArray, List.getElem_cons_succ, List.getElem_cons_zero, List.setIfInBounds_toArray, List.set_cons_zero, List.set_cons_succ]))
          refine lexP_eff rfl (fun _ => trivial) ?_
          go_simp
          (try simp only [Act.put, List.getElem_toArray, List.getElem_cons_succ, List.getElem_cons_zero, List.setIfInBounds_toArray, List.set_cons_zero, List.set_cons_succ])
          have hb3 : Below V2.heap.size V2 (V2.alloc (.cells #[.int .i64 m.next, .int .i64 now, .int .i64 1, .bool false, .slice q0.A q0.p.length q0.c] 82)).drew := ((Below.refl _ V2).alloc (Nat.le_refl _) _).drew
          have hkN : Blk (V2.alloc (.cells #[.int .i64 m.next, .int .i64 now, .int .i64 1, .bool false, .slice q0.A q0.p.length q0.c] 82)).drew V2.heap.size 82 #[.int .i64 m.next, .int .i64 now, .int .i64 1, .bool false, .slice q0.A q0.p.length q0.c] := (Blk.new V2 82 #[.int .i64 m.next, .int .i64 now, .int .i64 1, .bool false, .slice q0.A q0.p.length q0.c]).drew
          have h3D := HV7.out.1.below hb3
          have hx3 := HV7.out.2.2.1.below hb3 HV7.out.2.2.1.lt
          have hr3 := qeR_ab (T := []) (by simp) _ _ _ _ (Turn.of_below hb3) HV7.out.2.2.2
          have hnl : es.length ≤ 100 := by have h1 := HD.out.mo.outl; have h2 := HL2.out.1; omega
          have hsz3 : bs ≤ (V2.alloc (.cells #[.int .i64 m.next, .int .i64 now, .int .i64 1, .bool false, .slice q0.A q0.p.length q0.c] 82)).drew.heap.size := Nat.le_trans hB (Nat.le_of_lt h3D.blk.lt)
          refine lexP_pushG (E := encO) (R := OeR) (t := 82) (sz := 5) (base := base) (low := bs) (l := es) (b := ⟨m.next, now, 1, false, q0.A, q0.c, q0.p⟩) (v := .slice A2 es.length c2) rfl (fun _ => trivial) _ _ 22 (by rfl) _ 56 Try.underlying22 info82 rfl (by omega) (encO_one _) rfl (by rfl) h3D.own hbs (oeR_ab (by simp)) hr3 (by rfl) hkN (by omega) (by omega) hsz3 ?_
          rintro v5 w5 ⟨hp5, hg5⟩
          obtain ⟨A5, c5, rfl, -, -⟩ := hp5.own.vform
          have hx5 := hx3.grown hg5 (fun e => by have h1 := HOB.out X (by first | exact e | exact e.symm); omega)
          obtain ⟨h5D, hT5⟩ := h3D.push hbs hB hne hp5
          have hB5 := h3D.blk.turn hp5.turn (by simp)
          have hP5 := h3D.c1.turn hp5.turn (by simp)
          have y1 : w5.cell? ⟨p1, 0, none⟩ = some (.pointer (some ⟨B, 0, none⟩)) := hP5.cell 0
          have y6 : w5.cell? ⟨B, 6, none⟩ = some (.slice A2 es.length c2) := hB5.cell 6
          have yz6 := hB5.frozen 6
          have x0 : w5.cell? ⟨X, 0, none⟩ = some (.int .i64 m.next) := hx5.cell 0
          have x1 : w5.cell? ⟨X, 1, none⟩ = some (.int .i64 now) := hx5.cell 1
          have x2 : w5.cell? ⟨X, 2, none⟩ = some (.int .i64 1) := hx5.cell 2
          have x3 : w5.cell? ⟨X, 3, none⟩ = some (.bool false) := hx5.cell 3
          have x4 : w5.cell? ⟨X, 4, none⟩ = some (.slice q0.A q0.p.length q0.c) := hx5.cell 4
          have l5B := hB5.lt
          obtain ⟨n5, hn5⟩ : ∃ n, (es ++ [(⟨m.next, now, 1, false, q0.A, q0.c, q0.p⟩ : Oe)]).length = n := ⟨_, rfl⟩
          rw [hn5] at h5D hT5 ⊢
          have hTa : Turn bs [25, 82] V2 (w5.setCell ⟨B, 6, none⟩ (.slice A5 n5 c5)) := (Turn.of_below hb3).trans hT5
          have HV8 := Lib.hid (And.intro h5D (And.intro (HG.out.2.2.2.1 _ _ _ HV7.out.2.1 hTa) (And.intro (hx5.far (p := ⟨B, 6, none⟩) (fun e => by have h1 : X = B := e; subst h1; have h2 := hB5; have h3 := hx5; unfold Blk at h2 h3; rw [h2] at h3; injection h3 with h3; injection h3 with _ h3; cases h3) (.slice A5 n5 c5)) (qeR_ab (T := [25, 82]) (by simp) _ _ _ _ (hTa.base hbs) HV7.out.2.2.2))))
          refine ⟨.inr ⟨y1, y6, x0, x1, x2, x3, x4⟩, ?_⟩
          clear hb3 hkN h3D hx3 hr3 hp5 hg5 hx5 h5D hT5 hB5 hP5 hTa y1 x0 x1 x2 x3 x4 hsz3 xp1 xb6 xx0 xx1 xx2 xx3 xx4 xz6 lB lX lp1 hn5
          (try simp only [Act.put, List.getElem_toArray, List.getElem_cons_succ, List.getElem_cons_zero, List.setIfInBounds_toArray, List.set_cons_zero, List.set_cons_succ])
          repeat (refine lexP_read rfl (by rfl) (by rfl) (by intro w9 hS9; (try dsimp only at hS9); go_simp <;> with_reducible rfl) ?_; (try simp only [Act.put, List.getElem_toArray, List.getElem_cons_succ, List.getElem_cons_zero, List.setIfInBounds_toArray, List.set_cons_zero, List.set_cons_succ]))
          refine lexP_eff rfl (fun _ => trivial) ?_
          go_simp
          refine lexP_nil ?_
          clear y6 yz6 l5B HV7
          generalize (w5.setCell ⟨B, 6, none⟩ (.slice A5 n5 c5)) = V3 at *
          have xp1 : V3.cell? ⟨p1, 0, none⟩ = some (.pointer (some ⟨B, 0, none⟩)) := HV8.out.1.c1.cell 0
          have xb4 : V3.cell? ⟨B, 4, none⟩ = some (.int .i64 m.next) := HV8.out.1.blk.cell 4
          have xz4 := HV8.out.1.blk.frozen 4
          have lB := HV8.out.1.blk.lt
          have nx1 := HD.out.mo.nx
          have kw : IntKind.i64.wrap (m.next + 1) = m.next + 1 := by rw [IntWalk.i64_in _ (by omega)]
          obtain ⟨h9, hT9⟩ := HV8.out.1.cell hbs hB hne 4 (.int .i64 (m.next + 1)) { { { m with q := qt.map Qe.p } with out := m.out ++ [(⟨m.next, now, 1, false, q0.A, q0.c, q0.p⟩ : Oe).om] } with next := m.next + 1 } (.slice A3 qt.length (cq - 1)) qt rfl rfl HV8.out.1.vec HV8.out.1.qm HV8.out.1.fr
          have HV9 := Lib.hid (And.intro h9 (And.intro (HG.out.2.2.2.1 _ _ _ HV8.out.2.1 (hT9.mono (by simp))) (And.intro (HV8.out.2.2.1.turn hT9 (by simp)) (qeR_ab (T := [25]) (by simp) _ _ _ _ (hT9.base hbs) HV8.out.2.2.2))))
          have x9p : (V3.setCell ⟨B, 4, none⟩ (.int .i64 (m.next + 1))).cell? ⟨p1, 0, none⟩ = some (.pointer (some ⟨B, 0, none⟩)) := HV9.out.1.c1.cell 0
          have x9b : (V3.setCell ⟨B, 4, none⟩ (.int .i64 (m.next + 1))).cell? ⟨B, 0, none⟩ = some (.int .i64 m.ses) := HV9.out.1.blk.cell 0
          have x90 : (V3.setCell ⟨B, 4, none⟩ (.int .i64 (m.next + 1))).cell? ⟨X, 0, none⟩ = some (.int .i64 m.next) := HV9.out.2.2.1.cell 0
          have x91 : (V3.setCell ⟨B, 4, none⟩ (.int .i64 (m.next + 1))).cell? ⟨X, 1, none⟩ = some (.int .i64 now) := HV9.out.2.2.1.cell 1
          have x92 : (V3.setCell ⟨B, 4, none⟩ (.int .i64 (m.next + 1))).cell? ⟨X, 2, none⟩ = some (.int .i64 1) := HV9.out.2.2.1.cell 2
          have x93 : (V3.setCell ⟨B, 4, none⟩ (.int .i64 (m.next + 1))).cell? ⟨X, 3, none⟩ = some (.bool false) := HV9.out.2.2.1.cell 3
          have x94 : (V3.setCell ⟨B, 4, none⟩ (.int .i64 (m.next + 1))).cell? ⟨X, 4, none⟩ = some (.slice q0.A q0.p.length q0.c) := HV9.out.2.2.1.cell 4
          have lX := HV9.out.2.2.1.lt
          clear h9 hT9
          gi_wp2
          generalize (V3.setCell ⟨B, 4, none⟩ (.int .i64 (m.next + 1))) = V4 at *
          have hq0p : q0.p.length ≤ 4096 := HD.out.mo.qs q0.p (by rw [← HD.out.due.qm]; simp)
          have lB4 := HV9.out.1.blk.lt
          refine ⟨trivial, CallsIn.mono (callsIn_wide.2 (data_any m.ses B ⟨m.next, now, 1, false, q0.A, q0.c, q0.p⟩ base V4 x9b lB4 HV9.out.2.2.2 (Nat.le_trans hq0p (by omega)) (Nat.le_trans hbs (Nat.le_trans hB (Nat.le_of_lt lB4))))) ?_⟩
          rintro e w6 ⟨⟨pv, rfl, hpv⟩, hb6⟩
          dsimp only
          obtain ⟨x, hxv, hxr, hxm⟩ := pkV_ke hpv
          have hyy := HG.out.2.2.2.2 xs x w6 (HG.out.2.2.2.1 _ _ _ HV9.out.2.1 (Turn.of_below hb6)) hxr (by have h1 := HD.out.few; have h2 := HD.out.mo.outl; omega)
          rw [← hxv] at hyy
          obtain ⟨fn, tmps, assign, body, hy, hRd⟩ := hyy
          have HI6 := Lib.hid (And.intro (HV9.out.1.below hb6) hxm)
          clear hpv hxv hxr hxm hb6 x9p x9b x90 x91 x92 x93 x94 lX lB4 xp1 xb4 xz4 lB kw HV8
          gi_wp2
          refine hRd.mono ?_
          rintro e W6 ⟨rfl, hJ6, hT6⟩
          dsimp only
          have hmq : m.q = q0.p :: qt.map Qe.p := by rw [← HD.out.due.qm]; rfl
          have HN : Hid (Du2 s J B RB p1 p2 p3 p4 base bs now (pushM now m q0.p (qt.map Qe.p)) (.slice A5 n5 c5) (.slice A3 qt.length (cq - 1)) (es ++ [(⟨m.next, now, 1, false, q0.A, q0.c, q0.p⟩ : Oe)]) qt (xs ++ [x]) (pre ++ [dataP m.ses ⟨m.next, now, 1, false, q0.p⟩]) W6) := by
            refine ⟨HD.out.mo.step HG.out.2.1 HRB.out hmq, HI6.out.1.turnW hT6 hbs, hJ6, ?_, by have h1 := HD.out.few; simp only [pushM, List.length_append, List.length_singleton]; omega, ?_⟩
            · rw [List.map_append, HD.out.xe, List.append_assoc]
              simp only [List.map_cons, List.map_nil, HI6.out.2]
              rfl
            · rw [HD.out.fil, hmq, List.length_cons, fill_step HRB.out hmq]
              show _ = ((fillS now (pushM now m q0.p (qt.map Qe.p)) (qt.map Qe.p).length).1, _)
              simp only [List.append_assoc, List.singleton_append]
              rfl
          have hm1 : W6.cell? ⟨B, 7, none⟩ = some (.slice A3 qt.length (cq - 1)) := HN.out.due.blk.cell 7
          have hm0 : wr.cell? ⟨B, 7, none⟩ = some (.slice (some ⟨g, off, none⟩) (qt.length + 1) cq) := HD.out.due.blk.cell 7
          have HM := Lib.hid (And.intro hm1 hm0)
          clear hJ6 hT6 hy hRd hmq hm1 hm0
          gi_wp2
          go_roundw
          case rel => exact ⟨_, _, _, _, _, _, _, HN⟩
          case measure => rw [HM.out.1, HM.out.2]; simp [lenOf]
        | false =>
          have hfil : fillS now { s with out := s.out.map (againO now s.tmo) } s.q.length = (m, pre) := by rw [HD.out.fil, fill_stop HRB.out, List.append_nil]
          have HPE := Lib.hid (poll_eq HG.out.1 hnow hfil)
          have xp1 : w1.cell? ⟨p1, 0, none⟩ = some (.pointer (some ⟨B, 0, none⟩)) := HD1.out.1.c1.cell 0
          have xb0 : w1.cell? ⟨B, 0, none⟩ = some (.int .i64 m.ses) := HD1.out.1.blk.cell 0
          have xb4 : w1.cell? ⟨B, 4, none⟩ = some (.int .i64 m.next) := HD1.out.1.blk.cell 4
          have xb6 : w1.cell? ⟨B, 6, none⟩ = some (.slice A2 es.length c2) := HD1.out.1.blk.cell 6
          have xb7 : w1.cell? ⟨B, 7, none⟩ = some (.slice Aq qs.length cq) := HD1.out.1.blk.cell 7
          clear hfil hA2 hq2
          by_cases h1 : es.length = 0
          rotate_left 1
          · have k1 : ((es.length : Int) == 0) = false := by rw [beq_eq_false_iff_ne]; omega
            have k1b : (es.length = 0) = False := eq_false h1
            have HPB : Hid (probeP m = []) := by
              show _ = _
              unfold probeP
              rw [if_neg]
              intro h
              have h2 := HL2.out.1
              rw [h.1] at h2
              exact h1 h2
            clear h1
            gi_wp2
            go_end0
            exact ⟨⟨_, rfl⟩, xs, ⟨_, _, _, _, by rw [HPE.out]; exact HD1.out.1, by rw [HPE.out, HD.out.xe, HPB.out, List.append_nil]; rfl⟩, HD1.out.2⟩
          have k1 : ((es.length : Int) == 0) = true := by rw [beq_iff_eq]; omega
          have HE1 : Hid (m.out = []) := List.length_eq_zero_iff.1 (by rw [← HL2.out.1]; exact h1)
          by_cases h2 : 0 < qs.length
          rotate_left 1
          · have k2 : decide ((0 : Int) < (qs.length : Int)) = false := decide_eq_false (by omega)
            have k2b : (0 < qs.length) = False := eq_false h2
            have HPB : Hid (probeP m = []) := by
              show _ = _
              unfold probeP
              rw [if_neg]
              intro h
              exact h.2.1 (List.length_eq_zero_iff.1 (by have := HL2.out.2; omega))
            clear h2
            gi_wp2
            go_end0
            exact ⟨⟨_, rfl⟩, xs, ⟨_, _, _, _, by rw [HPE.out]; exact HD1.out.1, by rw [HPE.out, HD.out.xe, HPB.out, List.append_nil]; rfl⟩, HD1.out.2⟩
          have k2 : decide ((0 : Int) < (qs.length : Int)) = true := decide_eq_true (by omega)
          have k2b : (0 < qs.length) = True := eq_true h2
          have HQ1 : Hid (m.q ≠ []) := fun h => by have h3 := HL2.out.2; rw [h] at h3; simp at h3; simp [h3] at h2
          by_cases h3 : m.next < 1073741824
          rotate_left 1
          · have k3 : decide (m.next < 1073741824) = false := decide_eq_false h3
            have HPB : Hid (probeP m = []) := by
              show _ = _
              unfold probeP
              rw [if_neg]
              intro h
              exact h3 h.2.2
            clear h3
            gi_wp2
            go_end0
            exact ⟨⟨_, rfl⟩, xs, ⟨_, _, _, _, by rw [HPE.out]; exact HD1.out.1, by rw [HPE.out, HD.out.xe, HPB.out, List.append_nil]; rfl⟩, HD1.out.2⟩
          have k3 : decide (m.next < 1073741824) = true := decide_eq_true h3
          have HPB : Hid (probeP m = [⟨2, m.ses, m.next, 0, 0, [], []⟩]) := by
            show _ = _
            unfold probeP
            rw [if_pos ⟨HE1.out, HQ1.out, h3⟩]
          clear h3
          gi_wp2
          refine wpIn_region_lexP [(0, 1), (1, 1), (5, 1), (2, 1), (6, 1), (3, 1), (7, 1), (4, 1), (8, 1), (9, 1), (10, 0)] [10] (fun w9 => w9.cell? ⟨p1, 0, none⟩ = some (.pointer (some ⟨B, 0, none⟩)) ∧ w9.cell? ⟨B, 0, none⟩ = some (.int .i64 m.ses) ∧ w9.cell? ⟨B, 4, none⟩ = some (.int .i64 m.next)) (by kernel_rfl) (by kernel_rfl) (by kernel_rfl) (by kernel_rfl) (by kernel_rfl) (fun _ d _ _ _ h => by cases d <;> exact h) ⟨xp1, xb0, xb4⟩ ?_
          repeat (refine lexP_read rfl (by rfl) (by rfl) (by intro w9 hS9; (try dsimp only at hS9); go_simp <;> with_reducible rfl) ?_; (try simp only [Act.put, List.getElem_toArray, List.getElem_cons_succ, List.getElem_cons_zero, List.setIfInBounds_toArray, List.set_cons_zero, List.set_cons_succ]))
          have hbd : Below w1.heap.size w1 w1.drew := (Below.refl _ w1).drew
          obtain ⟨x, hx⟩ : ∃ x : Ke, x = { kind := 2, ses := m.ses, seq := m.next, ack := 0, cred := 0, vs := .slice none 0 0, sel := [], A := none, c := 0, p := [] } := ⟨_, rfl⟩
          have hxr : KeR w1.drew base x := by rw [hx]; exact ⟨Vec.nil, Rd.none_⟩
          have hxv : Value.agg (encK x).toArray = .agg #[.int .i64 2, .int .i64 m.ses, .int .i64 m.next, .int .i64 0, .int .i64 0, .slice none 0 0, .slice none 0 0] := by rw [hx]; rfl
          have hxm : x.pm = ⟨2, m.ses, m.next, 0, 0, [], []⟩ := by rw [hx]; rfl
          have hyy := HG.out.2.2.2.2 xs x w1.drew (HG.out.2.2.2.1 _ _ _ HD1.out.2 (Turn.of_below hbd)) hxr (by have h1 := HD.out.few; have h2 := HD.out.mo.outl; omega)
          rw [hxv] at hyy
          obtain ⟨fn, tmps, assign, body, hy, hRd⟩ := hyy
          have HI6 := Lib.hid (And.intro (HD1.out.1.below hbd) hxm)
          clear hx hxr hxv hxm hbd
          refine lexP_eff rfl (fun _ => trivial) ?_
          go_simp
          refine hRd.mono ?_
          rintro e W6 ⟨rfl, hJ6, hT6⟩
          dsimp only
          have HJ6 := Lib.hid (And.intro hJ6 (HI6.out.1.turnW hT6 hbs))
          clear hJ6 hT6 hy hRd
          refine ⟨rfl, _, results_none rfl _ _ _, ?_⟩
          exact ⟨⟨_, rfl⟩, xs ++ [x], ⟨_, _, _, _, by rw [HPE.out]; exact HJ6.out.2, by rw [HPE.out, List.map_append, HD.out.xe, HPB.out]; simp only [List.map_cons, List.map_nil, HI6.out.2]; rfl⟩, HJ6.out.1⟩
theorem due3_seq (n : Nat) (hn : 1 ≤ n) (B RB p1 p2 p3 p4 base bs : Nat) (now : Int) (s : Sm) (vo vq : Value) (es : List Oe) (qs : List Qe) (w : World)
    (hs : chkS s = 0) (hnow : 0 ≤ now ∧ now ≤ 1073741824) (hbs : base ≤ bs) (hB : bs ≤ B) (hne : B ≠ RB) (h : DueI B RB p1 p2 p3 p4 base bs now s vo vq es qs w) :
    SeqT Fence.wide n Try.prog 79 #[.pointer (some ⟨p1, 0, none⟩), .pointer (some ⟨p2, 0, none⟩), .pointer (some ⟨p3, 0, none⟩), .pointer (some ⟨p4, 0, none⟩)] (fun x : Ke => #[.agg (encK x).toArray]) (fun W x => KeR W base x) bs 200 [25, 82] [48, 55] (DueF B RB p1 p2 p3 p4 base bs now s) w := fun l J W hW hJ hY h0 =>
  due3_in n hn l B RB p1 p2 p3 p4 base bs now s vo vq es qs J W hJ hY hs hnow hbs hB hne (h.below hW) h0
theorem enters79 : ∀ (args : Array Value) (w : World), (callFunc 79 args).run Try.prog w = .ok (.enter 79 args) w := enters_of Try.func79 (by kernel_rfl) rfl
end Go.Proofs.Ytanmndhdhlmjgaa
