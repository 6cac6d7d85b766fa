/- The walk of the law EventqueueOrders. No condition. -/
import Derived.Test.YtknedclejhiegaaLe
import Derived.Test.YtknedclejhiegaaLg
namespace Go.Proofs.Ytknedclejhiegaa
open Go.RowKit
/-- the events of added times: their numbers are the places of their times -/
theorem addM_mem (ts : List Int) : ∀ (i : Nat) (e : Em), e ∈ addM ts i → ∃ j : Nat, j < i ∧ ts[j]? = some e.t ∧ e.n = (j : Int) ∧ e.k = (j : Int) ∧ e.p = []
  | 0, e, h => by cases h
  | i + 1, e, h => by
    rw [addM] at h
    split at h
    · obtain ⟨j, hj, h2⟩ := addM_mem ts i e h
      exact ⟨j, by omega, h2⟩
    · rename_i t ht
      unfold insE at h
      rcases List.mem_append.1 h with h | h
      · obtain ⟨j, hj, h2⟩ := addM_mem ts i e (List.mem_of_mem_take h)
        exact ⟨j, by omega, h2⟩
      · rcases List.mem_cons.1 h with rfl | h
        · exact ⟨i, by omega, ht, rfl, rfl, rfl⟩
        · obtain ⟨j, hj, h2⟩ := addM_mem ts i e (List.mem_of_mem_drop h)
          exact ⟨j, by omega, h2⟩
/-- the one behind stands later -/
theorem ord_next {nx : Int} {L : List Em} (h : OkP nx L) {i : Nat} {x y : Em} (hx : L[i]? = some x) (hy : L[i + 1]? = some y) : x.t < y.t ∨ (x.t = y.t ∧ x.n < y.n) := by
  obtain ⟨h1, rfl⟩ := List.getElem?_eq_some_iff.1 hx
  obtain ⟨h2, rfl⟩ := List.getElem?_eq_some_iff.1 hy
  have := List.pairwise_iff_getElem.1 h.ord i (i + 1) h1 h2 (by omega)
  unfold befB at this
  rwa [decide_eq_true_eq] at this
/-- the state of the loop -/
structure OrI (w : World) (bq bl : Nat) (L : List Em) (M : Nat) (i : Nat) (W : World) : Prop where
  q : ∃ A n c es, Blk W bq 24 #[.slice A n c, .int .i64 (M : Nat)] ∧ Evs W A n es ∧ es.map Ev.em = L.drop i ∧ n ≤ c
  l : ∃ (t n : Int) (v2 v3 v4 : Value), Blk W bl 32 #[.int .i64 t, .int .i64 n, v2, v3, v4] ∧ ∀ x, L[i]? = some x → t < x.t ∨ (t = x.t ∧ n < x.n)
  bel : Below w.heap.size w W
set_option linter.unusedSimpArgs false in
set_option maxRecDepth 100000 in
set_option maxHeartbeats 16000000 in
theorem walkEventqueueOrders (w : World) (v0 : Value) (h0 : Arg39 w v0) : Calls Try.prog 7 #[v0] w fun e w' => e = .returned (.bool true) ∧ Below w.heap.size w w' := by
  obtain ⟨A, m, c, l, rfl, hR, hmc, hcm, hl⟩ := h0
  have HX := Lib.hid (And.intro hR hl)
  clear hR hl
  unfold maxLen at hcm
  go_enter Try.func7, Try.ntmps7
  go_wp2_with fail
  refine (times_any A m c l w HX.out.1 (by unfold maxLen; omega) HX.out.2).mono ?_
  rintro e w1 ⟨hb1, A1, c1, rfl, hr1⟩
  have hok := added_ok l
  have htl := timesM_len l
  have htb : ∀ t ∈ timesM l, 0 ≤ t ∧ t ≤ 1073741824 := fun t ht => by have := timesM_ok l t ht; omega
  generalize timesM l = ts at *
  obtain ⟨M, hM⟩ : ∃ M, ts.length = M := ⟨_, rfl⟩
  have HM := Lib.hid hM
  rw [hM] at htl hr1 hok ⊢
  have H1 := Lib.hid (And.intro hb1 (And.intro hr1 (And.intro hok htb)))
  have hs1 := hb1.size
  clear hb1 hr1 hok htb hM
  go_wp2_with fail
  refine (added_any A1 M c1 ts w1 H1.out.2.1 (by omega) H1.out.2.2.2).mono ?_
  rintro e w2 ⟨hb2, v2, he2, hv2⟩
  rw [HM.out] at hv2
  obtain ⟨L, hL⟩ : ∃ L, addM ts M = L := ⟨_, rfl⟩
  have HOK : Hid (OkP M L ∧ L.length = M) := by rw [← hL]; exact H1.out.2.2.1
  have HMem : Hid (∀ e ∈ L, ∃ j : Nat, j < M ∧ ts[j]? = some e.t ∧ e.n = (j : Int) ∧ e.k = (j : Int) ∧ e.p = []) := by rw [← hL]; exact addM_mem ts M
  rw [hL] at hv2
  clear hL
  obtain ⟨A2, c2, es2, rfl, hE2, hm2, hc2⟩ := hv2.val
  have hl2 : es2.length = M := by rw [← HOK.out.2, ← hm2, List.length_map]
  rw [hl2] at hE2 hc2 he2
  subst he2
  have hs2 := hb2.size
  have H2 := Lib.hid (And.intro hb2 (And.intro hE2 (And.intro hm2 (ok_body HOK.out.1 hm2))))
  clear hb2 hv2 hE2 hm2 hl2
  have hb2x : Below w2.heap.size w2 (w2.alloc (.cells #[.slice A2 M c2, .int .i64 (M : Nat)] 24)) := (Below.refl _ _).alloc (Nat.le_refl _) _
  have hs2x : w2.heap.size + 1 ≤ (w2.alloc (.cells #[.slice A2 M c2, .int .i64 (M : Nat)] 24)).heap.size := by simp
  have H2x := Lib.hid (And.intro hb2x (Blk.new w2 24 #[.slice A2 M c2, .int .i64 (M : Nat)]))
  clear hb2x
  go_upto_region 3 with fail
  generalize (w2.alloc (.cells #[.slice A2 M c2, .int .i64 (M : Nat)] 24)) = V2 at *
  have q0 : V2.cell? ⟨w2.heap.size, 0, none⟩ = some (.slice A2 M c2) := H2x.out.2.cell 0
  have q1 : V2.cell? ⟨w2.heap.size, 1, none⟩ = some (.int .i64 (M : Nat)) := H2x.out.2.cell 1
  go_upto_region 5 with fail
  have hb3x : Below w2.heap.size w2 (V2.alloc (.cells #[.int .i64 (-1), .int .i64 0, .int .i64 0, .int .i64 0, .slice none 0 0] 32)) := H2x.out.1.alloc (by omega) _
  have hs3x : V2.heap.size + 1 ≤ (V2.alloc (.cells #[.int .i64 (-1), .int .i64 0, .int .i64 0, .int .i64 0, .slice none 0 0] 32)).heap.size := by simp
  have gq3 := H2x.out.2.alloc (.cells #[.int .i64 (-1), .int .i64 0, .int .i64 0, .int .i64 0, .slice none 0 0] 32)
  have HI : Hid (OrI w1 w2.heap.size V2.heap.size L M 0 (V2.alloc (.cells #[.int .i64 (-1), .int .i64 0, .int .i64 0, .int .i64 0, .slice none 0 0] 32))) := by
    refine ⟨⟨_, _, _, es2, gq3, H2.out.2.1.up hb3x, H2.out.2.2.1, hc2⟩, ⟨-1, 0, _, _, _, Blk.new V2 32 #[.int .i64 (-1), .int .i64 0, .int .i64 0, .int .i64 0, .slice none 0 0], fun x hx => ?_⟩, H2.out.1.trans (hb3x.mono H2.out.1.size)⟩
    have := wrong_fact (HOK.out.1.each x (List.mem_of_getElem? hx))
    omega
  clear hb3x gq3 q0 q1
  go_wp2_with fail
  generalize (V2.alloc (.cells #[.int .i64 (-1), .int .i64 0, .int .i64 0, .int .i64 0, .slice none 0 0] 32)) = V3 at *
  go_loopw [7] (fun u7 W => ∃ i : Nat, i ≤ M ∧ u7 = .int .i64 (i : Nat) ∧ OrI w1 w2.heap.size V2.heap.size L M i W) (fun u7 _ => M + 1 - (intOf u7).toNat)
  case atStart => exact ⟨0, by omega, rfl, HI.out⟩
  case round =>
    obtain ⟨i, hi, rfl, hI⟩ := hrel
    obtain ⟨⟨Aq, mq, cq, eq, gq, hEq, hmq, hcq⟩, ⟨lt, ln, l2, l3, l4, gl, hlast⟩, hbel⟩ := hI
    have hokq : OkP (M : Nat) (L.drop i) := HOK.out.1.sub (List.drop_sublist i L)
    have hnq := hEq.count
    have hnb : mq ≤ 30 := by have h := congrArg List.length hmq; have := HOK.out.2; rw [List.length_map, List.length_drop] at h; omega
    have q0 : wr.cell? ⟨w2.heap.size, 0, none⟩ = some (.slice Aq mq cq) := gq.cell 0
    have q1 : wr.cell? ⟨w2.heap.size, 1, none⟩ = some (.int .i64 (M : Nat)) := gq.cell 1
    have hlq := gq.lt
    have hll := gl.lt
    have HQ := Lib.hid (And.intro (And.intro hEq hmq) (And.intro (ok_body hokq hmq) (And.intro gq (And.intro gl (And.intro hlast hbel)))))
    clear hEq hmq gq gl hlast hbel hokq hnq HI
    by_cases hik : i < M
    · have hi1 : (i : Int) < M := by omega
      have hi0 : (0 : Int) ≤ i := by omega
      have hiL : i < L.length := by have := HOK.out.2; omega
      obtain ⟨hpop, _⟩ := pop_ok HOK.out.1 hiL
      obtain ⟨j, hj, htj, hxn, hxk, -⟩ := HMem.out _ (List.getElem_mem hiL)
      have hlast := HQ.out.2.2.2.2.1 _ (List.getElem?_eq_getElem hiL)
      have hnext : ∀ y, L[i + 1]? = some y → L[i].t < y.t ∨ (L[i].t = y.t ∧ L[i].n < y.n) := fun y hy => ord_next HOK.out.1 (List.getElem?_eq_getElem hiL) hy
      generalize L[i] = x at *
      obtain ⟨xt, xn, xk, xo, xp⟩ := x
      dsimp only at htj hxn hxk hlast hnext
      subst hxn
      subst hxk
      have HPF := Lib.hid hpop
      have HNX := Lib.hid hnext
      obtain ⟨b1, o1, t1, rfl, hbb, htx, e0⟩ := intsV_at H1.out.2.1 hj
      have htt : t1 = xt := by rw [htj] at htx; injection htx with h; exact h.symm
      subst htt
      have HE := Lib.hid (And.intro hbb e0)
      clear htj htx hpop hnext hbb e0
      go_wp2_with fail
      refine (Pop_new Aq mq cq eq M wr HQ.out.1.1 (by omega) hcq HQ.out.2.1).mono ?_
      rintro e w5 ⟨hb5, v5, y5, he5, hv5, hy5, hfr⟩
      rw [HQ.out.1.2, HPF.out] at he5 hv5 hy5
      subst he5
      dsimp only at hv5 hy5 ⊢
      obtain ⟨A5, c5, es5, rfl, hE5, hm5, hc5⟩ := hv5.val
      have hfr := hfr _ _ _ _ rfl
      obtain ⟨B5, d5, rfl, hr5⟩ := hy5.val
      dsimp only at hr5
      unfold evC
      dsimp only
      obtain ⟨n5, hn5⟩ : ∃ N, es5.length = N := ⟨_, rfl⟩
      rw [hn5] at hE5 hc5 hfr ⊢
      have hp5 : ∀ e ∈ es5, e.p = [] := by
        intro e he
        have h1 : e.em ∈ L.drop (i + 1) := by rw [← hm5]; exact List.mem_map_of_mem he
        obtain ⟨_, _, _, _, _, h2⟩ := HMem.out _ (List.mem_of_mem_drop h1)
        exact h2
      have HFR := Lib.hid (And.intro hfr hp5)
      clear hfr hp5
      have hs5 := hb5.size
      have hby : Below w5.heap.size w5 ((w5.alloc (.cells #[.slice A5 n5 c5, .int .i64 (M : Nat)] 24)).alloc (.cells #[.int .i64 t1, .int .i64 (j : Nat), .int .i64 (j : Nat), .int .i64 xo, .slice B5 xp.length d5] 32)) := ((Below.refl _ w5).alloc (Nat.le_refl _) _).alloc (by simp) _
      have hbw5 : Below wr.heap.size wr ((w5.alloc (.cells #[.slice A5 n5 c5, .int .i64 (M : Nat)] 24)).alloc (.cells #[.int .i64 t1, .int .i64 (j : Nat), .int .i64 (j : Nat), .int .i64 xo, .slice B5 xp.length d5] 32)) := hb5.trans (hby.mono hb5.size)
      have gq5 : Blk ((w5.alloc (.cells #[.slice A5 n5 c5, .int .i64 (M : Nat)] 24)).alloc (.cells #[.int .i64 t1, .int .i64 (j : Nat), .int .i64 (j : Nat), .int .i64 xo, .slice B5 xp.length d5] 32)) w5.heap.size 24 #[.slice A5 n5 c5, .int .i64 (M : Nat)] := (Blk.new w5 24 #[.slice A5 n5 c5, .int .i64 (M : Nat)]).alloc _
      have gy5 := Blk.new (w5.alloc (.cells #[.slice A5 n5 c5, .int .i64 (M : Nat)] 24)) 32 #[.int .i64 t1, .int .i64 (j : Nat), .int .i64 (j : Nat), .int .i64 xo, .slice B5 xp.length d5]
      rw [World.size_alloc] at gy5
      have hsy : w5.heap.size + 2 ≤ ((w5.alloc (.cells #[.slice A5 n5 c5, .int .i64 (M : Nat)] 24)).alloc (.cells #[.int .i64 t1, .int .i64 (j : Nat), .int .i64 (j : Nat), .int .i64 xo, .slice B5 xp.length d5] 32)).heap.size := by simp
      have H5 := Lib.hid (And.intro hbw5 (And.intro (And.intro gq5 gy5) (And.intro (HQ.out.2.2.1.below hbw5 hlq) (And.intro (HQ.out.2.2.2.1.below hbw5 hll) (And.intro (hE5.up hby) hm5)))))
      clear hb5 hv5 hy5 hE5 hr5 hm5 hn5 hby gq5 gy5 hbw5 q0 q1
      go_upto_region 10 with fail
      generalize ((w5.alloc (.cells #[.slice A5 n5 c5, .int .i64 (M : Nat)] 24)).alloc (.cells #[.int .i64 t1, .int .i64 (j : Nat), .int .i64 (j : Nat), .int .i64 xo, .slice B5 xp.length d5] 32)) = V5 at *
      have hse := H5.out.1.size
      have x0 : V5.cell? ⟨w5.heap.size + 1, 0, none⟩ = some (.int .i64 t1) := H5.out.2.1.2.cell 0
      have x1 : V5.cell? ⟨w5.heap.size + 1, 1, none⟩ = some (.int .i64 (j : Nat)) := H5.out.2.1.2.cell 1
      have x2 : V5.cell? ⟨w5.heap.size + 1, 2, none⟩ = some (.int .i64 (j : Nat)) := H5.out.2.1.2.cell 2
      have x3 : V5.cell? ⟨w5.heap.size + 1, 3, none⟩ = some (.int .i64 xo) := H5.out.2.1.2.cell 3
      have x4 : V5.cell? ⟨w5.heap.size + 1, 4, none⟩ = some (.slice B5 xp.length d5) := H5.out.2.1.2.cell 4
      have z0 : V5.cell? ⟨V2.heap.size, 0, none⟩ = some (.int .i64 lt) := H5.out.2.2.2.1.cell 0
      have z1 : V5.cell? ⟨V2.heap.size, 1, none⟩ = some (.int .i64 ln) := H5.out.2.2.2.1.cell 1
      have e0 := ((HQ.out.2.2.2.2.2.trans (H5.out.1.mono HQ.out.2.2.2.2.2.size)).cell (p := ⟨b1, o1 + j, none⟩) HE.out.1).trans HE.out.2
      have j0 : (0 : Int) ≤ (j : Int) := by omega
      have j1 : ¬ (j : Int) < 0 := by omega
      have j2 : ¬ (M : Int) ≤ (j : Int) := by omega
      have j3 : (j : Int) < M := by omega
      rcases hlast with hl1 | ⟨rfl, hl2⟩
      · have k1 : ¬ t1 < lt := by omega
        have k2 : ¬ t1 = lt := by omega
        have k3 : ¬ lt = t1 := by omega
        go_quiet (fail)
        go_upto_region 12 with fail
        have hb6 : Below V5.heap.size V5 (V5.drewN nq) := below_drewN (Below.refl _ _) _
        generalize V5.drewN nq = W6 at *
        have hs6 := hb6.size
        have hG1 := H5.out.2.2.1.below hb6 (by omega)
        have hG2 := H5.out.2.2.2.1.below hb6 (by omega)
        have n0 : W6.cell? ⟨w5.heap.size, 0, none⟩ = some (.slice A5 n5 c5) := (H5.out.2.1.1.below hb6 (by omega)).cell 0
        have n1 : W6.cell? ⟨w5.heap.size, 1, none⟩ = some (.int .i64 (M : Nat)) := (H5.out.2.1.1.below hb6 (by omega)).cell 1
        have y0 := (hb6.cell (p := ⟨w5.heap.size + 1, 0, none⟩) (by dsimp only; omega)).trans x0
        have y1 := (hb6.cell (p := ⟨w5.heap.size + 1, 1, none⟩) (by dsimp only; omega)).trans x1
        have y2 := (hb6.cell (p := ⟨w5.heap.size + 1, 2, none⟩) (by dsimp only; omega)).trans x2
        have y3 := (hb6.cell (p := ⟨w5.heap.size + 1, 3, none⟩) (by dsimp only; omega)).trans x3
        have y4 := (hb6.cell (p := ⟨w5.heap.size + 1, 4, none⟩) (by dsimp only; omega)).trans x4
        have HG := Lib.hid (And.intro hG1 (And.intro hG2 (And.intro (H5.out.2.2.2.2.1.up hb6) (H5.out.1.trans (hb6.mono H5.out.1.size)))))
        clear hb6 hG1 hG2 x0 x1 x2 x3 x4 z0 z1 e0
        refine wp_pan (Pc := fun _ _ _ => False) (fun _ _ _ h => h.elim) ?_
        refine wp_region_tail_lit (S := fun V => V.cell? ⟨w5.heap.size, 0, none⟩ = some (.slice A5 n5 c5) ∧ V.cell? ⟨w5.heap.size, 1, none⟩ = some (.int .i64 (M : Nat)) ∧ V.cell? ⟨w5.heap.size + 1, 0, none⟩ = some (.int .i64 t1) ∧ V.cell? ⟨w5.heap.size + 1, 1, none⟩ = some (.int .i64 (j : Nat)) ∧ V.cell? ⟨w5.heap.size + 1, 2, none⟩ = some (.int .i64 (j : Nat)) ∧ V.cell? ⟨w5.heap.size + 1, 3, none⟩ = some (.int .i64 xo) ∧ V.cell? ⟨w5.heap.size + 1, 4, none⟩ = some (.slice B5 xp.length d5)) 4 (by kernel_rfl) (by kernel_rfl) ⟨n0, n1, y0, y1, y2, y3, y4⟩ (fun hHeld => ?_)
        simp only [List.take, List.drop]
        refine wpAnyH_take (i := 0) (oi := _) (v := ?_) rfl (by kernel_rfl) (by kernel_rfl) (by kernel_rfl) (fun _ _ _ h => h) (Or.inl ⟨by rfl, ?_⟩) (by assumption) ?_
        rotate_left 1
        · (intro w9 hS9; (try dsimp only at hS9); go_simp <;> with_reducible rfl)
        try simp only [List.getElem_toArray, List.getElem_cons_succ, List.getElem_cons_zero, Act.put, List.setIfInBounds_toArray, List.set_cons_zero, List.set_cons_succ]
        refine wpAnyH_take (i := 1) (oi := _) (v := ?_) rfl (by kernel_rfl) (by kernel_rfl) (by kernel_rfl) (fun _ _ _ h => h) (Or.inl ⟨by rfl, ?_⟩) (by assumption) ?_
        rotate_left 1
        · (intro w9 hS9; (try dsimp only at hS9); go_simp <;> with_reducible rfl)
        try simp only [List.getElem_toArray, List.getElem_cons_succ, List.getElem_cons_zero, Act.put, List.setIfInBounds_toArray, List.set_cons_zero, List.set_cons_succ]
        refine wpAnyH_ready (rs := [2]) (by kernel_rfl) (by simp) ?_
        refine AllReadyH.cons (o := _) rfl (fun K hK => ?_) AllReadyH.nil
        · skip
          try simp only [List.getElem_toArray, List.getElem_cons_succ, List.getElem_cons_zero]
          rw [if_pos (show Region.wanted _ _ = true from rfl)]
          refine wp_store_row 24 _ _ (by rfl) w2.heap.size #[.slice A5 n5 c5, .int .i64 (M : Nat)] (by rfl) (by rfl) 24 _ HG.out.1.drew (by kernel_rfl) rfl (by simp [Value.oneCell']) ?_
          refine hK.out _ _ ⟨(World.cell?_of_block (setRow_other _ _ _ _ (by dsimp only; omega))).trans n0, (World.cell?_of_block (setRow_other _ _ _ _ (by dsimp only; omega))).trans n1, (World.cell?_of_block (setRow_other _ _ _ _ (by dsimp only; omega))).trans y0, (World.cell?_of_block (setRow_other _ _ _ _ (by dsimp only; omega))).trans y1, (World.cell?_of_block (setRow_other _ _ _ _ (by dsimp only; omega))).trans y2, (World.cell?_of_block (setRow_other _ _ _ _ (by dsimp only; omega))).trans y3, (World.cell?_of_block (setRow_other _ _ _ _ (by dsimp only; omega))).trans y4⟩ (fun hHeld => ?_)
          clear hK K
          try simp only [List.getElem_toArray, List.getElem_cons_succ, List.getElem_cons_zero, Act.put, List.setIfInBounds_toArray, List.set_cons_zero, List.set_cons_succ]
          refine wpAnyH_ready (rs := [3]) (by kernel_rfl) (by simp) ?_
          refine AllReadyH.cons (o := _) rfl (fun K hK => ?_) AllReadyH.nil
          try simp only [List.getElem_toArray, List.getElem_cons_succ, List.getElem_cons_zero]
          rw [if_pos (show Region.wanted _ _ = true from rfl)]
          refine wp_store_row 32 _ _ (by rfl) V2.heap.size #[.int .i64 t1, .int .i64 (j : Nat), .int .i64 (j : Nat), .int .i64 xo, .slice B5 xp.length d5] (by rfl) (by rfl) 32 _ (HG.out.2.1.drew.row_far (by omega) _) (by kernel_rfl) rfl (by simp [Value.oneCell']) ?_
          refine hK.out _ _ ⟨(World.cell?_of_block (setRow_other _ _ _ _ (by dsimp only; omega))).trans ((World.cell?_of_block (setRow_other _ _ _ _ (by dsimp only; omega))).trans n0), (World.cell?_of_block (setRow_other _ _ _ _ (by dsimp only; omega))).trans ((World.cell?_of_block (setRow_other _ _ _ _ (by dsimp only; omega))).trans n1), (World.cell?_of_block (setRow_other _ _ _ _ (by dsimp only; omega))).trans ((World.cell?_of_block (setRow_other _ _ _ _ (by dsimp only; omega))).trans y0), (World.cell?_of_block (setRow_other _ _ _ _ (by dsimp only; omega))).trans ((World.cell?_of_block (setRow_other _ _ _ _ (by dsimp only; omega))).trans y1), (World.cell?_of_block (setRow_other _ _ _ _ (by dsimp only; omega))).trans ((World.cell?_of_block (setRow_other _ _ _ _ (by dsimp only; omega))).trans y2), (World.cell?_of_block (setRow_other _ _ _ _ (by dsimp only; omega))).trans ((World.cell?_of_block (setRow_other _ _ _ _ (by dsimp only; omega))).trans y3), (World.cell?_of_block (setRow_other _ _ _ _ (by dsimp only; omega))).trans ((World.cell?_of_block (setRow_other _ _ _ _ (by dsimp only; omega))).trans y4)⟩ (fun hHeld => ?_)
          clear hK K
          try simp only [List.getElem_toArray, List.getElem_cons_succ, List.getElem_cons_zero, Act.put, List.setIfInBounds_toArray, List.set_cons_zero, List.set_cons_succ]
          refine wpAnyH_done (by kernel_rfl) ?_ _
          refine tailQ_nil (panQ_normal ?_)
          go_wp2_with fail
          go_roundw
          case rel =>
            exact ⟨i + 1, by omega, by go_num, ⟨A5, n5, c5, es5, (HG.out.1.drew.setRow _).row_far (by omega) _, (HG.out.2.2.1.drew.row_q HG.out.1.drew _).row (g := V2.heap.size) (fun ad h0 hA9 => by have := HFR.out.1 ad h0 hA9; omega) (fun e he ad h0 hA9 => by rw [HFR.out.2 e he] at h0; simp at h0) _, H5.out.2.2.2.2.2, hc5⟩, ⟨t1, (j : Nat), _, _, _, (HG.out.2.1.drew.row_far (by omega) _).setRow _, HNX.out⟩, below_setRow (below_setRow (HQ.out.2.2.2.2.2.trans (HG.out.2.2.2.mono HQ.out.2.2.2.2.2.size)).drew (by omega) _) (by omega) _⟩
          case measure => simp [intOf]; omega
      · have k1 : ¬ (j : Int) ≤ ln := by omega
        go_quiet (fail)
        go_upto_region 12 with fail
        have hb6 : Below V5.heap.size V5 (V5.drewN nq) := below_drewN (Below.refl _ _) _
        generalize V5.drewN nq = W6 at *
        have hs6 := hb6.size
        have hG1 := H5.out.2.2.1.below hb6 (by omega)
        have hG2 := H5.out.2.2.2.1.below hb6 (by omega)
        have n0 : W6.cell? ⟨w5.heap.size, 0, none⟩ = some (.slice A5 n5 c5) := (H5.out.2.1.1.below hb6 (by omega)).cell 0
        have n1 : W6.cell? ⟨w5.heap.size, 1, none⟩ = some (.int .i64 (M : Nat)) := (H5.out.2.1.1.below hb6 (by omega)).cell 1
        have y0 := (hb6.cell (p := ⟨w5.heap.size + 1, 0, none⟩) (by dsimp only; omega)).trans x0
        have y1 := (hb6.cell (p := ⟨w5.heap.size + 1, 1, none⟩) (by dsimp only; omega)).trans x1
        have y2 := (hb6.cell (p := ⟨w5.heap.size + 1, 2, none⟩) (by dsimp only; omega)).trans x2
        have y3 := (hb6.cell (p := ⟨w5.heap.size + 1, 3, none⟩) (by dsimp only; omega)).trans x3
        have y4 := (hb6.cell (p := ⟨w5.heap.size + 1, 4, none⟩) (by dsimp only; omega)).trans x4
        have HG := Lib.hid (And.intro hG1 (And.intro hG2 (And.intro (H5.out.2.2.2.2.1.up hb6) (H5.out.1.trans (hb6.mono H5.out.1.size)))))
        clear hb6 hG1 hG2 x0 x1 x2 x3 x4 z0 z1 e0
        refine wp_pan (Pc := fun _ _ _ => False) (fun _ _ _ h => h.elim) ?_
        refine wp_region_tail_lit (S := fun V => V.cell? ⟨w5.heap.size, 0, none⟩ = some (.slice A5 n5 c5) ∧ V.cell? ⟨w5.heap.size, 1, none⟩ = some (.int .i64 (M : Nat)) ∧ V.cell? ⟨w5.heap.size + 1, 0, none⟩ = some (.int .i64 lt) ∧ V.cell? ⟨w5.heap.size + 1, 1, none⟩ = some (.int .i64 (j : Nat)) ∧ V.cell? ⟨w5.heap.size + 1, 2, none⟩ = some (.int .i64 (j : Nat)) ∧ V.cell? ⟨w5.heap.size + 1, 3, none⟩ = some (.int .i64 xo) ∧ V.cell? ⟨w5.heap.size + 1, 4, none⟩ = some (.slice B5 xp.length d5)) 4 (by kernel_rfl) (by kernel_rfl) ⟨n0, n1, y0, y1, y2, y3, y4⟩ (fun hHeld => ?_)
        simp only [List.take, List.drop]
        refine wpAnyH_take (i := 0) (oi := _) (v := ?_) rfl (by kernel_rfl) (by kernel_rfl) (by kernel_rfl) (fun _ _ _ h => h) (Or.inl ⟨by rfl, ?_⟩) (by assumption) ?_
        rotate_left 1
        · (intro w9 hS9; (try dsimp only at hS9); go_simp <;> with_reducible rfl)
        try simp only [List.getElem_toArray, List.getElem_cons_succ, List.getElem_cons_zero, Act.put, List.setIfInBounds_toArray, List.set_cons_zero, List.set_cons_succ]
        refine wpAnyH_take (i := 1) (oi := _) (v := ?_) rfl (by kernel_rfl) (by kernel_rfl) (by kernel_rfl) (fun _ _ _ h => h) (Or.inl ⟨by rfl, ?_⟩) (by assumption) ?_
        rotate_left 1
        · (intro w9 hS9; (try dsimp only at hS9); go_simp <;> with_reducible rfl)
        try simp only [List.getElem_toArray, List.getElem_cons_succ, List.getElem_cons_zero, Act.put, List.setIfInBounds_toArray, List.set_cons_zero, List.set_cons_succ]
        refine wpAnyH_ready (rs := [2]) (by kernel_rfl) (by simp) ?_
        refine AllReadyH.cons (o := _) rfl (fun K hK => ?_) AllReadyH.nil
        · skip
          try simp only [List.getElem_toArray, List.getElem_cons_succ, List.getElem_cons_zero]
          rw [if_pos (show Region.wanted _ _ = true from rfl)]
          refine wp_store_row 24 _ _ (by rfl) w2.heap.size #[.slice A5 n5 c5, .int .i64 (M : Nat)] (by rfl) (by rfl) 24 _ HG.out.1.drew (by kernel_rfl) rfl (by simp [Value.oneCell']) ?_
          refine hK.out _ _ ⟨(World.cell?_of_block (setRow_other _ _ _ _ (by dsimp only; omega))).trans n0, (World.cell?_of_block (setRow_other _ _ _ _ (by dsimp only; omega))).trans n1, (World.cell?_of_block (setRow_other _ _ _ _ (by dsimp only; omega))).trans y0, (World.cell?_of_block (setRow_other _ _ _ _ (by dsimp only; omega))).trans y1, (World.cell?_of_block (setRow_other _ _ _ _ (by dsimp only; omega))).trans y2, (World.cell?_of_block (setRow_other _ _ _ _ (by dsimp only; omega))).trans y3, (World.cell?_of_block (setRow_other _ _ _ _ (by dsimp only; omega))).trans y4⟩ (fun hHeld => ?_)
          clear hK K
          try simp only [List.getElem_toArray, List.getElem_cons_succ, List.getElem_cons_zero, Act.put, List.setIfInBounds_toArray, List.set_cons_zero, List.set_cons_succ]
          refine wpAnyH_ready (rs := [3]) (by kernel_rfl) (by simp) ?_
          refine AllReadyH.cons (o := _) rfl (fun K hK => ?_) AllReadyH.nil
          try simp only [List.getElem_toArray, List.getElem_cons_succ, List.getElem_cons_zero]
          rw [if_pos (show Region.wanted _ _ = true from rfl)]
          refine wp_store_row 32 _ _ (by rfl) V2.heap.size #[.int .i64 lt, .int .i64 (j : Nat), .int .i64 (j : Nat), .int .i64 xo, .slice B5 xp.length d5] (by rfl) (by rfl) 32 _ (HG.out.2.1.drew.row_far (by omega) _) (by kernel_rfl) rfl (by simp [Value.oneCell']) ?_
          refine hK.out _ _ ⟨(World.cell?_of_block (setRow_other _ _ _ _ (by dsimp only; omega))).trans ((World.cell?_of_block (setRow_other _ _ _ _ (by dsimp only; omega))).trans n0), (World.cell?_of_block (setRow_other _ _ _ _ (by dsimp only; omega))).trans ((World.cell?_of_block (setRow_other _ _ _ _ (by dsimp only; omega))).trans n1), (World.cell?_of_block (setRow_other _ _ _ _ (by dsimp only; omega))).trans ((World.cell?_of_block (setRow_other _ _ _ _ (by dsimp only; omega))).trans y0), (World.cell?_of_block (setRow_other _ _ _ _ (by dsimp only; omega))).trans ((World.cell?_of_block (setRow_other _ _ _ _ (by dsimp only; omega))).trans y1), (World.cell?_of_block (setRow_other _ _ _ _ (by dsimp only; omega))).trans ((World.cell?_of_block (setRow_other _ _ _ _ (by dsimp only; omega))).trans y2), (World.cell?_of_block (setRow_other _ _ _ _ (by dsimp only; omega))).trans ((World.cell?_of_block (setRow_other _ _ _ _ (by dsimp only; omega))).trans y3), (World.cell?_of_block (setRow_other _ _ _ _ (by dsimp only; omega))).trans ((World.cell?_of_block (setRow_other _ _ _ _ (by dsimp only; omega))).trans y4)⟩ (fun hHeld => ?_)
          clear hK K
          try simp only [List.getElem_toArray, List.getElem_cons_succ, List.getElem_cons_zero, Act.put, List.setIfInBounds_toArray, List.set_cons_zero, List.set_cons_succ]
          refine wpAnyH_done (by kernel_rfl) ?_ _
          refine tailQ_nil (panQ_normal ?_)
          go_wp2_with fail
          go_roundw
          case rel =>
            exact ⟨i + 1, by omega, by go_num, ⟨A5, n5, c5, es5, (HG.out.1.drew.setRow _).row_far (by omega) _, (HG.out.2.2.1.drew.row_q HG.out.1.drew _).row (g := V2.heap.size) (fun ad h0 hA9 => by have := HFR.out.1 ad h0 hA9; omega) (fun e he ad h0 hA9 => by rw [HFR.out.2 e he] at h0; simp at h0) _, H5.out.2.2.2.2.2, hc5⟩, ⟨lt, (j : Nat), _, _, _, (HG.out.2.1.drew.row_far (by omega) _).setRow _, HNX.out⟩, below_setRow (below_setRow (HQ.out.2.2.2.2.2.trans (HG.out.2.2.2.mono HQ.out.2.2.2.2.2.size)).drew (by omega) _) (by omega) _⟩
          case measure => simp [intOf]; omega
    · have hi1 : ¬ (i : Int) < M := by omega
      have hnil : L.drop i = [] := List.drop_eq_nil_of_le (by have := HOK.out.2; omega)
      have HPN : Hid (popQ (L.drop i) M = ⟨[], 0, zeroE, 7⟩) := by
        have h1 := (HOK.out.1.sub (List.drop_sublist i L)).chk
        show _ = _
        unfold popQ
        rw [h1, if_neg (by simp), hnil]
      clear hnil
      go_wp2_with fail
      refine (Pop_any Aq mq cq eq M wr HQ.out.1.1 (by omega) hcq HQ.out.2.1).mono ?_
      rintro e w5 ⟨hb5, v5, y5, he5, hv5, hy5⟩
      rw [HQ.out.1.2, HPN.out] at he5 hv5 hy5
      subst he5
      dsimp only at hv5 hy5 ⊢
      obtain ⟨A5, c5, es5, rfl, _, _, _⟩ := hv5.val
      obtain ⟨B5, d5, rfl, _⟩ := hy5.val
      unfold evC
      dsimp only [zeroE]
      have hs5 := hb5.size
      have H5 := Lib.hid hb5
      clear hb5 hv5 hy5 q0 q1
      go_wp2_with fail
      refine (awake_any _).mono ?_
      rintro e w6 ⟨rfl, hb6⟩
      have H6 := Lib.hid hb6
      clear hb6
      go_wp2_with fail
      go_ret
      exact ⟨by simp, H1.out.1.trans ((HQ.out.2.2.2.2.2.trans (((((H5.out.alloc hs5 _).alloc (by simp only [World.size_alloc]; omega) _)).trans (H6.out.mono (by simp only [World.size_alloc]; omega))).mono HQ.out.2.2.2.2.2.size)).mono hs1)⟩
end Go.Proofs.Ytknedclejhiegaa
