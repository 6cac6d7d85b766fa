/- The walk of Add. Condition: at most 4000 events, a body of at most 100000 bytes. -/
import Derived.Test.YtknedclejhiegaaWn
namespace Go.Proofs.Ytknedclejhiegaa
open Go.RowKit
theorem OwnE.ins {W W' : World} {base : Nat} {v v' : Value} {l : List Ev} {q : Nat} {x : Ev} (h : OwnE W base v l) (hg : W.grownBy W' v.ownBlock) (ho : W'.ownsRow base 32 5 v' (l.length + 1) ((l.flatMap encEv).take (q * 5) ++ encEv x ++ (l.flatMap encEv).drop (q * 5))) (hv : v'.ownBlock = v.ownBlock ∨ v'.ownBlock = some W.heap.size)
    (hx : EvR W x) (hf : ∀ ad, 0 < x.p.length → x.A = some ad → v.ownBlock ≠ some ad.block) (hq : q ≤ l.length) : OwnE W' base v' (l.take q ++ x :: l.drop q) := by
  refine ⟨?_, fun e he => ?_⟩
  · have e1 : (l.take q ++ x :: l.drop q).length = l.length + 1 := by rw [List.length_append, List.length_cons, List.length_take, List.length_drop]; omega
    rw [e1, List.flatMap_append, List.flatMap_cons, ← List.append_assoc, ← flat_take5, ← flat_drop5]
    exact ho
  · rcases List.mem_append.1 he with he | he
    · exact ⟨evR_grown (h.ev e (List.mem_of_mem_take he)).1 (h.ev e (List.mem_of_mem_take he)).2 hg, far_grown (h.ev e (List.mem_of_mem_take he)).1 (h.ev e (List.mem_of_mem_take he)).2 hv⟩
    · rcases List.mem_cons.1 he with rfl | he
      · exact ⟨evR_grown hx hf hg, far_grown hx hf hv⟩
      · exact ⟨evR_grown (h.ev e (List.mem_of_mem_drop he)).1 (h.ev e (List.mem_of_mem_drop he)).2 hg, far_grown (h.ev e (List.mem_of_mem_drop he)).1 (h.ev e (List.mem_of_mem_drop he)).2 hv⟩
set_option linter.unusedSimpArgs false in
set_option maxRecDepth 100000 in
set_option maxHeartbeats 8000000 in
theorem Add_any (A B : Option Addr) (m c bc : Nat) (l : List Ev) (nx tm kd to_ : Int) (p : List Nat) (w : World) (hR : Evs w A m l) (hm : m ≤ 4000) (hmc : m ≤ c) (hp : ∀ e ∈ l, e.p.length ≤ 100000) (hRb : Reads w w.heap.size 1 B p.length (u8s p)) (hpb : p.length ≤ 100000) :
    Calls Try.prog 14 #[.agg #[.slice A m c, .int .i64 nx], .int .i64 tm, .int .i64 kd, .int .i64 to_, .slice B p.length bc] w (AddR w (addQ (l.map Ev.em) nx tm kd to_ p)) := by
  have hlen := hR.count
  have hb0 : Below w.heap.size w (((w.alloc (.cells #[.slice A m c, .int .i64 nx] 24)).alloc (.cells #[.int .i64 tm] 3)).alloc (.cells #[.slice none 0 0, .int .i64 0] 24)) := ((((Below.refl _ _).alloc (Nat.le_refl _) _).alloc (by simp) _).alloc (by simp only [World.size_alloc]; omega) _)
  have g0 : Blk (((w.alloc (.cells #[.slice A m c, .int .i64 nx] 24)).alloc (.cells #[.int .i64 tm] 3)).alloc (.cells #[.slice none 0 0, .int .i64 0] 24)) w.heap.size 24 #[.slice A m c, .int .i64 nx] := (((Blk.new w 24 #[.slice A m c, .int .i64 nx]).alloc _).alloc _)
  have g1 : Blk (((w.alloc (.cells #[.slice A m c, .int .i64 nx] 24)).alloc (.cells #[.int .i64 tm] 3)).alloc (.cells #[.slice none 0 0, .int .i64 0] 24)) (w.alloc (.cells #[.slice A m c, .int .i64 nx] 24)).heap.size 3 #[.int .i64 tm] := ((Blk.new (w.alloc (.cells #[.slice A m c, .int .i64 nx] 24)) 3 #[.int .i64 tm]).alloc _)
  have g2 : Blk (((w.alloc (.cells #[.slice A m c, .int .i64 nx] 24)).alloc (.cells #[.int .i64 tm] 3)).alloc (.cells #[.slice none 0 0, .int .i64 0] 24)) ((w.alloc (.cells #[.slice A m c, .int .i64 nx] 24)).alloc (.cells #[.int .i64 tm] 3)).heap.size 24 #[.slice none 0 0, .int .i64 0] := (Blk.new ((w.alloc (.cells #[.slice A m c, .int .i64 nx] 24)).alloc (.cells #[.int .i64 tm] 3)) 24 #[.slice none 0 0, .int .i64 0])
  simp only [World.size_alloc] at g0 g1 g2
  have hs0 : (((w.alloc (.cells #[.slice A m c, .int .i64 nx] 24)).alloc (.cells #[.int .i64 tm] 3)).alloc (.cells #[.slice none 0 0, .int .i64 0] 24)).heap.size = w.heap.size + 3 := by simp
  have HX := Lib.hid (And.intro (hR.up hb0) (And.intro hlen (And.intro hp (And.intro hb0 (hRb.up hb0)))))
  clear hR hlen hp hb0 hRb
  go_enter Try.func14, Try.ntmps14
  go_upto_region 1 with fail
  generalize (((w.alloc (.cells #[.slice A m c, .int .i64 nx] 24)).alloc (.cells #[.int .i64 tm] 3)).alloc (.cells #[.slice none 0 0, .int .i64 0] 24)) = W at *
  have q0 : W.cell? ⟨w.heap.size, 0, none⟩ = some (.slice A m c) := g0.cell 0
  have q1 : W.cell? ⟨w.heap.size, 1, none⟩ = some (.int .i64 nx) := g0.cell 1
  go_wp2_with fail
  refine (Check_any A m c l nx W HX.out.1 (by omega) hmc).mono ?_
  rintro e w1 ⟨rfl, hb1⟩
  have hbw : Below w.heap.size w w1 := HX.out.2.2.2.1.trans (hb1.mono HX.out.2.2.2.1.size)
  have G0 := g0.below hb1 (by omega)
  have G1 := g1.below hb1 (by omega)
  have G2 := g2.below hb1 (by omega)
  have hs1 := hb1.size
  have H1 := Lib.hid (And.intro (HX.out.1.up hb1) (And.intro hbw (And.intro G0 (And.intro G1 (And.intro G2 (HX.out.2.2.2.2.up hb1))))))
  clear hb1 hbw g0 g1 g2 q0 q1 G0 G1 G2
  have q1 : w1.cell? ⟨w.heap.size, 1, none⟩ = some (.int .i64 nx) := H1.out.2.2.1.cell 1
  have y0 : w1.cell? ⟨w.heap.size + 1, 0, none⟩ = some (.int .i64 tm) := H1.out.2.2.2.1.cell 0
  obtain ⟨r, hr⟩ : ∃ r, chkQ nx (l.map Ev.em) = r := ⟨_, rfl⟩
  rw [hr]
  have HRR := Lib.hid hr
  clear hr
  by_cases hr0 : r = 0
  · subst hr0
    have hok := okQ_of HRR.out
    have hn0 := hok.lo
    have hn1 := hok.hi
    clear hok
    have nw : IntKind.i64.wrap (nx + 1) = nx + 1 := by rw [IntWalk.i64_in _ (by omega)]
    go_wp2_with fail
    refine (copied_any tm nx kd to_ B bc p w1 H1.out.2.2.2.2.2 hpb).mono ?_
    rintro e w2 ⟨hb2, A2, c2, rfl, hr2, _, _, hf2⟩
    unfold evC
    dsimp only
    have hs2 := hb2.size
    have H2 := Lib.hid (And.intro hb2 (And.intro hr2 hf2))
    clear hb2 hr2 hf2 q1 y0
    go_upto_region 5 with fail
    have hbx : Below w2.heap.size w2 (w2.alloc (.cells #[.int .i64 tm, .int .i64 nx, .int .i64 kd, .int .i64 to_, .slice A2 p.length c2] 32)) := (Below.refl _ _).alloc (Nat.le_refl _) _
    have gx := Blk.new w2 32 #[.int .i64 tm, .int .i64 nx, .int .i64 kd, .int .i64 to_, .slice A2 p.length c2]
    have hsx : (w2.alloc (.cells #[.int .i64 tm, .int .i64 nx, .int .i64 kd, .int .i64 to_, .slice A2 p.length c2] 32)).heap.size = w2.heap.size + 1 := by simp
    have HBX := Lib.hid hbx
    generalize (w2.alloc (.cells #[.int .i64 tm, .int .i64 nx, .int .i64 kd, .int .i64 to_, .slice A2 p.length c2] 32)) = W2 at *
    have HGX := Lib.hid gx
    have x0 : W2.cell? ⟨w2.heap.size, 0, none⟩ = some (.int .i64 tm) := gx.cell 0
    have x1 : W2.cell? ⟨w2.heap.size, 1, none⟩ = some (.int .i64 nx) := gx.cell 1
    have x2 : W2.cell? ⟨w2.heap.size, 2, none⟩ = some (.int .i64 kd) := gx.cell 2
    have x3 : W2.cell? ⟨w2.heap.size, 3, none⟩ = some (.int .i64 to_) := gx.cell 3
    have x4 : W2.cell? ⟨w2.heap.size, 4, none⟩ = some (.slice A2 p.length c2) := gx.cell 4
    have hb12 : Below w1.heap.size w1 W2 := H2.out.1.trans (hbx.mono H2.out.1.size)
    have q1 : W2.cell? ⟨w.heap.size, 1, none⟩ = some (.int .i64 nx) := (H1.out.2.2.1.below hb12 (by omega)).cell 1
    have HB12 := Lib.hid hb12
    clear hbx gx hb12
    go_wp2_with fail
    refine (wrong_any tm nx kd to_ A2 c2 p (nx + 1) W2).mono ?_
    rintro e w3 ⟨rfl, hb3⟩
    have hs3 := hb3.size
    have hb13 : Below w1.heap.size w1 w3 := HB12.out.trans (hb3.mono HB12.out.size)
    have H3 := Lib.hid (And.intro hb13 (And.intro (HGX.out.below hb3 (by omega)) (And.intro (H1.out.2.2.1.below hb13 (by omega)) (And.intro (H1.out.2.2.2.1.below hb13 (by omega)) (And.intro (H1.out.2.2.2.2.1.below hb13 (by omega)) ((Reads.up H2.out.2.1 HBX.out).up hb3))))))
    clear hb13 hb3 q1 x0 x1 x2 x3 x4
    have q0 : w3.cell? ⟨w.heap.size, 0, none⟩ = some (.slice A m c) := H3.out.2.2.1.cell 0
    have q1 : w3.cell? ⟨w.heap.size, 1, none⟩ = some (.int .i64 nx) := H3.out.2.2.1.cell 1
    obtain ⟨r2, hr2⟩ : ∃ r2, wrongE ⟨tm, nx, kd, to_, p⟩ (nx + 1) = r2 := ⟨_, rfl⟩
    rw [hr2]
    have HR2 := Lib.hid hr2
    clear hr2
    by_cases hr20 : r2 = 0
    · subst hr20
      by_cases hfull : 1073741824 ≤ nx
      · go_wp2_with (refine wpList_store_row rfl _ _ _ rfl (w.heap.size + 2) _ rfl rfl 24 _ H3.out.2.2.2.2.1 (by kernel_rfl) rfl (by simp [Value.oneCell']) ?_)
        refine bodyPost_ret (results_cell_tmp2 (t := 24) rfl _ _ (w.heap.size + 2) _ _ rfl (H3.out.2.2.2.2.1.setRow _) Try.underlying24 rfl (by kernel_rfl)) rfl ?_
        have hq : addQ (l.map Ev.em) nx tm kd to_ p = ⟨[], 0, 0, 11⟩ := by
          unfold addQ
          rw [HRR.out, if_neg (by simp), HR2.out, if_neg (by simp), if_pos hfull]
        rw [hq]
        exact ⟨below_setRow (H1.out.2.1.trans (H3.out.1.mono H1.out.2.1.size)) (by omega) _, _, rfl, QVal.nil _ _⟩
      · have hc4 : ¬ (4096 : Int) ≤ m := by omega
        go_wp2_with fail
        refine (events_any A m c l w3 (H1.out.1.up H3.out.1) (by omega) HX.out.2.2.1).mono ?_
        rintro e w4 ⟨hb4, v4, es, rfl, hE, hem, hnp⟩
        obtain ⟨A4, c4, rfl⟩ := hE.form
        have hel : es.length = m := by
          have := congrArg List.length hem
          rw [List.length_map, List.length_map, HX.out.2.1] at this
          exact this
        rw [hel] at hE ⊢
        have hs4 := hb4.size
        have H4 := Lib.hid (And.intro hb4 (And.intro hE (And.intro hem (And.intro hnp (And.intro hel (H3.out.2.2.2.1.below hb4 (by omega)))))))
        clear hb4 hE hem hnp hel q0 q1
        go_wp2_with fail
        refine (idx37_any A4 m c4 es (w.heap.size + 1) tm w4 H4.out.2.1.evs.1 (by omega) (H4.out.2.2.2.2.2.cell 0) (by omega)).mono ?_
        rintro e w5 ⟨rfl, hb5⟩
        have hat := idxI_at (laterB tm) (es.map Ev.em)
        have hal := atE_le (laterB tm) (es.map Ev.em)
        rw [List.length_map, H4.out.2.2.2.2.1] at hat hal
        obtain ⟨k, hk⟩ : ∃ k, atE (laterB tm) (es.map Ev.em) = k := ⟨_, rfl⟩
        obtain ⟨z, hz⟩ : ∃ z, idxI (laterB tm) (es.map Ev.em) = z := ⟨_, rfl⟩
        rw [hk, hz] at hat
        rw [hk] at hal
        rw [hz]
        have hq : addQ (l.map Ev.em) nx tm kd to_ p = ⟨(es.map Ev.em).take k ++ ⟨tm, nx, kd, to_, p⟩ :: (es.map Ev.em).drop k, nx + 1, nx, 0⟩ := by
          unfold addQ insE
          rw [HRR.out, if_neg (by simp), HR2.out, if_neg (by simp), if_neg (by omega : ¬ 1073741824 ≤ nx), ← H4.out.2.2.1, hk]
        have hb35 := H4.out.1.trans (hb5.mono H4.out.1.size)
        have hs5 := hb5.size
        have q1 : w5.cell? ⟨w.heap.size, 1, none⟩ = some (.int .i64 nx) := (H3.out.2.2.1.below hb35 (by omega)).cell 1
        have gx5 := H3.out.2.1.below hb35 (by omega)
        have x0 : w5.cell? ⟨w2.heap.size, 0, none⟩ = some (.int .i64 tm) := gx5.cell 0
        have x1 : w5.cell? ⟨w2.heap.size, 1, none⟩ = some (.int .i64 nx) := gx5.cell 1
        have x2 : w5.cell? ⟨w2.heap.size, 2, none⟩ = some (.int .i64 kd) := gx5.cell 2
        have x3 : w5.cell? ⟨w2.heap.size, 3, none⟩ = some (.int .i64 to_) := gx5.cell 3
        have x4 : w5.cell? ⟨w2.heap.size, 4, none⟩ = some (.slice A2 p.length c2) := gx5.cell 4
        have hxl : ∀ ad, 0 < p.length → A2 = some ad → ad.block < w3.heap.size := by
          intro ad h0 hA
          obtain ⟨ad', hA', hlt, _⟩ := H3.out.2.2.2.2.2.2 h0
          rw [hA] at hA'
          injection hA' with hA'
          rw [hA']
          exact hlt
        have H5 := Lib.hid (And.intro hb35 (And.intro (H4.out.2.1.below hb5) (And.intro hq (And.intro (H3.out.2.2.2.2.1.below hb35 (by omega)) (And.intro H4.out.2.2.2.2.1 (And.intro (H3.out.2.2.2.2.2.up hb35) (And.intro H4.out.2.2.2.1 hxl)))))))
        clear hb35 hb5 hq hk hz gx5 hxl hfull
        have kk0 : (0 : Int) ≤ k := by omega
        go_upto_if 58 with (fail)
        go_cut [17] from 59 to 60 (fun s17 wx => s17 = .int .i64 (k : Nat) ∧ wx = w5)
        case first =>
          rcases hat with ⟨rfl, hz0⟩ | ⟨rfl, rfl⟩
          · go_wp2_with fail
            go_meet
            exact ⟨rfl, rfl⟩
          · go_wp2_with fail
            go_meet
            exact ⟨rfl, rfl⟩
        case rest =>
        obtain ⟨rfl, rfl⟩ := hcut
        go_upto_region 14 with fail
        refine wp_pan (Pc := fun _ _ _ => False) (fun _ _ _ h => h.elim) ?_
        refine wp_region_tail_lit (S := fun V => V.cell? ⟨w.heap.size, 1, none⟩ = some (.int .i64 nx) ∧ V.cell? ⟨w2.heap.size, 0, none⟩ = some (.int .i64 tm) ∧ V.cell? ⟨w2.heap.size, 1, none⟩ = some (.int .i64 nx) ∧ V.cell? ⟨w2.heap.size, 2, none⟩ = some (.int .i64 kd) ∧ V.cell? ⟨w2.heap.size, 3, none⟩ = some (.int .i64 to_) ∧ V.cell? ⟨w2.heap.size, 4, none⟩ = some (.slice A2 p.length c2)) 12 (by kernel_rfl) (by kernel_rfl) ⟨q1, x0, x1, x2, x3, x4⟩ (fun hHeld => ?_)
        simp only [List.take, List.drop]
        refine wpAnyH_take (i := 0) (oi := _) (v := ?_) rfl (by kernel_rfl) (by kernel_rfl) (by kernel_rfl) (fun _ _ _ h => h) (Or.inl ⟨by rfl, ?_⟩) (by assumption) ?_
        rotate_left 1
        · (intro w9 hS9; (try dsimp only at hS9); go_simp <;> with_reducible rfl)
        try simp only [List.getElem_toArray, List.getElem_cons_succ, List.getElem_cons_zero, Act.put, List.setIfInBounds_toArray, List.set_cons_zero, List.set_cons_succ]
        refine wpAnyH_take (i := 1) (oi := _) (v := ?_) rfl (by kernel_rfl) (by kernel_rfl) (by kernel_rfl) (fun _ _ _ h => h) (Or.inl ⟨by rfl, ?_⟩) (by assumption) ?_
        rotate_left 1
        · (intro w9 hS9; (try dsimp only at hS9); go_simp <;> with_reducible rfl)
        try simp only [List.getElem_toArray, List.getElem_cons_succ, List.getElem_cons_zero, Act.put, List.setIfInBounds_toArray, List.set_cons_zero, List.set_cons_succ]
        refine wpAnyH_take (i := 2) (oi := _) (v := ?_) rfl (by kernel_rfl) (by kernel_rfl) (by kernel_rfl) (fun _ _ _ h => h) (Or.inl ⟨by rfl, ?_⟩) (by assumption) ?_
        rotate_left 1
        · (intro w9 hS9; (try dsimp only at hS9); go_simp <;> with_reducible rfl)
        try simp only [List.getElem_toArray, List.getElem_cons_succ, List.getElem_cons_zero, Act.put, List.setIfInBounds_toArray, List.set_cons_zero, List.set_cons_succ]
        refine wpAnyH_take (i := 5) (oi := _) (v := ?_) rfl (by kernel_rfl) (by kernel_rfl) (by kernel_rfl) (fun _ _ _ h => h) (Or.inl ⟨by rfl, ?_⟩) (by assumption) ?_
        rotate_left 1
        · (intro w9 hS9; (try dsimp only at hS9); go_simp <;> with_reducible rfl)
        try simp only [List.getElem_toArray, List.getElem_cons_succ, List.getElem_cons_zero, Act.put, List.setIfInBounds_toArray, List.set_cons_zero, List.set_cons_succ]
        refine wpAnyH_take (i := 6) (oi := _) (v := ?_) rfl (by kernel_rfl) (by kernel_rfl) (by kernel_rfl) (fun _ _ _ h => h) (Or.inl ⟨by rfl, ?_⟩) (by assumption) ?_
        rotate_left 1
        · (intro w9 hS9; (try dsimp only at hS9); go_simp <;> with_reducible rfl)
        try simp only [List.getElem_toArray, List.getElem_cons_succ, List.getElem_cons_zero, Act.put, List.setIfInBounds_toArray, List.set_cons_zero, List.set_cons_succ]
        refine wpAnyH_take (i := 7) (oi := _) (v := ?_) rfl (by kernel_rfl) (by kernel_rfl) (by kernel_rfl) (fun _ _ _ h => h) (Or.inl ⟨by rfl, ?_⟩) (by assumption) ?_
        rotate_left 1
        · (intro w9 hS9; (try dsimp only at hS9); go_simp <;> with_reducible rfl)
        try simp only [List.getElem_toArray, List.getElem_cons_succ, List.getElem_cons_zero, Act.put, List.setIfInBounds_toArray, List.set_cons_zero, List.set_cons_succ]
        refine wpAnyH_take (i := 9) (oi := _) (v := ?_) rfl (by kernel_rfl) (by kernel_rfl) (by kernel_rfl) (fun _ _ _ h => h) (Or.inl ⟨by rfl, ?_⟩) (by assumption) ?_
        rotate_left 1
        · (intro w9 hS9; (try dsimp only at hS9); go_simp <;> with_reducible rfl)
        try simp only [List.getElem_toArray, List.getElem_cons_succ, List.getElem_cons_zero, Act.put, List.setIfInBounds_toArray, List.set_cons_zero, List.set_cons_succ]
        refine wpAnyH_take (i := 10) (oi := _) (v := ?_) rfl (by kernel_rfl) (by kernel_rfl) (by kernel_rfl) (fun _ _ _ h => h) (Or.inl ⟨by rfl, ?_⟩) (by assumption) ?_
        rotate_left 1
        · (intro w9 hS9; (try dsimp only at hS9); go_simp <;> with_reducible rfl)
        try simp only [List.getElem_toArray, List.getElem_cons_succ, List.getElem_cons_zero, Act.put, List.setIfInBounds_toArray, List.set_cons_zero, List.set_cons_succ]
        refine wpAnyH_ready (rs := [3]) (by kernel_rfl) (by simp) ?_
        refine AllReadyH.cons (o := _) rfl (fun K hK => ?_) AllReadyH.nil
        try simp only [List.getElem_toArray, List.getElem_cons_succ, List.getElem_cons_zero]
        go_simp
        have hbA : Below wc.heap.size wc ((wc.alloc (.cells #[.int .i64 tm, .int .i64 nx, .int .i64 kd, .int .i64 to_, .slice A2 p.length c2] 32)).drew) := ((Below.refl _ wc).alloc (Nat.le_refl _) _).drew
        refine hK.out _ _ ⟨(hbA.cell (p := ⟨w.heap.size, 1, none⟩) (by dsimp only; omega)).trans q1, (hbA.cell (p := ⟨w2.heap.size, 0, none⟩) (by dsimp only; omega)).trans x0, (hbA.cell (p := ⟨w2.heap.size, 1, none⟩) (by dsimp only; omega)).trans x1, (hbA.cell (p := ⟨w2.heap.size, 2, none⟩) (by dsimp only; omega)).trans x2, (hbA.cell (p := ⟨w2.heap.size, 3, none⟩) (by dsimp only; omega)).trans x3, (hbA.cell (p := ⟨w2.heap.size, 4, none⟩) (by dsimp only; omega)).trans x4⟩ (fun hHeld => ?_)
        clear hK K
        try simp only [List.getElem_toArray, List.getElem_cons_succ, List.getElem_cons_zero, Act.put, List.setIfInBounds_toArray, List.set_cons_zero, List.set_cons_succ]
        have hvB : Blk ((wc.alloc (.cells #[.int .i64 tm, .int .i64 nx, .int .i64 kd, .int .i64 to_, .slice A2 p.length c2] 32)).drew) wc.heap.size 32 #[.int .i64 tm, .int .i64 nx, .int .i64 kd, .int .i64 to_, .slice A2 p.length c2] := (Blk.new wc 32 #[.int .i64 tm, .int .i64 nx, .int .i64 kd, .int .i64 to_, .slice A2 p.length c2]).drew
        have hEA := H5.out.2.1.below hbA
        have hsA : ((wc.alloc (.cells #[.int .i64 tm, .int .i64 nx, .int .i64 kd, .int .i64 to_, .slice A2 p.length c2] 32)).drew).heap.size = wc.heap.size + 1 := by show (wc.alloc _).heap.size = _; rw [World.size_alloc]
        have hbwc : Below wc.heap.size wc ((wc.alloc (.cells #[.int .i64 tm, .int .i64 nx, .int .i64 kd, .int .i64 to_, .slice A2 p.length c2] 32)).drew) := hbA
        have hneq : (Value.slice A4 m c4).ownBlock ≠ some wc.heap.size := fun e => by have := own_lt H5.out.2.1.own _ e; omega
        generalize (wc.alloc (.cells #[.int .i64 tm, .int .i64 nx, .int .i64 kd, .int .i64 to_, .slice A2 p.length c2] 32)).drew = VA at *
        refine wpAnyH_ready (rs := [4]) (by kernel_rfl) (by simp) ?_
        refine AllReadyH.cons (o := _) rfl (fun K hK => ?_) AllReadyH.nil
        try simp only [List.getElem_toArray, List.getElem_cons_succ, List.getElem_cons_zero]
        go_simp
        refine (Insert_any w3.heap.size k (.slice A4 m c4) m (es.flatMap encEv) wc.heap.size #[.int .i64 tm, .int .i64 nx, .int .i64 kd, .int .i64 to_, .slice A2 p.length c2] VA (by have h := hEA.own; rw [H5.out.2.2.2.2.1] at h; exact h) hvB rfl (by simp [Value.oneCell']) (encEv_one _) hal (by omega) hneq (by have := H5.out.1.size; omega)).mono ?_
        rintro e w6 ⟨⟨v6, rfl, ho6, hv6⟩, hg6⟩
        have hlow := own_block_ge hEA.own
        have hE6 := OwnE.ins (x := ⟨tm, nx, kd, to_, A2, c2, p⟩) hEA hg6 (by rw [H5.out.2.2.2.2.1]; exact ho6) hv6 (Reads.up H5.out.2.2.2.2.2.1 hbA) (fun ad h0 hA e => by have h1 := hlow _ e; have h2 := H5.out.2.2.2.2.2.2.2 ad h0 hA; omega) (by rw [H5.out.2.2.2.2.1]; exact hal)
        obtain ⟨A6, c6, rfl, _, _, _⟩ := own_slice ho6
        have hb6 : Below w3.heap.size VA w6 := (Below.refl w3.heap.size VA).grown hg6 (by have := H5.out.1.size; omega) hlow
        have hs6 := hb6.size
        go_wp2_with fail
        refine hK.out _ _ ⟨(hb6.cell (p := ⟨w.heap.size, 1, none⟩) (by dsimp only; omega)).trans ((hbA.cell (p := ⟨w.heap.size, 1, none⟩) (by dsimp only; omega)).trans q1), (hb6.cell (p := ⟨w2.heap.size, 0, none⟩) (by dsimp only; omega)).trans ((hbA.cell (p := ⟨w2.heap.size, 0, none⟩) (by dsimp only; omega)).trans x0), (hb6.cell (p := ⟨w2.heap.size, 1, none⟩) (by dsimp only; omega)).trans ((hbA.cell (p := ⟨w2.heap.size, 1, none⟩) (by dsimp only; omega)).trans x1), (hb6.cell (p := ⟨w2.heap.size, 2, none⟩) (by dsimp only; omega)).trans ((hbA.cell (p := ⟨w2.heap.size, 2, none⟩) (by dsimp only; omega)).trans x2), (hb6.cell (p := ⟨w2.heap.size, 3, none⟩) (by dsimp only; omega)).trans ((hbA.cell (p := ⟨w2.heap.size, 3, none⟩) (by dsimp only; omega)).trans x3), (hb6.cell (p := ⟨w2.heap.size, 4, none⟩) (by dsimp only; omega)).trans ((hbA.cell (p := ⟨w2.heap.size, 4, none⟩) (by dsimp only; omega)).trans x4)⟩ (fun hHeld => ?_)
        clear hK K
        try simp only [List.getElem_toArray, List.getElem_cons_succ, List.getElem_cons_zero, Act.put, List.setIfInBounds_toArray, List.set_cons_zero, List.set_cons_succ]
        refine wpAnyH_take (i := 8) (oi := _) (v := ?_) rfl (by kernel_rfl) (by kernel_rfl) (by kernel_rfl) (fun _ _ _ h => h) (Or.inl ⟨by rfl, ?_⟩) (by assumption) ?_
        rotate_left 1
        · (intro w9 hS9; (try dsimp only at hS9); go_simp <;> with_reducible rfl)
        try simp only [List.getElem_toArray, List.getElem_cons_succ, List.getElem_cons_zero, Act.put, List.setIfInBounds_toArray, List.set_cons_zero, List.set_cons_succ]
        refine wpAnyH_ready (rs := [11]) (by kernel_rfl) (by simp) ?_
        refine AllReadyH.cons (o := _) rfl (fun K hK => ?_) AllReadyH.nil
        try simp only [List.getElem_toArray, List.getElem_cons_succ, List.getElem_cons_zero]
        rw [if_pos (show Region.wanted _ _ = true from rfl)]
        refine wp_store_row 24 _ _ (by rfl) (w.heap.size + 2) #[.slice A6 (m + 1) c6, .int .i64 (nx + 1)] (by rfl) (by rfl) 24 _ ((H5.out.2.2.2.1.below hbA (by omega)).below hb6 (by omega)) (by kernel_rfl) rfl (by simp [Value.oneCell']) ?_
        refine hK.out _ _ ⟨(World.cell?_of_block (setRow_other _ _ _ _ (by dsimp only; omega))).trans ((hb6.cell (p := ⟨w.heap.size, 1, none⟩) (by dsimp only; omega)).trans ((hbA.cell (p := ⟨w.heap.size, 1, none⟩) (by dsimp only; omega)).trans q1)), (World.cell?_of_block (setRow_other _ _ _ _ (by dsimp only; omega))).trans ((hb6.cell (p := ⟨w2.heap.size, 0, none⟩) (by dsimp only; omega)).trans ((hbA.cell (p := ⟨w2.heap.size, 0, none⟩) (by dsimp only; omega)).trans x0)), (World.cell?_of_block (setRow_other _ _ _ _ (by dsimp only; omega))).trans ((hb6.cell (p := ⟨w2.heap.size, 1, none⟩) (by dsimp only; omega)).trans ((hbA.cell (p := ⟨w2.heap.size, 1, none⟩) (by dsimp only; omega)).trans x1)), (World.cell?_of_block (setRow_other _ _ _ _ (by dsimp only; omega))).trans ((hb6.cell (p := ⟨w2.heap.size, 2, none⟩) (by dsimp only; omega)).trans ((hbA.cell (p := ⟨w2.heap.size, 2, none⟩) (by dsimp only; omega)).trans x2)), (World.cell?_of_block (setRow_other _ _ _ _ (by dsimp only; omega))).trans ((hb6.cell (p := ⟨w2.heap.size, 3, none⟩) (by dsimp only; omega)).trans ((hbA.cell (p := ⟨w2.heap.size, 3, none⟩) (by dsimp only; omega)).trans x3)), (World.cell?_of_block (setRow_other _ _ _ _ (by dsimp only; omega))).trans ((hb6.cell (p := ⟨w2.heap.size, 4, none⟩) (by dsimp only; omega)).trans ((hbA.cell (p := ⟨w2.heap.size, 4, none⟩) (by dsimp only; omega)).trans x4))⟩ (fun hHeld => ?_)
        clear hK K
        try simp only [List.getElem_toArray, List.getElem_cons_succ, List.getElem_cons_zero, Act.put, List.setIfInBounds_toArray, List.set_cons_zero, List.set_cons_succ]
        refine wpAnyH_done (by kernel_rfl) ?_ _
        refine tailQ_step rfl ?_
        go_wp2_with fail
        refine tailQ_step rfl ?_
        go_wp2_with fail
        refine tailQ_nil (panQ_normal ?_)
        go_wp2_with fail
        refine bodyPost_ret (results_cell_tmp2 (t := 24) rfl _ _ (w.heap.size + 2) _ _ rfl (((H5.out.2.2.2.1.below hbA (by omega)).below hb6 (by omega)).setRow _) Try.underlying24 rfl (by kernel_rfl)) rfl ?_
        rw [H5.out.2.2.1]
        obtain ⟨hev, hl6, hc6, _⟩ := hE6.evs
        have hnp6 : ∀ e ∈ es.take k ++ (⟨tm, nx, kd, to_, A2, c2, p⟩ : Ev) :: es.drop k, ∀ ad, 0 < e.p.length → e.A = some ad → w1.heap.size ≤ ad.block := by
          intro e he ad h0 hA
          rcases List.mem_append.1 he with he | he
          · have := H5.out.2.2.2.2.2.2.1 e (List.mem_of_mem_take he) ad h0 hA
            omega
          · rcases List.mem_cons.1 he with rfl | he
            · exact H2.out.2.2 ad h0 hA
            · have := H5.out.2.2.2.2.2.2.1 e (List.mem_of_mem_drop he) ad h0 hA
              omega
        have hA6 := own_addr ho6
        have h7 := hev.row (g := w.heap.size + 2) (fun ad h0 hA9 => by have := hA6 ad h0 hA9; omega) (fun e he ad h0 hA9 => by have := hnp6 e he ad h0 hA9; omega) #[.slice A6 (m + 1) c6, .int .i64 (nx + 1)]
        have hB := below_setRow (H1.out.2.1.trans ((H3.out.1.trans ((H5.out.1.trans ((hbA.mono (by have := H5.out.1.size; omega)).trans hb6)).mono H3.out.1.size)).mono H1.out.2.1.size)) (g := w.heap.size + 2) (by omega) #[.slice A6 (m + 1) c6, .int .i64 (nx + 1)]
        have hv := QVal.of (nx + 1) h7 hc6
        rw [List.map_append, List.map_cons, List.map_take, List.map_drop] at hv
        exact ⟨hB, _, rfl, hv⟩
    · have hr21 : ((r2 : Int) != 0) = true := by rw [bne_iff_ne]; omega
      have HR20 := Lib.hid hr20
      clear hr20 q0 q1
      go_wp2_with (refine wpList_store_row rfl _ _ _ rfl (w.heap.size + 2) _ rfl rfl 24 _ H3.out.2.2.2.2.1 (by kernel_rfl) rfl (by simp [Value.oneCell']) ?_)
      refine bodyPost_ret (results_cell_tmp2 (t := 24) rfl _ _ (w.heap.size + 2) _ _ rfl (H3.out.2.2.2.2.1.setRow _) Try.underlying24 rfl (by kernel_rfl)) rfl ?_
      have hq : addQ (l.map Ev.em) nx tm kd to_ p = ⟨[], 0, 0, r2⟩ := by
        unfold addQ
        rw [HRR.out, if_neg (by simp), HR2.out, if_pos HR20.out]
      rw [hq]
      exact ⟨below_setRow (H1.out.2.1.trans (H3.out.1.mono H1.out.2.1.size)) (by omega) _, _, rfl, QVal.nil _ _⟩
  · have hr1 : ((r : Int) != 0) = true := by rw [bne_iff_ne]; omega
    have HR0 := Lib.hid hr0
    clear hr0
    go_wp2_with (refine wpList_store_row rfl _ _ _ rfl (w.heap.size + 2) _ rfl rfl 24 _ H1.out.2.2.2.2.1 (by kernel_rfl) rfl (by simp [Value.oneCell']) ?_)
    refine bodyPost_ret (results_cell_tmp2 (t := 24) rfl _ _ (w.heap.size + 2) _ _ rfl (H1.out.2.2.2.2.1.setRow _) Try.underlying24 rfl (by kernel_rfl)) rfl ?_
    have hq : addQ (l.map Ev.em) nx tm kd to_ p = ⟨[], 0, 0, r⟩ := by
      unfold addQ
      rw [HRR.out, if_pos HR0.out]
    rw [hq]
    exact ⟨below_setRow H1.out.2.1 (by omega) _, _, rfl, QVal.nil _ _⟩
end Go.Proofs.Ytknedclejhiegaa
