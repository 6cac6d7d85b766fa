/- The walk of Due. Condition: at most 4096 events. -/
import Derived.Test.YtknedclejhiegaaWl
namespace Go.Proofs.Ytknedclejhiegaa
open Go.RowKit
theorem own_form {w : World} {base : Nat} {e : TypeId} {size : Nat} {A : Option Addr} {n c : Nat} {xs : List Value} (h : w.ownsRow base e size (.slice A n c) n xs) : (A = none ∧ c = 0 ∧ n = 0) ∨ ∃ g, A = some ⟨g, 0, none⟩ ∧ base ≤ g := by
  rcases h.2 with ⟨h1, h2⟩ | ⟨g, cap, cur, h1, h2, _⟩
  · injection h1 with h3 h4 h5
    exact .inl ⟨h3, h5, h4⟩
  · injection h1 with h3
    exact .inr ⟨g, h3, h2⟩
theorem idxI_at (f : Em → Bool) (l : List Em) : (idxI f l = (atE f l : Nat) ∧ 0 ≤ idxI f l) ∨ (idxI f l = -1 ∧ atE f l = l.length) := by
  unfold idxI atE
  cases idxB f l with
  | none => exact .inr ⟨rfl, rfl⟩
  | some k => exact .inl ⟨rfl, by dsimp only; omega⟩
set_option linter.unusedSimpArgs false in
set_option maxRecDepth 100000 in
set_option maxHeartbeats 4000000 in
theorem Due_any (A : Option Addr) (m c : Nat) (l : List Ev) (nx now : Int) (w : World) (hR : Evs w A m l) (hm : m ≤ 4096) (hmc : m ≤ c) (hp : ∀ e ∈ l, e.p.length ≤ 100000) :
    Calls Try.prog 20 #[.agg #[.slice A m c, .int .i64 nx], .int .i64 now] w (DueR w nx (dueQ (l.map Ev.em) nx now)) := by
  have hlen := hR.count
  have hb0 : Below w.heap.size w (((w.alloc (.cells #[.slice A m c, .int .i64 nx] 24)).alloc (.cells #[.int .i64 now] 3)).alloc (.cells #[.slice none 0 0, .int .i64 0] 24)) := ((((Below.refl _ _).alloc (Nat.le_refl _) _).alloc (by simp) _).alloc (by simp only [World.size_alloc]; omega) _)
  have g0 : Blk (((w.alloc (.cells #[.slice A m c, .int .i64 nx] 24)).alloc (.cells #[.int .i64 now] 3)).alloc (.cells #[.slice none 0 0, .int .i64 0] 24)) w.heap.size 24 #[.slice A m c, .int .i64 nx] := (((Blk.new w 24 #[.slice A m c, .int .i64 nx]).alloc _).alloc _)
  have g1 : Blk (((w.alloc (.cells #[.slice A m c, .int .i64 nx] 24)).alloc (.cells #[.int .i64 now] 3)).alloc (.cells #[.slice none 0 0, .int .i64 0] 24)) (w.alloc (.cells #[.slice A m c, .int .i64 nx] 24)).heap.size 3 #[.int .i64 now] := ((Blk.new (w.alloc (.cells #[.slice A m c, .int .i64 nx] 24)) 3 #[.int .i64 now]).alloc _)
  have g2 : Blk (((w.alloc (.cells #[.slice A m c, .int .i64 nx] 24)).alloc (.cells #[.int .i64 now] 3)).alloc (.cells #[.slice none 0 0, .int .i64 0] 24)) ((w.alloc (.cells #[.slice A m c, .int .i64 nx] 24)).alloc (.cells #[.int .i64 now] 3)).heap.size 24 #[.slice none 0 0, .int .i64 0] := (Blk.new ((w.alloc (.cells #[.slice A m c, .int .i64 nx] 24)).alloc (.cells #[.int .i64 now] 3)) 24 #[.slice none 0 0, .int .i64 0])
  simp only [World.size_alloc] at g0 g1 g2
  have hs0 : (((w.alloc (.cells #[.slice A m c, .int .i64 nx] 24)).alloc (.cells #[.int .i64 now] 3)).alloc (.cells #[.slice none 0 0, .int .i64 0] 24)).heap.size = w.heap.size + 3 := by simp
  have HX := Lib.hid (And.intro (hR.up hb0) (And.intro hlen (And.intro hp (And.intro hb0 hR))))
  clear hR hlen hp hb0
  go_enter Try.func20, Try.ntmps20
  go_upto_region 1 with fail
  generalize (((w.alloc (.cells #[.slice A m c, .int .i64 nx] 24)).alloc (.cells #[.int .i64 now] 3)).alloc (.cells #[.slice none 0 0, .int .i64 0] 24)) = W at *
  have q0 : W.cell? ⟨w.heap.size, 0, none⟩ = some (.slice A m c) := g0.cell 0
  have q1 : W.cell? ⟨w.heap.size, 1, none⟩ = some (.int .i64 nx) := g0.cell 1
  go_wp2_with fail
  refine (Check_any A m c l nx W HX.out.1 hm hmc).mono ?_
  rintro e w1 ⟨rfl, hb1⟩
  have hbw : Below w.heap.size w w1 := HX.out.2.2.2.1.trans (hb1.mono HX.out.2.2.2.1.size)
  have G0 := g0.below hb1 (by omega)
  have G1 := g1.below hb1 (by omega)
  have G2 := g2.below hb1 (by omega)
  have hs1 := hb1.size
  have H1 := Lib.hid (And.intro (HX.out.1.up hb1) (And.intro hbw (And.intro G0 (And.intro G1 G2))))
  clear hb1 hbw g0 g1 g2 q0 q1 G0 G1 G2
  have q0 : w1.cell? ⟨w.heap.size, 0, none⟩ = some (.slice A m c) := H1.out.2.2.1.cell 0
  have q1 : w1.cell? ⟨w.heap.size, 1, none⟩ = some (.int .i64 nx) := H1.out.2.2.1.cell 1
  obtain ⟨r, hr⟩ : ∃ r, chkQ nx (l.map Ev.em) = r := ⟨_, rfl⟩
  rw [hr]
  have HRR := Lib.hid hr
  clear hr
  by_cases hr0 : r = 0
  · subst hr0
    clear q1
    go_wp2_with fail
    refine (events_any A m c l w1 H1.out.1 (by omega) HX.out.2.2.1).mono ?_
    rintro e w2 ⟨hb2, v2, es, rfl, hE, hem, hnp⟩
    obtain ⟨A2, c2, rfl⟩ := hE.form
    have hel : es.length = m := by
      have := congrArg List.length hem
      rw [List.length_map, List.length_map, HX.out.2.1] at this
      exact this
    obtain ⟨hev, _, hec, _⟩ := hE.evs
    rw [hel] at hev hec ⊢
    have HFM := Lib.hid (own_form (by have := hE.own; rw [hel] at this; exact this))
    have hge := own_addr (by have := hE.own; rw [hel] at this; exact this)
    have H2 := Lib.hid (And.intro hb2 (And.intro hev (And.intro hnp (And.intro hem (And.intro hge hel)))))
    have HG2 := Lib.hid (And.intro (H1.out.2.2.1.below hb2 (by omega)) (And.intro (H1.out.2.2.2.1.below hb2 (by omega)) (H1.out.2.2.2.2.below hb2 (by omega))))
    have hs2 := hb2.size
    clear hb2 hev hnp hem hge hel hE q0
    go_wp2_with fail
    refine (idx42_any A2 m c2 es (w.heap.size + 1) now w2 H2.out.2.1 (by omega) (HG2.out.2.1.cell 0) (by omega)).mono ?_
    rintro e w3 ⟨rfl, hb3⟩
    have hat := idxI_at (laterB now) (es.map Ev.em)
    have hal := atE_le (laterB now) (es.map Ev.em)
    rw [List.length_map, H2.out.2.2.2.2.2] at hat hal
    obtain ⟨k, hk⟩ : ∃ k, atE (laterB now) (es.map Ev.em) = k := ⟨_, rfl⟩
    obtain ⟨z, hz⟩ : ∃ z, idxI (laterB now) (es.map Ev.em) = z := ⟨_, rfl⟩
    rw [hk, hz] at hat
    rw [hk] at hal
    rw [hz]
    have hq : dueQ (l.map Ev.em) nx now = ((es.drop k).map Ev.em, (es.take k).map Ev.em) := by
      unfold dueQ
      rw [HRR.out, if_neg (by simp), ← H2.out.2.2.2.1, hk, List.map_drop, List.map_take]
    have q1 : w3.cell? ⟨w.heap.size, 1, none⟩ = some (.int .i64 nx) := (HG2.out.1.below hb3 (by omega)).cell 1
    have hs3 := hb3.size
    have H3 := Lib.hid (And.intro (H2.out.1.trans (hb3.mono H2.out.1.size)) (And.intro (H2.out.2.1.up hb3) (And.intro hq (HG2.out.2.2.below hb3 (by omega)))))
    clear hb3 hk hz hq
    have kc : (k : Int) ≤ c2 := by omega
    have km : (k : Int) ≤ m := by omega
    have kk0 : (0 : Int) ≤ k := by omega
    go_upto_if 19 with (fail)
    go_cut [7] from 20 to 21 (fun s7 wx => s7 = .int .i64 (k : Nat) ∧ wx = w3)
    case first =>
      rcases hat with ⟨rfl, hz0⟩ | ⟨rfl, rfl⟩
      · go_wp2_with fail
        go_meet
        exact ⟨rfl, rfl⟩
      · go_wp2_with fail
        go_meet
        exact ⟨rfl, rfl⟩
    case rest =>
      obtain ⟨rfl, rfl⟩ := hcut
      by_cases hck : c2 = k
      · subst hck
        go_upto_region 7 with fail
        refine wp_pan (Pc := fun _ _ _ => False) (fun _ _ _ h => h.elim) ?_
        refine wp_region_tail_lit (S := fun V => V.cell? ⟨w.heap.size, 1, none⟩ = some (.int .i64 nx) ∧ True) 11 (by kernel_rfl) (by kernel_rfl) ⟨q1, trivial⟩ (fun hHeld => ?_)
        simp only [List.take, List.drop]
        refine wpAnyH_take (i := 0) (oi := _) (v := ?_) rfl (by kernel_rfl) (by kernel_rfl) (by kernel_rfl) (fun _ _ _ h => h) (Or.inl ⟨by rfl, ?_⟩) (by assumption) ?_
        rotate_left 1
        · (intro w9 hS9; (try dsimp only at hS9); go_simp <;> with_reducible rfl)
        try simp only [List.getElem_toArray, List.getElem_cons_succ, List.getElem_cons_zero, Act.put, List.setIfInBounds_toArray, List.set_cons_zero, List.set_cons_succ]
        refine wpAnyH_take (i := 1) (oi := _) (v := ?_) rfl (by kernel_rfl) (by kernel_rfl) (by kernel_rfl) (fun _ _ _ h => h) (Or.inl ⟨by rfl, ?_⟩) (by assumption) ?_
        rotate_left 1
        · (intro w9 hS9; (try dsimp only at hS9); go_simp <;> with_reducible rfl)
        try simp only [List.getElem_toArray, List.getElem_cons_succ, List.getElem_cons_zero, Act.put, List.setIfInBounds_toArray, List.set_cons_zero, List.set_cons_succ]
        refine wpAnyH_take (i := 2) (oi := _) (v := ?_) rfl (by kernel_rfl) (by kernel_rfl) (by kernel_rfl) (fun _ _ _ h => h) (Or.inl ⟨by rfl, ?_⟩) (by assumption) ?_
        rotate_left 1
        · (intro w9 hS9; (try dsimp only at hS9); go_simp <;> with_reducible rfl)
        try simp only [List.getElem_toArray, List.getElem_cons_succ, List.getElem_cons_zero, Act.put, List.setIfInBounds_toArray, List.set_cons_zero, List.set_cons_succ]
        refine wpAnyH_take (i := 3) (oi := _) (v := ?_) rfl (by kernel_rfl) (by kernel_rfl) (by kernel_rfl) (fun _ _ _ h => h) (Or.inl ⟨by rfl, ?_⟩) (by assumption) ?_
        rotate_left 1
        · (intro w9 hS9; (try dsimp only at hS9); go_simp <;> with_reducible rfl)
        try simp only [List.getElem_toArray, List.getElem_cons_succ, List.getElem_cons_zero, Act.put, List.setIfInBounds_toArray, List.set_cons_zero, List.set_cons_succ]
        refine wpAnyH_take (i := 4) (oi := _) (v := ?_) rfl (by kernel_rfl) (by kernel_rfl) (by kernel_rfl) (fun _ _ _ h => h) (Or.inl ⟨by rfl, ?_⟩) (by assumption) ?_
        rotate_left 1
        · (intro w9 hS9; (try dsimp only at hS9); go_simp <;> with_reducible rfl)
        try simp only [List.getElem_toArray, List.getElem_cons_succ, List.getElem_cons_zero, Act.put, List.setIfInBounds_toArray, List.set_cons_zero, List.set_cons_succ]
        refine wpAnyH_take (i := 5) (oi := _) (v := ?_) rfl (by kernel_rfl) (by kernel_rfl) (by kernel_rfl) (fun _ _ _ h => h) (Or.inl ⟨by rfl, ?_⟩) (by assumption) ?_
        rotate_left 1
        · (intro w9 hS9; (try dsimp only at hS9); go_simp <;> with_reducible rfl)
        try simp only [List.getElem_toArray, List.getElem_cons_succ, List.getElem_cons_zero, Act.put, List.setIfInBounds_toArray, List.set_cons_zero, List.set_cons_succ]
        refine wpAnyH_take (i := 6) (oi := _) (v := ?_) rfl (by kernel_rfl) (by kernel_rfl) (by kernel_rfl) (fun _ _ _ h => h) (Or.inl ⟨by rfl, ?_⟩) (by assumption) ?_
        rotate_left 1
        · (intro w9 hS9; (try dsimp only at hS9); go_simp <;> with_reducible rfl)
        try simp only [List.getElem_toArray, List.getElem_cons_succ, List.getElem_cons_zero, Act.put, List.setIfInBounds_toArray, List.set_cons_zero, List.set_cons_succ]
        refine wpAnyH_take (i := 7) (oi := _) (v := ?_) rfl (by kernel_rfl) (by kernel_rfl) (by kernel_rfl) (fun _ _ _ h => h) (Or.inl ⟨by rfl, ?_⟩) (by assumption) ?_
        rotate_left 1
        · (intro w9 hS9; (try dsimp only at hS9); go_simp <;> with_reducible rfl)
        try simp only [List.getElem_toArray, List.getElem_cons_succ, List.getElem_cons_zero, Act.put, List.setIfInBounds_toArray, List.set_cons_zero, List.set_cons_succ]
        refine wpAnyH_take (i := 8) (oi := _) (v := ?_) rfl (by kernel_rfl) (by kernel_rfl) (by kernel_rfl) (fun _ _ _ h => h) (Or.inl ⟨by rfl, ?_⟩) (by assumption) ?_
        rotate_left 1
        · (intro w9 hS9; (try dsimp only at hS9); go_simp <;> with_reducible rfl)
        try simp only [List.getElem_toArray, List.getElem_cons_succ, List.getElem_cons_zero, Act.put, List.setIfInBounds_toArray, List.set_cons_zero, List.set_cons_succ]
        refine wpAnyH_take (i := 9) (oi := _) (v := ?_) rfl (by kernel_rfl) (by kernel_rfl) (by kernel_rfl) (fun _ _ _ h => h) (Or.inl ⟨by rfl, ?_⟩) (by assumption) ?_
        rotate_left 1
        · (intro w9 hS9; (try dsimp only at hS9); go_simp <;> with_reducible rfl)
        try simp only [List.getElem_toArray, List.getElem_cons_succ, List.getElem_cons_zero, Act.put, List.setIfInBounds_toArray, List.set_cons_zero, List.set_cons_succ]
        refine wpAnyH_ready (rs := [10]) (by kernel_rfl) (by simp) ?_
        refine AllReadyH.cons (o := _) rfl (fun K hK => ?_) AllReadyH.nil
        try simp only [List.getElem_toArray, List.getElem_cons_succ, List.getElem_cons_zero]
        rw [if_pos (show Region.wanted _ _ = true from rfl)]
        refine wp_store_row 24 _ _ (by rfl) (w.heap.size + 2) #[.slice A2 0 0, .int .i64 nx] (by rfl) (by rfl) 24 _ H3.out.2.2.2.drew (by kernel_rfl) rfl (by simp [Value.oneCell']) ?_
        refine hK.out _ _ ⟨(World.cell?_of_block (setRow_other _ _ _ _ (by dsimp only; omega))).trans q1, trivial⟩ (fun hHeld => ?_)
        clear hK K
        try simp only [List.getElem_toArray, List.getElem_cons_succ, List.getElem_cons_zero, Act.put, List.setIfInBounds_toArray, List.set_cons_zero, List.set_cons_succ]
        refine wpAnyH_done (by kernel_rfl) ?_ _
        refine tailQ_step rfl ?_
        go_wp2_with fail
        refine tailQ_nil (panQ_normal ?_)
        go_wp2_with fail
        refine bodyPost_ret (results_cell_tmp (t := 24) rfl _ _ (w.heap.size + 2) _ _ rfl (H3.out.2.2.2.drew.setRow _) Try.underlying24 rfl (by kernel_rfl)) rfl ?_
        rw [H3.out.2.2.1]
        have hcut := (H3.out.2.1.cut (k := c2) hal hec).drew
        rw [if_pos rfl, show m - c2 = 0 by omega] at hcut
        have hge := H2.out.2.2.2.2.1
        have hnp := H2.out.2.2.1
        have h4 := hcut.row (g := w.heap.size + 2) (fun ad h0 hA9 => by have := hge ad (by omega) hA9; omega) (fun e he ad h0 hA9 => by have := hnp.drop c2 e he ad h0 hA9; omega) #[.slice A2 0 0, .int .i64 nx]
        have h5 := ((H3.out.2.1.take hal).drew).row (g := w.heap.size + 2) (fun ad h0 hA9 => by have := hge ad (by omega) hA9; omega) (fun e he ad h0 hA9 => by have := hnp.take c2 e he ad h0 hA9; omega) #[.slice A2 0 0, .int .i64 nx]
        have hB := below_setRow (H1.out.2.1.trans (H3.out.1.mono H1.out.2.1.size)).drew (g := w.heap.size + 2) (by omega) #[.slice A2 0 0, .int .i64 nx]
        have htl : (es.take c2).length = c2 := by rw [List.length_take, H2.out.2.2.2.2.2]; omega
        refine ⟨hB, .agg #[.slice A2 0 0, .int .i64 nx], A2, c2, es.take c2, by rw [htl]; rfl, QVal.of nx h4 (by omega), by rw [htl]; exact h5, rfl⟩
      · have hck' : ¬ c2 = k := hck
        have HCK := Lib.hid hck
        clear hck
        rcases HFM.out with ⟨_, h0, _⟩ | ⟨g, hA2, hbg⟩
        · exfalso
          have := HCK.out
          omega
        subst hA2
        have hck3 : (k : Int) < c2 := by have := HCK.out; omega
        go_upto_region 7 with fail
        refine wp_pan (Pc := fun _ _ _ => False) (fun _ _ _ h => h.elim) ?_
        refine wp_region_tail_lit (S := fun V => V.cell? ⟨w.heap.size, 1, none⟩ = some (.int .i64 nx) ∧ True) 11 (by kernel_rfl) (by kernel_rfl) ⟨q1, trivial⟩ (fun hHeld => ?_)
        simp only [List.take, List.drop]
        refine wpAnyH_take (i := 0) (oi := _) (v := ?_) rfl (by kernel_rfl) (by kernel_rfl) (by kernel_rfl) (fun _ _ _ h => h) (Or.inl ⟨by rfl, ?_⟩) (by assumption) ?_
        rotate_left 1
        · (intro w9 hS9; (try dsimp only at hS9); go_simp <;> with_reducible rfl)
        try simp only [List.getElem_toArray, List.getElem_cons_succ, List.getElem_cons_zero, Act.put, List.setIfInBounds_toArray, List.set_cons_zero, List.set_cons_succ]
        refine wpAnyH_take (i := 1) (oi := _) (v := ?_) rfl (by kernel_rfl) (by kernel_rfl) (by kernel_rfl) (fun _ _ _ h => h) (Or.inl ⟨by rfl, ?_⟩) (by assumption) ?_
        rotate_left 1
        · (intro w9 hS9; (try dsimp only at hS9); go_simp <;> with_reducible rfl)
        try simp only [List.getElem_toArray, List.getElem_cons_succ, List.getElem_cons_zero, Act.put, List.setIfInBounds_toArray, List.set_cons_zero, List.set_cons_succ]
        refine wpAnyH_take (i := 2) (oi := _) (v := ?_) rfl (by kernel_rfl) (by kernel_rfl) (by kernel_rfl) (fun _ _ _ h => h) (Or.inl ⟨by rfl, ?_⟩) (by assumption) ?_
        rotate_left 1
        · (intro w9 hS9; (try dsimp only at hS9); go_simp <;> with_reducible rfl)
        try simp only [List.getElem_toArray, List.getElem_cons_succ, List.getElem_cons_zero, Act.put, List.setIfInBounds_toArray, List.set_cons_zero, List.set_cons_succ]
        refine wpAnyH_take (i := 3) (oi := _) (v := ?_) rfl (by kernel_rfl) (by kernel_rfl) (by kernel_rfl) (fun _ _ _ h => h) (Or.inl ⟨by rfl, ?_⟩) (by assumption) ?_
        rotate_left 1
        · (intro w9 hS9; (try dsimp only at hS9); go_simp <;> with_reducible rfl)
        try simp only [List.getElem_toArray, List.getElem_cons_succ, List.getElem_cons_zero, Act.put, List.setIfInBounds_toArray, List.set_cons_zero, List.set_cons_succ]
        refine wpAnyH_take (i := 4) (oi := _) (v := ?_) rfl (by kernel_rfl) (by kernel_rfl) (by kernel_rfl) (fun _ _ _ h => h) (Or.inl ⟨by rfl, ?_⟩) (by assumption) ?_
        rotate_left 1
        · (intro w9 hS9; (try dsimp only at hS9); go_simp <;> with_reducible rfl)
        try simp only [List.getElem_toArray, List.getElem_cons_succ, List.getElem_cons_zero, Act.put, List.setIfInBounds_toArray, List.set_cons_zero, List.set_cons_succ]
        refine wpAnyH_take (i := 5) (oi := _) (v := ?_) rfl (by kernel_rfl) (by kernel_rfl) (by kernel_rfl) (fun _ _ _ h => h) (Or.inl ⟨by rfl, ?_⟩) (by assumption) ?_
        rotate_left 1
        · (intro w9 hS9; (try dsimp only at hS9); go_simp <;> with_reducible rfl)
        try simp only [List.getElem_toArray, List.getElem_cons_succ, List.getElem_cons_zero, Act.put, List.setIfInBounds_toArray, List.set_cons_zero, List.set_cons_succ]
        refine wpAnyH_take (i := 6) (oi := _) (v := ?_) rfl (by kernel_rfl) (by kernel_rfl) (by kernel_rfl) (fun _ _ _ h => h) (Or.inl ⟨by rfl, ?_⟩) (by assumption) ?_
        rotate_left 1
        · (intro w9 hS9; (try dsimp only at hS9); go_simp <;> with_reducible rfl)
        try simp only [List.getElem_toArray, List.getElem_cons_succ, List.getElem_cons_zero, Act.put, List.setIfInBounds_toArray, List.set_cons_zero, List.set_cons_succ]
        refine wpAnyH_take (i := 7) (oi := _) (v := ?_) rfl (by kernel_rfl) (by kernel_rfl) (by kernel_rfl) (fun _ _ _ h => h) (Or.inl ⟨by rfl, ?_⟩) (by assumption) ?_
        rotate_left 1
        · (intro w9 hS9; (try dsimp only at hS9); go_simp <;> with_reducible rfl)
        try simp only [List.getElem_toArray, List.getElem_cons_succ, List.getElem_cons_zero, Act.put, List.setIfInBounds_toArray, List.set_cons_zero, List.set_cons_succ]
        refine wpAnyH_take (i := 8) (oi := _) (v := ?_) rfl (by kernel_rfl) (by kernel_rfl) (by kernel_rfl) (fun _ _ _ h => h) (Or.inl ⟨by rfl, ?_⟩) (by assumption) ?_
        rotate_left 1
        · (intro w9 hS9; (try dsimp only at hS9); go_simp <;> with_reducible rfl)
        try simp only [List.getElem_toArray, List.getElem_cons_succ, List.getElem_cons_zero, Act.put, List.setIfInBounds_toArray, List.set_cons_zero, List.set_cons_succ]
        refine wpAnyH_take (i := 9) (oi := _) (v := ?_) rfl (by kernel_rfl) (by kernel_rfl) (by kernel_rfl) (fun _ _ _ h => h) (Or.inl ⟨by rfl, ?_⟩) (by assumption) ?_
        rotate_left 1
        · (intro w9 hS9; (try dsimp only at hS9); go_simp <;> with_reducible rfl)
        try simp only [List.getElem_toArray, List.getElem_cons_succ, List.getElem_cons_zero, Act.put, List.setIfInBounds_toArray, List.set_cons_zero, List.set_cons_succ]
        refine wpAnyH_ready (rs := [10]) (by kernel_rfl) (by simp) ?_
        refine AllReadyH.cons (o := _) rfl (fun K hK => ?_) AllReadyH.nil
        try simp only [List.getElem_toArray, List.getElem_cons_succ, List.getElem_cons_zero]
        rw [if_pos (show Region.wanted _ _ = true from rfl)]
        refine wp_store_row 24 _ _ (by rfl) (w.heap.size + 2) #[.slice (some ⟨g, k * 5, none⟩) (m - k) (c2 - k), .int .i64 nx] (by rfl) (by rfl) 24 _ H3.out.2.2.2.drew (by kernel_rfl) rfl (by simp [Value.oneCell']) ?_
        refine hK.out _ _ ⟨(World.cell?_of_block (setRow_other _ _ _ _ (by dsimp only; omega))).trans q1, trivial⟩ (fun hHeld => ?_)
        clear hK K
        try simp only [List.getElem_toArray, List.getElem_cons_succ, List.getElem_cons_zero, Act.put, List.setIfInBounds_toArray, List.set_cons_zero, List.set_cons_succ]
        refine wpAnyH_done (by kernel_rfl) ?_ _
        refine tailQ_step rfl ?_
        go_wp2_with fail
        refine tailQ_nil (panQ_normal ?_)
        go_wp2_with fail
        refine bodyPost_ret (results_cell_tmp (t := 24) rfl _ _ (w.heap.size + 2) _ _ rfl (H3.out.2.2.2.drew.setRow _) Try.underlying24 rfl (by kernel_rfl)) rfl ?_
        rw [H3.out.2.2.1]
        have hcut := (H3.out.2.1.cut (k := k) hal hec).drew
        rw [if_neg HCK.out, Option.map_some, Addr.add_lit, Nat.zero_add] at hcut
        have hge := H2.out.2.2.2.2.1
        have hnp := H2.out.2.2.1
        have h4 := hcut.row (g := w.heap.size + 2) (fun ad h0 hA9 => by injection hA9 with hA9; rw [← hA9]; dsimp only; omega) (fun e he ad h0 hA9 => by have := hnp.drop k e he ad h0 hA9; omega) #[.slice (some ⟨g, k * 5, none⟩) (m - k) (c2 - k), .int .i64 nx]
        have h5 := ((H3.out.2.1.take hal).drew).row (g := w.heap.size + 2) (fun ad h0 hA9 => by have := hge ad (by omega) hA9; omega) (fun e he ad h0 hA9 => by have := hnp.take k e he ad h0 hA9; omega) #[.slice (some ⟨g, k * 5, none⟩) (m - k) (c2 - k), .int .i64 nx]
        have hB := below_setRow (H1.out.2.1.trans (H3.out.1.mono H1.out.2.1.size)).drew (g := w.heap.size + 2) (by omega) #[.slice (some ⟨g, k * 5, none⟩) (m - k) (c2 - k), .int .i64 nx]
        have htl : (es.take k).length = k := by rw [List.length_take, H2.out.2.2.2.2.2]; omega
        refine ⟨hB, .agg #[.slice (some ⟨g, k * 5, none⟩) (m - k) (c2 - k), .int .i64 nx], some ⟨g, 0, none⟩, k, es.take k, by rw [htl]; rfl, QVal.of nx h4 (by omega), by rw [htl]; exact h5, rfl⟩
  · have hr1 : ((r : Int) != 0) = true := by rw [bne_iff_ne]; omega
    have HR0 := Lib.hid hr0
    clear hr0
    go_wp2_with (refine wpList_store_row rfl _ _ _ rfl (w.heap.size + 2) _ rfl rfl 24 _ H1.out.2.2.2.2 (by kernel_rfl) rfl (by simp [Value.oneCell']) ?_)
    refine bodyPost_ret (results_cell_tmp (t := 24) rfl _ _ (w.heap.size + 2) _ _ rfl (H1.out.2.2.2.2.setRow _) Try.underlying24 rfl (by kernel_rfl)) rfl ?_
    have hq : dueQ (l.map Ev.em) nx now = (l.map Ev.em, []) := by
      unfold dueQ
      rw [HRR.out, if_pos HR0.out]
    rw [hq]
    have hB := below_setRow H1.out.2.1 (g := w.heap.size + 2) (by omega) #[.slice A m c, .int .i64 nx]
    exact ⟨hB, _, none, 0, [], rfl, QVal.of nx (HX.out.2.2.2.2.up hB) hmc, ⟨Reads.none_, nofun⟩, rfl⟩
end Go.Proofs.Ytknedclejhiegaa
