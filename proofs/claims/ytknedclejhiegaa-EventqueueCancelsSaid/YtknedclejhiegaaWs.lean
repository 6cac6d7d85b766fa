/- The walk of the reference's Due. Condition: at most 4096 events. -/
import Derived.Test.YtknedclejhiegaaWr
namespace Go.Proofs.Ytknedclejhiegaa
open Go.RowKit
theorem OwnE.grow {W W' : World} {base : Nat} {v : Value} {l : List Ev} {row : Option Nat} (h : OwnE W base v l) (hg : W.grownBy W' row) (hr : ∀ g, row = some g → v.ownBlock ≠ some g) (hp : ∀ e ∈ l, ∀ ad, 0 < e.p.length → e.A = some ad → row ≠ some ad.block) : OwnE W' base v l := by
  refine ⟨own_keep h.own fun g hg2 => hg.block g (own_lt h.own g hg2) (fun e => hr g e.symm hg2), fun e he => ⟨?_, (h.ev e he).2⟩⟩
  refine ⟨(h.ev e he).1.1, fun h0 => ?_⟩
  obtain ⟨ad, hA, hb, hc⟩ := (h.ev e he).1.2 h0
  refine ⟨ad, hA, Nat.lt_of_lt_of_le hb hg.size, fun j u hu => ?_⟩
  refine (World.cell?_of_block (hg.block _ (by rw [block_of_add]; exact hb) ?_)).trans (hc j u hu)
  rw [block_of_add]
  exact fun e1 => hp e he ad h0 hA e1.symm
/-- no event's bytes lie in that row -/
def Apart (v : Value) (l : List Ev) : Prop := ∀ e ∈ l, ∀ ad, 0 < e.p.length → e.A = some ad → v.ownBlock ≠ some ad.block
theorem lt_pay {W : World} {base : Nat} {v : Value} {l : List Ev} (h : OwnE W base v l) : ∀ e ∈ l, ∀ ad, 0 < e.p.length → e.A = some ad → ad.block < W.heap.size := by
  intro e he ad h0 hA
  obtain ⟨ad', hA', hb, _⟩ := (h.ev e he).1.2 h0
  rw [hA] at hA'
  injection hA' with hA'
  rw [hA']
  exact hb
theorem sorted_later (now : Int) : ∀ l : List Em, (∀ (k : Nat) (e f : Em), l[k]? = some e → l[k + 1]? = some f → e.t ≤ f.t) → ∀ e, l.head? = some e → laterB now e = true → ∀ f ∈ l, laterB now f = true
  | [], _, _, h, _ => by cases h
  | [x], _, e, h, hl => by
    intro f hf
    rw [List.mem_singleton] at hf
    injection h with h
    rw [hf, h]
    exact hl
  | x :: y :: l, hs, e, h, hl => by
    injection h with h
    subst h
    intro f hf
    rcases List.mem_cons.1 hf with rfl | hf
    · exact hl
    · have h1 := hs 0 x y rfl rfl
      refine sorted_later now (y :: l) (fun k e f he hf => hs (k + 1) e f (by simpa using he) (by simpa using hf)) y rfl ?_ f hf
      unfold laterB at hl ⊢
      rw [decide_eq_true_eq] at hl ⊢
      omega
theorem filt_due (now : Int) : ∀ l : List Em, (∀ (k : Nat) (e f : Em), l[k]? = some e → l[k + 1]? = some f → e.t ≤ f.t) → l.filter (laterB now) = l.drop (atE (laterB now) l) ∧ l.filter (fun e => !laterB now e) = l.take (atE (laterB now) l)
  | [], _ => ⟨rfl, rfl⟩
  | x :: l, hs => by
    by_cases hx : laterB now x = true
    · have ha := sorted_later now (x :: l) hs x rfl hx
      have h0 : atE (laterB now) (x :: l) = 0 := by unfold atE; rw [idxB, if_pos hx]
      rw [h0]
      refine ⟨List.filter_eq_self.2 ha, List.filter_eq_nil_iff.2 (fun f hf => by rw [ha f hf]; simp)⟩
    · obtain ⟨h1, h2⟩ := filt_due now l (fun k e f he hf => hs (k + 1) e f (by simpa using he) (by simpa using hf))
      have h0 : atE (laterB now) (x :: l) = atE (laterB now) l + 1 := by
        unfold atE
        rw [idxB, if_neg hx]
        cases idxB (laterB now) l <;> rfl
      rw [Bool.not_eq_true] at hx
      rw [h0, List.filter_cons_of_neg (by rw [hx]; simp), List.filter_cons_of_pos (by rw [hx]; rfl), h1, h2]
      exact ⟨rfl, rfl⟩
theorem due_model {l : List Em} {nx now : Int} (h : chkQ nx l = 0) : dueQ l nx now = (l.filter (laterB now), l.filter (fun e => !laterB now e)) := by
  have hok := okQ_of h
  obtain ⟨h1, h2⟩ := filt_due now l (fun k e f he hf => by
    have h3 := hok.ord k e f he hf
    unfold befB at h3
    rw [decide_eq_true_eq] at h3
    omega)
  unfold dueQ
  rw [h, if_neg (by simp), h1, h2]
/-- what the loop of Due has made -/
structure DuI (w : World) (L : List Em) (A : Option Addr) (m c X i : Nat) (nx now : Int) (W : World) (v d : Value) (es ds : List Ev) : Prop where
  q : Blk W w.heap.size 24 #[.slice A m c, .int .i64 nx]
  z : Blk W (w.heap.size + 1) 24 #[.slice none 0 0, .int .i64 0]
  x : Blk W X 24 #[v, .int .i64 nx]
  own : OwnE W (X + 1) v es
  due : OwnE W (X + 1) d ds
  new : NewP (X + 1) es
  newd : NewP (X + 1) ds
  sep : ∀ g, v.ownBlock = some g → d.ownBlock ≠ some g
  ap : Apart d es
  apd : Apart v ds
  em : es.map Ev.em = (L.take i).filter (laterB now)
  emd : ds.map Ev.em = (L.take i).filter (fun e => !laterB now e)
  bel : Below w.heap.size w W
  size : X + 1 ≤ W.heap.size
set_option linter.unusedSimpArgs false in
set_option maxRecDepth 100000 in
set_option maxHeartbeats 8000000 in
theorem refDue_any (A : Option Addr) (m c : Nat) (l : List Ev) (nx now : Int) (w : World) (hR : Evs w A m l) (hm : m ≤ 4096) (hmc : m ≤ c) (hp : ∀ e ∈ l, e.p.length ≤ 100000) :
    Calls Try.prog 27 #[.agg #[.slice A m c, .int .i64 nx], .int .i64 now] w (DueR w nx (dueQ (l.map Ev.em) nx now)) := by
  have hlen := hR.count
  obtain ⟨i2, hi2, hy0, hy1, hy2⟩ := info_parts info32b
  have HI := Lib.hid (And.intro hi2 (And.intro hy0 (And.intro hy1 hy2)))
  clear hi2 hy0 hy1 hy2
  have hb0 : Below w.heap.size w ((w.alloc (.cells #[.slice A m c, .int .i64 nx] 24)).alloc (.cells #[.slice none 0 0, .int .i64 0] 24)) := (((Below.refl _ _).alloc (Nat.le_refl _) _).alloc (by simp) _)
  have g0 : Blk ((w.alloc (.cells #[.slice A m c, .int .i64 nx] 24)).alloc (.cells #[.slice none 0 0, .int .i64 0] 24)) w.heap.size 24 #[.slice A m c, .int .i64 nx] := ((Blk.new w 24 #[.slice A m c, .int .i64 nx]).alloc _)
  have g1 : Blk ((w.alloc (.cells #[.slice A m c, .int .i64 nx] 24)).alloc (.cells #[.slice none 0 0, .int .i64 0] 24)) (w.alloc (.cells #[.slice A m c, .int .i64 nx] 24)).heap.size 24 #[.slice none 0 0, .int .i64 0] := (Blk.new (w.alloc (.cells #[.slice A m c, .int .i64 nx] 24)) 24 #[.slice none 0 0, .int .i64 0])
  simp only [World.size_alloc] at g0 g1
  have hs0 : ((w.alloc (.cells #[.slice A m c, .int .i64 nx] 24)).alloc (.cells #[.slice none 0 0, .int .i64 0] 24)).heap.size = w.heap.size + 2 := by simp
  have HX := Lib.hid (And.intro hR (And.intro hlen (And.intro hp (And.intro (hR.up hb0) hb0))))
  clear hR hlen hp hb0
  go_enter Try.func27, Try.ntmps27
  go_upto_region 1 with fail
  generalize ((w.alloc (.cells #[.slice A m c, .int .i64 nx] 24)).alloc (.cells #[.slice none 0 0, .int .i64 0] 24)) = W at *
  have q0 : W.cell? ⟨w.heap.size, 0, none⟩ = some (.slice A m c) := g0.cell 0
  have q1 : W.cell? ⟨w.heap.size, 1, none⟩ = some (.int .i64 nx) := g0.cell 1
  go_wp2_with fail
  refine (refCheck_any A m c l nx W HX.out.2.2.2.1 hm).mono ?_
  rintro e w1 ⟨rfl, hb1⟩
  have hbw : Below w.heap.size w w1 := HX.out.2.2.2.2.trans (hb1.mono HX.out.2.2.2.2.size)
  have G0 := g0.below hb1 (by omega)
  have G1 := g1.below hb1 (by omega)
  have hs1 := hb1.size
  have H1 := Lib.hid (And.intro hbw (And.intro G0 G1))
  clear hb1 hbw g0 g1 q0 q1 G0 G1
  have q0 : w1.cell? ⟨w.heap.size, 0, none⟩ = some (.slice A m c) := H1.out.2.1.cell 0
  have q1 : w1.cell? ⟨w.heap.size, 1, none⟩ = some (.int .i64 nx) := H1.out.2.1.cell 1
  obtain ⟨r, hr⟩ : ∃ r, chkQ nx (l.map Ev.em) = r := ⟨_, rfl⟩
  rw [hr]
  have HRR := Lib.hid hr
  clear hr
  have hsw : w.heap.size + 2 ≤ w1.heap.size := by omega
  by_cases hr0 : r = 0
  · subst hr0
    have hbx : Below w.heap.size w (w1.alloc (.cells #[.slice none 0 0, .int .i64 nx] 24)) := H1.out.1.alloc (by omega) _
    have H0 : Hid (DuI w (l.map Ev.em) A m c w1.heap.size 0 nx now (w1.alloc (.cells #[.slice none 0 0, .int .i64 nx] 24)) (.slice none 0 0) (.slice none 0 0) [] []) :=
      ⟨H1.out.2.1.alloc _, H1.out.2.2.alloc _, Blk.new w1 24 _, OwnE.nil _ _, OwnE.nil _ _, nofun, nofun, (by intro g hg; simp [Value.ownBlock] at hg), nofun, nofun, by simp, by simp, hbx, by simp⟩
    clear hbx
    go_wp2_with fail
    generalize (w1.alloc (.cells #[.slice none 0 0, .int .i64 nx] 24)) = V0 at *
    go_loopw [7, 8] (fun u7 u8 V => ∃ (i : Nat) (v : Value) (es ds : List Ev), i ≤ m ∧ u8 = .int .i64 (i : Nat) ∧ DuI w (l.map Ev.em) A m c w1.heap.size i nx now V v u7 es ds) (fun _ u8 _ => m + 1 - (intOf u8).toNat)
    case atStart => exact ⟨0, _, [], [], by omega, rfl, H0.out⟩
    case round =>
      obtain ⟨i, v, es, ds, hi, rfl, hW⟩ := hrel
      have HW := Lib.hid hW
      have hsr := hW.size
      have q0 : wr.cell? ⟨w.heap.size, 0, none⟩ = some (.slice A m c) := hW.q.cell 0
      clear hW
      obtain ⟨A7, c7, rfl⟩ := HW.out.due.form
      obtain ⟨A3, c3, rfl⟩ := HW.out.own.form
      have hel : es.length ≤ 8192 := by
        have h := congrArg List.length HW.out.em
        rw [List.length_map] at h
        have h2 := List.length_filter_le (laterB now) ((l.map Ev.em).take i)
        rw [List.length_take] at h2
        omega
      have hdl : ds.length ≤ 8192 := by
        have h := congrArg List.length HW.out.emd
        rw [List.length_map] at h
        have h2 := List.length_filter_le (fun e => !laterB now e) ((l.map Ev.em).take i)
        rw [List.length_take] at h2
        omega
      by_cases hlt : i < m
      · have hil : i < l.length := by have := HX.out.2.1; omega
        have hlt' : (i : Int) < m := by omega
        obtain ⟨b, off, rfl, hbw, hc⟩ := HX.out.1.cells (by omega)
        obtain ⟨d0, d1, d2, d3, d4⟩ := hc i _ (List.getElem?_eq_getElem hil)
        replace d0 := (HW.out.bel.cell (p := ⟨b, off + i * 5, none⟩) hbw).trans d0
        replace d1 := (HW.out.bel.cell (p := ⟨b, off + i * 5 + 1, none⟩) hbw).trans d1
        replace d2 := (HW.out.bel.cell (p := ⟨b, off + i * 5 + 2, none⟩) hbw).trans d2
        replace d3 := (HW.out.bel.cell (p := ⟨b, off + i * 5 + 3, none⟩) hbw).trans d3
        replace d4 := (HW.out.bel.cell (p := ⟨b, off + i * 5 + 4, none⟩) hbw).trans d4
        have HS : Hid ((l.map Ev.em).take (i + 1) = (l.map Ev.em).take i ++ [l[i].em]) := by
          show _ = _
          rw [List.take_add_one, List.getElem?_map, List.getElem?_eq_getElem hil]
          rfl
        have hxr := (HX.out.1.ev _ (List.getElem_mem hil)).up HW.out.bel
        have hxp := HX.out.2.2.1 _ (List.getElem_mem hil)
        clear hc
        generalize hlk : l[i] = ev at *
        obtain ⟨xt, xn, xk, xo, xA, xc, xp⟩ := ev
        dsimp only at d0 d1 d2 d3 d4 hxp
        dsimp only [Ev.em] at HS
        have HXR : Hid (Reads wr wr.heap.size 1 xA xp.length (u8s xp)) := hxr
        clear hlk hxr
        by_cases hxl : now < xt
        · have hxl' : ¬ xt ≤ now := by omega
          have hlb : Hid (laterB now ⟨xt, xn, xk, xo, xp⟩ = true) := decide_eq_true hxl
          clear hxl
          have HO := Lib.hid (And.intro HW.out.own HW.out.new)
          have HBX := Lib.hid HW.out.x
          have o0 : wr.cell? ⟨w1.heap.size, 0, none⟩ = some (.slice A3 es.length c3) := HW.out.x.cell 0
          go_upto_region 10 with fail
          refine wp_pan (Pc := fun _ _ _ => False) (fun _ _ _ h => h.elim) ?_
          refine wp_region_tail_lit (S := fun V => V.cell? ⟨w1.heap.size, 0, none⟩ = some (.slice A3 es.length c3) ∧ V.cell? ⟨w.heap.size, 0, none⟩ = some (.slice (some ⟨b, off, none⟩) m c) ∧ V.cell? ⟨b, off + i * 5, none⟩ = some (.int .i64 xt) ∧ V.cell? ⟨b, off + i * 5 + 1, none⟩ = some (.int .i64 xn) ∧ V.cell? ⟨b, off + i * 5 + 2, none⟩ = some (.int .i64 xk) ∧ V.cell? ⟨b, off + i * 5 + 3, none⟩ = some (.int .i64 xo) ∧ V.cell? ⟨b, off + i * 5 + 4, none⟩ = some (.slice xA xp.length xc)) 10 (by kernel_rfl) (by kernel_rfl) ⟨o0, q0, d0, d1, d2, d3, d4⟩ (fun hHeld => ?_)
          simp only [List.take, List.drop]
          refine wpAnyH_take (i := 0) (oi := _) (v := ?_) rfl (by kernel_rfl) (by kernel_rfl) (by kernel_rfl) (fun _ _ _ h => h) (Or.inl ⟨by rfl, ?_⟩) (by assumption) ?_
          rotate_left 1
          · (intro w9 hS9; (try dsimp only at hS9); go_simp <;> with_reducible rfl)
          try simp only [List.getElem_toArray, List.getElem_cons_succ, List.getElem_cons_zero, Act.put, List.setIfInBounds_toArray, List.set_cons_zero, List.set_cons_succ]
          refine wpAnyH_take (i := 1) (oi := _) (v := ?_) rfl (by kernel_rfl) (by kernel_rfl) (by kernel_rfl) (fun _ _ _ h => h) (Or.inl ⟨by rfl, ?_⟩) (by assumption) ?_
          rotate_left 1
          · (intro w9 hS9; (try dsimp only at hS9); go_simp <;> with_reducible rfl)
          try simp only [List.getElem_toArray, List.getElem_cons_succ, List.getElem_cons_zero, Act.put, List.setIfInBounds_toArray, List.set_cons_zero, List.set_cons_succ]
          refine wpAnyH_take (i := 2) (oi := _) (v := ?_) rfl (by kernel_rfl) (by kernel_rfl) (by kernel_rfl) (fun _ _ _ h => h) (Or.inl ⟨by rfl, ?_⟩) (by assumption) ?_
          rotate_left 1
          · (intro w9 hS9; (try dsimp only at hS9); go_simp <;> with_reducible rfl)
          try simp only [List.getElem_toArray, List.getElem_cons_succ, List.getElem_cons_zero, Act.put, List.setIfInBounds_toArray, List.set_cons_zero, List.set_cons_succ]
          refine wpAnyH_take (i := 3) (oi := _) (v := ?_) rfl (by kernel_rfl) (by kernel_rfl) (by kernel_rfl) (fun _ _ _ h => h) (Or.inl ⟨by rfl, ?_⟩) (by assumption) ?_
          rotate_left 1
          · (intro w9 hS9; (try dsimp only at hS9); go_simp <;> with_reducible rfl)
          try simp only [List.getElem_toArray, List.getElem_cons_succ, List.getElem_cons_zero, Act.put, List.setIfInBounds_toArray, List.set_cons_zero, List.set_cons_succ]
          refine wpAnyH_take (i := 4) (oi := _) (v := ?_) rfl (by kernel_rfl) (by kernel_rfl) (by kernel_rfl) (fun _ _ _ h => h) (Or.inl ⟨by rfl, ?_⟩) (by assumption) ?_
          rotate_left 1
          · (intro w9 hS9; (try dsimp only at hS9); go_simp <;> with_reducible rfl)
          try simp only [List.getElem_toArray, List.getElem_cons_succ, List.getElem_cons_zero, Act.put, List.setIfInBounds_toArray, List.set_cons_zero, List.set_cons_succ]
          refine wpAnyH_take (i := 5) (oi := _) (v := ?_) rfl (by kernel_rfl) (by kernel_rfl) (by kernel_rfl) (fun _ _ _ h => h) (Or.inl ⟨by rfl, ?_⟩) (by assumption) ?_
          rotate_left 1
          · (intro w9 hS9; (try dsimp only at hS9); go_simp <;> with_reducible rfl)
          try simp only [List.getElem_toArray, List.getElem_cons_succ, List.getElem_cons_zero, Act.put, List.setIfInBounds_toArray, List.set_cons_zero, List.set_cons_succ]
          refine wpAnyH_take (i := 6) (oi := _) (v := ?_) rfl (by kernel_rfl) (by kernel_rfl) (by kernel_rfl) (fun _ _ _ h => h) (Or.inl ⟨by rfl, ?_⟩) (by assumption) ?_
          rotate_left 1
          · (intro w9 hS9; (try dsimp only at hS9); go_simp <;> with_reducible rfl)
          try simp only [List.getElem_toArray, List.getElem_cons_succ, List.getElem_cons_zero, Act.put, List.setIfInBounds_toArray, List.set_cons_zero, List.set_cons_succ]
          refine wpAnyH_ready (rs := [7]) (by kernel_rfl) (by simp) ?_
          refine AllReadyH.cons (o := _) rfl (fun K hK => ?_) AllReadyH.nil
          try simp only [List.getElem_toArray, List.getElem_cons_succ, List.getElem_cons_zero]
          go_simp
          refine (Copy_any xt xn xk xo xA xc xp _ (Reads.drew HXR.out) hxp).mono ?_
          rintro e wq ⟨hb1, A2, c2, rfl, hr2, _, _, hf2⟩
          unfold evC
          dsimp only
          have hbr1 : Below (w1.heap.size + 1) wr wq := ((Below.refl (w1.heap.size + 1) wr).drew).trans (hb1.mono (by have := hsr; exact this))
          have hs1 : wr.heap.size ≤ wq.heap.size := hb1.size
          have hbr1' : Below wr.heap.size wr wq := (Below.refl _ wr).drew.trans hb1
          go_wp2_with fail
          refine hK.out _ _ ⟨(hbr1.cell (p := ⟨w1.heap.size, 0, none⟩) (by dsimp only; omega)).trans o0, (hbr1.cell (p := ⟨w.heap.size, 0, none⟩) (by dsimp only; omega)).trans q0, (hbr1.cell (p := ⟨b, off + i * 5, none⟩) (by dsimp only; omega)).trans d0, (hbr1.cell (p := ⟨b, off + i * 5 + 1, none⟩) (by dsimp only; omega)).trans d1, (hbr1.cell (p := ⟨b, off + i * 5 + 2, none⟩) (by dsimp only; omega)).trans d2, (hbr1.cell (p := ⟨b, off + i * 5 + 3, none⟩) (by dsimp only; omega)).trans d3, (hbr1.cell (p := ⟨b, off + i * 5 + 4, none⟩) (by dsimp only; omega)).trans d4⟩ (fun hHeld => ?_)
          clear hK K
          try simp only [List.getElem_toArray, List.getElem_cons_succ, List.getElem_cons_zero, Act.put, List.setIfInBounds_toArray, List.set_cons_zero, List.set_cons_succ]
          refine wpAnyH_ready (rs := [8]) (by kernel_rfl) (by simp) ?_
          refine AllReadyH.cons (o := _) rfl (fun K hK => ?_) AllReadyH.nil
          try simp only [List.getElem_toArray, List.getElem_cons_succ, List.getElem_cons_zero]
          go_simp
          have hbr2 : Below (w1.heap.size + 1) wr (wq.alloc (.cells #[.int .i64 xt, .int .i64 xn, .int .i64 xk, .int .i64 xo, .slice A2 xp.length c2] 32)) := hbr1.alloc (by omega) _
          have hE2 := (HO.out.1.below hbr1').below ((Below.refl _ wq).alloc (Nat.le_refl _) (.cells #[.int .i64 xt, .int .i64 xn, .int .i64 xk, .int .i64 xo, .slice A2 xp.length c2] 32))
          have her := elem_reads wq #[.int .i64 xt, .int .i64 xn, .int .i64 xk, .int .i64 xo, .slice A2 xp.length c2] 32
          have hx2 : EvR (wq.alloc (.cells #[.int .i64 xt, .int .i64 xn, .int .i64 xk, .int .i64 xo, .slice A2 xp.length c2] 32)) ⟨xt, xn, xk, xo, A2, c2, xp⟩ := Reads.up hr2 ((Below.refl _ wq).alloc (Nat.le_refl _) _)
          have hs2 : (wq.alloc (.cells #[.int .i64 xt, .int .i64 xn, .int .i64 xk, .int .i64 xo, .slice A2 xp.length c2] 32)).heap.size = wq.heap.size + 1 := by simp
          have hbr2' : Below wr.heap.size wr (wq.alloc (.cells #[.int .i64 xt, .int .i64 xn, .int .i64 xk, .int .i64 xo, .slice A2 xp.length c2] 32)) := hbr1'.alloc hbr1'.size _
          refine hK.out _ _ ⟨(hbr2.cell (p := ⟨w1.heap.size, 0, none⟩) (by dsimp only; omega)).trans o0, (hbr2.cell (p := ⟨w.heap.size, 0, none⟩) (by dsimp only; omega)).trans q0, (hbr2.cell (p := ⟨b, off + i * 5, none⟩) (by dsimp only; omega)).trans d0, (hbr2.cell (p := ⟨b, off + i * 5 + 1, none⟩) (by dsimp only; omega)).trans d1, (hbr2.cell (p := ⟨b, off + i * 5 + 2, none⟩) (by dsimp only; omega)).trans d2, (hbr2.cell (p := ⟨b, off + i * 5 + 3, none⟩) (by dsimp only; omega)).trans d3, (hbr2.cell (p := ⟨b, off + i * 5 + 4, none⟩) (by dsimp only; omega)).trans d4⟩ (fun hHeld => ?_)
          clear hK K
          try simp only [List.getElem_toArray, List.getElem_cons_succ, List.getElem_cons_zero, Act.put, List.setIfInBounds_toArray, List.set_cons_zero, List.set_cons_succ]
          generalize (wq.alloc (.cells #[.int .i64 xt, .int .i64 xn, .int .i64 xk, .int .i64 xo, .slice A2 xp.length c2] 32)) = w2 at *
          refine wpAnyH_ready (rs := [9]) (by kernel_rfl) (by simp) ?_
          refine AllReadyH.cons (o := _) rfl (fun K hK => ?_) AllReadyH.nil
          try simp only [List.getElem_toArray, List.getElem_cons_succ, List.getElem_cons_zero]
          rw [if_pos (show Region.wanted _ _ = true from rfl)]
          refine wp_append_any w2 (.tmp 41) (.tmp 48) _ (by rfl) (w1.heap.size + 1) 32 i2 _ 5 56 Try.underlying22 HI.out.1 HI.out.2.1 HI.out.2.2.1 HI.out.2.2.2 rfl (by omega) _ es.length (es.flatMap encEv) (by rfl) hE2.own (wq.heap.size + 1) (some ⟨wq.heap.size, 0, none⟩) 1 1 (encEv ⟨xt, xn, xk, xo, A2, c2, xp⟩) (by rfl) her (by simp [encEv, Value.oneCell']) (by simp only [maxLen]; omega) (by omega) (by omega) ?_
          intro v3 w3 ho3 hg3 hv3
          obtain ⟨A3', c3', rfl, _, _, _⟩ := own_slice ho3
          have hbr3 : Below (w1.heap.size + 1) wr w3 := hbr2.grown hg3 (by omega) (own_block_ge hE2.own)
          have hE3 := OwnE.push (x := ⟨xt, xn, xk, xo, A2, c2, xp⟩) hE2 ho3 hg3 hv3 hx2 (fun ad h0 hA e => by have h1 := own_lt HO.out.1.own _ e; have h2 := hf2 ad h0 hA; have h3 : wr.drew.heap.size = wr.heap.size := rfl; omega)
          have hN3 : NewP (w1.heap.size + 1) (es ++ [⟨xt, xn, xk, xo, A2, c2, xp⟩]) := by
            intro e he ad h0 hA
            rcases List.mem_append.1 he with he | he
            · exact HO.out.2 e he ad h0 hA
            · rw [List.mem_singleton] at he
              subst he
              have h2 := hf2 ad h0 hA
              have h3 : wr.drew.heap.size = wr.heap.size := rfl
              omega
          refine hK.out _ _ ⟨(hbr3.cell (p := ⟨w1.heap.size, 0, none⟩) (by dsimp only; omega)).trans o0, (hbr3.cell (p := ⟨w.heap.size, 0, none⟩) (by dsimp only; omega)).trans q0, (hbr3.cell (p := ⟨b, off + i * 5, none⟩) (by dsimp only; omega)).trans d0, (hbr3.cell (p := ⟨b, off + i * 5 + 1, none⟩) (by dsimp only; omega)).trans d1, (hbr3.cell (p := ⟨b, off + i * 5 + 2, none⟩) (by dsimp only; omega)).trans d2, (hbr3.cell (p := ⟨b, off + i * 5 + 3, none⟩) (by dsimp only; omega)).trans d3, (hbr3.cell (p := ⟨b, off + i * 5 + 4, none⟩) (by dsimp only; omega)).trans d4⟩ (fun hHeld => ?_)
          clear hK K
          try simp only [List.getElem_toArray, List.getElem_cons_succ, List.getElem_cons_zero, Act.put, List.setIfInBounds_toArray, List.set_cons_zero, List.set_cons_succ]
          refine wpAnyH_done (by kernel_rfl) ?_ _
          have o3 : w3.cell? ⟨w1.heap.size, 0, none⟩ = some (.slice A3 es.length c3) := (hbr3.cell (p := ⟨w1.heap.size, 0, none⟩) (by dsimp only; omega)).trans o0
          have z3 : w3.frozen? ⟨w1.heap.size, 0, none⟩ = false := (HBX.out.below hbr3 (by omega)).frozen 0
          refine tailQ_step rfl ?_
          go_wp2_with fail
          refine tailQ_step rfl ?_
          go_wp2_with fail
          refine tailQ_nil (panQ_normal ?_)
          go_wp2_with fail
          go_roundw
          case rel =>
            have h1 := HW.out
            have hDr := h1.due.below hbr2'
            have hsq := hbr2'.size
            have hlpd := lt_pay hDr
            have hlow := own_block_ge h1.own.own
            have hD3 := hDr.grow hg3 (fun g hg e => h1.sep g hg e) (fun e he ad h0 hA e9 => h1.apd e he ad h0 hA e9)
            refine ⟨i + 1, _, es ++ [⟨xt, xn, xk, xo, A2, c2, xp⟩], ds, by omega, by go_num, (h1.q.below hbr3 (by omega)).far (by dsimp only; omega) _, (h1.z.below hbr3 (by omega)).far (by dsimp only; omega) _, (HBX.out.below hbr3 (by omega)).set_ 0 _, hE3.far hN3 (by dsimp only; omega) _, hD3.far h1.newd (by dsimp only; omega) _, hN3, h1.newd, ?_, ?_, ?_, ?_, ?_, (h1.bel.trans (hbr3.mono (by omega))).setCell (by dsimp only; omega) _, by have := hbr3.size; simp; omega⟩
            · intro g hg hd
              rcases hv3 with e3 | e3
              · exact h1.sep g (by rw [← e3]; exact hg) hd
              · rw [hg] at e3
                injection e3 with e3
                have := own_lt h1.due.own g hd
                omega
            · intro e he ad h0 hA e9
              rcases List.mem_append.1 he with he | he
              · exact h1.ap e he ad h0 hA e9
              · rw [List.mem_singleton] at he
                subst he
                have h2 := hf2 ad h0 hA
                have h3 := own_lt h1.due.own _ e9
                have h4 : wr.drew.heap.size = wr.heap.size := rfl
                omega
            · intro e he ad h0 hA e9
              rcases hv3 with e3 | e3
              · exact h1.apd e he ad h0 hA (by rw [← e3]; exact e9)
              · rw [e9] at e3
                injection e3 with e3
                have := hlpd e he ad h0 hA
                omega
            · rw [List.map_append, h1.em, HS.out, List.filter_append, List.filter_cons_of_pos hlb.out]
              rfl
            · rw [h1.emd, HS.out, List.filter_append, List.filter_cons_of_neg (by rw [hlb.out]; simp)]
              simp
          case measure => simp [intOf]; omega
        · have hxl' : xt ≤ now := by omega
          have hlb : Hid (laterB now ⟨xt, xn, xk, xo, xp⟩ = false) := decide_eq_false hxl
          clear hxl
          go_wp2_with fail
          refine (Copy_any xt xn xk xo xA xc xp _ HXR.out hxp).mono ?_
          rintro e wq ⟨hbq, A2, c2, rfl, hr2, _, _, hf2⟩
          unfold evC
          dsimp only
          have hsq := hbq.size
          have hbr2' : Below wr.heap.size wr (wq.alloc (.cells #[.int .i64 xt, .int .i64 xn, .int .i64 xk, .int .i64 xo, .slice A2 xp.length c2] 32)) := hbq.alloc hbq.size _
          have hE2 := (HW.out.due.below hbq).below ((Below.refl _ wq).alloc (Nat.le_refl _) (.cells #[.int .i64 xt, .int .i64 xn, .int .i64 xk, .int .i64 xo, .slice A2 xp.length c2] 32))
          have hx2 : EvR (wq.alloc (.cells #[.int .i64 xt, .int .i64 xn, .int .i64 xk, .int .i64 xo, .slice A2 xp.length c2] 32)) ⟨xt, xn, xk, xo, A2, c2, xp⟩ := Reads.up hr2 ((Below.refl _ wq).alloc (Nat.le_refl _) _)
          have hs2 : (wq.alloc (.cells #[.int .i64 xt, .int .i64 xn, .int .i64 xk, .int .i64 xo, .slice A2 xp.length c2] 32)).heap.size = wq.heap.size + 1 := by simp
          have HQ := Lib.hid (And.intro hbr2' (And.intro hE2 (And.intro hx2 (And.intro hf2 (elem_reads wq #[.int .i64 xt, .int .i64 xn, .int .i64 xk, .int .i64 xo, .slice A2 xp.length c2] 32)))))
          clear hbq hr2 hbr2' hE2 hx2 hf2 d0 d1 d2 d3 d4 q0
          go_wp2_with (at_builtin; go_must (refine wpList_append_any (wq.alloc (.cells #[.int .i64 xt, .int .i64 xn, .int .i64 xk, .int .i64 xo, .slice A2 xp.length c2] 32)) rfl (.tmp 31) (.tmp 38) _ rfl (w1.heap.size + 1) 32 i2 _ 5 56 Try.underlying22 HI.out.1 HI.out.2.1 HI.out.2.2.1 HI.out.2.2.2 rfl (by omega) (.slice A7 ds.length c7) ds.length (ds.flatMap encEv) rfl HQ.out.2.1.own (wq.heap.size + 1) (some ⟨wq.heap.size, 0, none⟩) 1 1 (encEv ⟨xt, xn, xk, xo, A2, c2, xp⟩) rfl HQ.out.2.2.2.2 (by simp [encEv, Value.oneCell']) (by simp only [maxLen]; omega) (by omega) (by omega) ?_; intro v3 w3 ho3 hg3 hv3))
          go_roundw
          case rel =>
            have h1 := HW.out
            obtain ⟨hbr2', hE2, hx2, hf2, _⟩ := HQ.out
            have hOr := h1.own.below hbr2'
            have hsr2 := hbr2'.size
            have hlpo := lt_pay hOr
            have hE3 := OwnE.push (x := ⟨xt, xn, xk, xo, A2, c2, xp⟩) hE2 ho3 hg3 hv3 hx2 (fun ad h0 hA e => by have h3 := own_lt h1.due.own _ e; have h2 := hf2 ad h0 hA; omega)
            have hO3 := hOr.grow hg3 (fun g hg e => h1.sep g e hg) (fun e he ad h0 hA e9 => h1.ap e he ad h0 hA e9)
            have hb3 : Below (w1.heap.size + 1) wr w3 := (hbr2'.mono hsr).grown hg3 (by omega) (own_block_ge h1.due.own)
            refine ⟨i + 1, _, es, ds ++ [⟨xt, xn, xk, xo, A2, c2, xp⟩], by omega, by go_num, h1.q.below hb3 (by omega), h1.z.below hb3 (by omega), h1.x.below hb3 (by omega), hO3, hE3, h1.new, ?_, ?_, ?_, ?_, ?_, ?_, h1.bel.trans (hb3.mono (by omega)), by have := hb3.size; omega⟩
            · intro e he ad h0 hA
              rcases List.mem_append.1 he with he | he
              · exact h1.newd e he ad h0 hA
              · rw [List.mem_singleton] at he
                subst he
                have h2 := hf2 ad h0 hA
                omega
            · intro g hg hd
              rcases hv3 with e3 | e3
              · exact h1.sep g hg (by rw [← e3]; exact hd)
              · rw [hd] at e3
                injection e3 with e3
                have := own_lt h1.own.own g hg
                omega
            · intro e he ad h0 hA e9
              rcases hv3 with e3 | e3
              · exact h1.ap e he ad h0 hA (by rw [← e3]; exact e9)
              · rw [e9] at e3
                injection e3 with e3
                have := hlpo e he ad h0 hA
                omega
            · intro e he ad h0 hA e9
              rcases List.mem_append.1 he with he | he
              · exact h1.apd e he ad h0 hA e9
              · rw [List.mem_singleton] at he
                subst he
                have h2 := hf2 ad h0 hA
                have h3 := own_lt h1.own.own _ e9
                omega
            · rw [h1.em, HS.out, List.filter_append, List.filter_cons_of_neg (by rw [hlb.out]; simp)]
              simp
            · rw [List.map_append, h1.emd, HS.out, List.filter_append, List.filter_cons_of_pos (by rw [hlb.out]; rfl)]
              rfl
          case measure => simp [intOf]; omega
      · have hlt' : ¬ (i : Int) < m := by omega
        have o0 : wr.cell? ⟨w1.heap.size, 0, none⟩ = some (.slice A3 es.length c3) := HW.out.x.cell 0
        have o1 : wr.cell? ⟨w1.heap.size, 1, none⟩ = some (.int .i64 nx) := HW.out.x.cell 1
        go_wp2_with (refine wpList_store_row rfl _ _ _ rfl (w.heap.size + 1) _ rfl rfl 24 _ HW.out.z (by kernel_rfl) rfl (by simp [Value.oneCell']) ?_)
        refine bodyPost_ret (results_cell_tmp (t := 24) rfl _ _ (w.heap.size + 1) _ _ rfl (HW.out.z.setRow _) Try.underlying24 rfl (by kernel_rfl)) rfl ?_
        obtain rfl : i = m := by omega
        have h1 := HW.out
        obtain ⟨hev, _, hc4, _⟩ := h1.own.evs
        obtain ⟨hed, _, _, _⟩ := h1.due.evs
        have hA4 := own_addr h1.own.own
        have hA7 := own_addr h1.due.own
        have h4 := hev.row (g := w.heap.size + 1) (fun ad h0 hA9 => by have := hA4 ad h0 hA9; omega) (fun e he ad h0 hA9 => by have := h1.new e he ad h0 hA9; omega) #[.slice A3 es.length c3, .int .i64 nx]
        have h7 := hed.row (g := w.heap.size + 1) (fun ad h0 hA9 => by have := hA7 ad h0 hA9; omega) (fun e he ad h0 hA9 => by have := h1.newd e he ad h0 hA9; omega) #[.slice A3 es.length c3, .int .i64 nx]
        have hem := h1.em
        have hemd := h1.emd
        have hfull : (l.map Ev.em).take i = l.map Ev.em := List.take_of_length_le (by rw [List.length_map]; have := HX.out.2.1; omega)
        rw [hfull] at hem hemd
        rw [due_model HRR.out]
        have hv := QVal.of nx h4 hc4
        rw [hem] at hv
        exact ⟨below_setRow h1.bel (by omega) _, _, A7, c7, ds, rfl, hv, h7, hemd⟩
  · have hr1 : ((r : Int) != 0) = true := by rw [bne_iff_ne]; omega
    have HR0 := Lib.hid hr0
    clear hr0
    go_wp2_with (refine wpList_store_row rfl _ _ _ rfl (w.heap.size + 1) _ rfl rfl 24 _ H1.out.2.2 (by kernel_rfl) rfl (by simp [Value.oneCell']) ?_)
    refine bodyPost_ret (results_cell_tmp (t := 24) rfl _ _ (w.heap.size + 1) _ _ rfl (H1.out.2.2.setRow _) Try.underlying24 rfl (by kernel_rfl)) rfl ?_
    have hq : dueQ (l.map Ev.em) nx now = (l.map Ev.em, []) := by
      unfold dueQ
      rw [HRR.out, if_pos HR0.out]
    rw [hq]
    have hB := below_setRow H1.out.1 (g := w.heap.size + 1) (by omega) #[.slice A m c, .int .i64 nx]
    exact ⟨hB, _, none, 0, [], rfl, QVal.of nx (HX.out.1.up hB) hmc, ⟨Reads.none_, nofun⟩, rfl⟩
end Go.Proofs.Ytknedclejhiegaa
