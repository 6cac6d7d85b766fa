/- The walk of the reference's without. Condition: at most 4096 events. -/
import Derived.Test.YtknedclejhiegaaWn
namespace Go.Proofs.Ytknedclejhiegaa
open Go.RowKit
theorem OwnE.far {W : World} {base : Nat} {v : Value} {l : List Ev} (h : OwnE W base v l) (hn : NewP base l) {p : Addr} (hp : p.block < base) (u : Value) : OwnE (W.setCell p u) base v l := by
  refine ⟨own_far h.own (fun e => by have := own_block_ge h.own _ e; omega) u, fun e he => ⟨?_, (h.ev e he).2⟩⟩
  refine ⟨(h.ev e he).1.1, fun h0 => ?_⟩
  obtain ⟨ad, hA, hlt, hc⟩ := (h.ev e he).1.2 h0
  refine ⟨ad, hA, by simpa using hlt, fun j x hx => ?_⟩
  rw [World.cell?_setCell_other]
  · exact hc j x hx
  · intro e9
    have h1 := hn e he ad h0 hA
    have h2 := congrArg Addr.block e9
    rw [block_of_add] at h2
    omega
def remM (k i : Nat) (l : List Em) : List Em := l.take (min i k) ++ (l.take i).drop (k + 1)
theorem remM_ne {k i : Nat} {l : List Em} {e : Em} (h : i ≠ k) (he : l[i]? = some e) : remM k (i + 1) l = remM k i l ++ [e] := by
  have hi := (List.getElem?_eq_some_iff.1 he).1
  have ht : l.take (i + 1) = l.take i ++ [e] := by rw [List.take_add_one, he]; rfl
  unfold remM
  rcases Nat.lt_or_ge i k with hlt | hge
  · rw [show min (i + 1) k = i + 1 by omega, show min i k = i by omega, List.drop_of_length_le (by rw [List.length_take]; omega), List.drop_of_length_le (by rw [List.length_take]; omega), List.append_nil, List.append_nil, ht]
  · rw [show min (i + 1) k = k by omega, show min i k = k by omega, ht, List.drop_append, List.length_take, show k + 1 - min i l.length = 0 by omega, List.drop_zero, List.append_assoc]
theorem remM_eq (k : Nat) (l : List Em) : remM k (k + 1) l = remM k k l := by
  unfold remM
  rw [show min (k + 1) k = k by omega, Nat.min_self, List.drop_of_length_le (by rw [List.length_take]; omega), List.drop_of_length_le (by rw [List.length_take]; omega)]
theorem remM_full {k i : Nat} {l : List Em} (hi : l.length = i) (hk : k < i) : remM k i l = l.take k ++ l.drop (k + 1) := by
  unfold remM
  rw [show min i k = k by omega, List.take_of_length_le (i := i) (by omega)]
/-- a queue whose memory is new -/
structure QNew (W : World) (low : Nat) (l : List Em) (nx : Int) (v : Value) : Prop where
  val : ∃ A c es, v = .agg #[.slice A (List.length es) c, .int .i64 nx] ∧ Evs W A es.length es ∧ es.map Ev.em = l ∧ es.length ≤ c ∧ (∀ ad, 0 < es.length → A = some ad → low ≤ ad.block) ∧ NewP low es
theorem QNew.q {W : World} {low : Nat} {l : List Em} {nx : Int} {v : Value} (h : QNew W low l nx v) : QVal W l nx v := by
  obtain ⟨A, c, es, h1, h2, h3, h4, _⟩ := h.val
  exact ⟨A, c, es, h1, h2, h3, h4⟩
theorem QNew.up {W W' : World} {low : Nat} {l : List Em} {nx : Int} {v : Value} (h : QNew W low l nx v) (hb : Below W.heap.size W W') : QNew W' low l nx v := by
  obtain ⟨A, c, es, h1, h2, h3⟩ := h.val
  exact ⟨A, c, es, h1, h2.up hb, h3⟩
theorem QNew.row {W : World} {low g : Nat} {l : List Em} {nx : Int} {v : Value} (h : QNew W low l nx v) (hg : g < low) (cs : Array Value) : QNew (W.setRow g cs) low l nx v := by
  obtain ⟨A, c, es, h1, h2, h3, h4, h5, h6⟩ := h.val
  exact ⟨A, c, es, h1, h2.row (fun ad h0 hA => by have := h5 ad h0 hA; omega) (fun e he ad h0 hA => by have := h6 e he ad h0 hA; omega) cs, h3, h4, h5, h6⟩
theorem QNew.mono {W : World} {a b : Nat} {l : List Em} {nx : Int} {v : Value} (h : QNew W b l nx v) (hab : a ≤ b) : QNew W a l nx v := by
  obtain ⟨A, c, es, h1, h2, h3, h4, h5, h6⟩ := h.val
  exact ⟨A, c, es, h1, h2, h3, h4, fun ad h0 hA => Nat.le_trans hab (h5 ad h0 hA), h6.mono hab⟩
theorem QNew.cells {W : World} {low : Nat} {l : List Em} {nx : Int} {v : Value} (h : QNew W low l nx v) : ∃ A n c, v = .agg #[.slice A n c, .int .i64 nx] := by
  obtain ⟨A, c, es, h1, _⟩ := h.val
  exact ⟨A, _, c, h1⟩
/-- what the loop of without has made -/
structure WoI (w : World) (L : List Em) (A : Option Addr) (m c k i : Nat) (nx : Int) (W : World) (v : Value) (es : List Ev) : Prop where
  q : Blk W w.heap.size 24 #[.slice A m c, .int .i64 nx]
  z : Blk W (w.heap.size + 1) 24 #[.slice none 0 0, .int .i64 0]
  x : Blk W (w.heap.size + 2) 24 #[v, .int .i64 nx]
  own : OwnE W (w.heap.size + 3) v es
  new : NewP (w.heap.size + 3) es
  em : es.map Ev.em = remM k i L
  bel : Below w.heap.size w W
  size : w.heap.size + 3 ≤ W.heap.size
set_option linter.unusedSimpArgs false in
set_option maxRecDepth 100000 in
set_option maxHeartbeats 4000000 in
theorem without_any (A : Option Addr) (m c k : Nat) (l : List Ev) (nx : Int) (w : World) (hR : Evs w A m l) (hm : m ≤ 4096) (hk : k < m) (hp : ∀ e ∈ l, e.p.length ≤ 100000) :
    Calls Try.prog 43 #[.agg #[.slice A m c, .int .i64 nx], .int .i64 k] w fun e w' => (∃ v, e = .returned v ∧ QNew w' w.heap.size ((l.map Ev.em).take k ++ (l.map Ev.em).drop (k + 1)) nx v) ∧ Below w.heap.size w w' := by
  have hlen := hR.count
  obtain ⟨i2, hi2, hy0, hy1, hy2⟩ := info_parts info32b
  have HI := Lib.hid (And.intro hi2 (And.intro hy0 (And.intro hy1 hy2)))
  clear hi2 hy0 hy1 hy2
  have HX := Lib.hid (And.intro hR (And.intro hlen hp))
  have g0 : Blk (((w.alloc (.cells #[.slice A m c, .int .i64 nx] 24)).alloc (.cells #[.slice none 0 0, .int .i64 0] 24)).alloc (.cells #[.slice none 0 0, .int .i64 nx] 24)) w.heap.size 24 #[.slice A m c, .int .i64 nx] := ((Blk.new w 24 #[.slice A m c, .int .i64 nx]).alloc _).alloc _
  have g1 : Blk (((w.alloc (.cells #[.slice A m c, .int .i64 nx] 24)).alloc (.cells #[.slice none 0 0, .int .i64 0] 24)).alloc (.cells #[.slice none 0 0, .int .i64 nx] 24)) (w.alloc (.cells #[.slice A m c, .int .i64 nx] 24)).heap.size 24 #[.slice none 0 0, .int .i64 0] := (Blk.new (w.alloc (.cells #[.slice A m c, .int .i64 nx] 24)) 24 #[.slice none 0 0, .int .i64 0]).alloc _
  have g2 : Blk (((w.alloc (.cells #[.slice A m c, .int .i64 nx] 24)).alloc (.cells #[.slice none 0 0, .int .i64 0] 24)).alloc (.cells #[.slice none 0 0, .int .i64 nx] 24)) ((w.alloc (.cells #[.slice A m c, .int .i64 nx] 24)).alloc (.cells #[.slice none 0 0, .int .i64 0] 24)).heap.size 24 #[.slice none 0 0, .int .i64 nx] := Blk.new ((w.alloc (.cells #[.slice A m c, .int .i64 nx] 24)).alloc (.cells #[.slice none 0 0, .int .i64 0] 24)) 24 #[.slice none 0 0, .int .i64 nx]
  simp only [World.size_alloc] at g1 g2
  have hb0 : Below w.heap.size w (((w.alloc (.cells #[.slice A m c, .int .i64 nx] 24)).alloc (.cells #[.slice none 0 0, .int .i64 0] 24)).alloc (.cells #[.slice none 0 0, .int .i64 nx] 24)) := (((Below.refl _ _).alloc (Nat.le_refl _) _).alloc (by simp) _).alloc (by simp only [World.size_alloc]; omega) _
  have hs0 : (((w.alloc (.cells #[.slice A m c, .int .i64 nx] 24)).alloc (.cells #[.slice none 0 0, .int .i64 0] 24)).alloc (.cells #[.slice none 0 0, .int .i64 nx] 24)).heap.size = w.heap.size + 3 := by simp
  have H0 : Hid (WoI w (l.map Ev.em) A m c k 0 nx (((w.alloc (.cells #[.slice A m c, .int .i64 nx] 24)).alloc (.cells #[.slice none 0 0, .int .i64 0] 24)).alloc (.cells #[.slice none 0 0, .int .i64 nx] 24)) (.slice none 0 0) []) := ⟨g0, g1, g2, OwnE.nil _ _, nofun, by simp [remM], hb0, by omega⟩
  clear hR hlen hp g0 g1 g2 hb0 hs0
  go_enter Try.func43, Try.ntmps43
  go_wp2_with fail
  generalize (((w.alloc (.cells #[.slice A m c, .int .i64 nx] 24)).alloc (.cells #[.slice none 0 0, .int .i64 0] 24)).alloc (.cells #[.slice none 0 0, .int .i64 nx] 24)) = V0 at *
  go_loopw [6] (fun u6 W => ∃ (i : Nat) (v : Value) (es : List Ev), i ≤ m ∧ u6 = .int .i64 (i : Nat) ∧ WoI w (l.map Ev.em) A m c k i nx W v es) (fun u6 _ => m + 1 - (intOf u6).toNat)
  case atStart => exact ⟨0, _, [], by omega, rfl, H0.out⟩
  case round =>
    obtain ⟨i, v, es, hi, rfl, hW⟩ := hrel
    have HW := Lib.hid hW
    have hsr := hW.size
    have q0 : wr.cell? ⟨w.heap.size, 0, none⟩ = some (.slice A m c) := hW.q.cell 0
    clear hW
    by_cases hlt : i < m
    · have hil : i < l.length := by have := HX.out.2.1; omega
      have hlt' : (i : Int) < m := by omega
      by_cases hik : i = k
      · have hb1 : ((i : Int) != (k : Int)) = false := by simp; omega
        have HIK := Lib.hid hik
        clear hik
        go_wp2_with fail
        go_roundw
        case rel =>
          have h1 := HW.out
          refine ⟨i + 1, v, es, by omega, by go_num, h1.q, h1.z, h1.x, h1.own, h1.new, ?_, h1.bel, h1.size⟩
          rw [h1.em, HIK.out, remM_eq]
        case measure => simp [intOf]; omega
      · have hb1 : ((i : Int) != (k : Int)) = true := by rw [bne_iff_ne]; omega
        have HIK := Lib.hid hik
        clear hik
        obtain ⟨b, off, rfl, hbw, hc⟩ := HX.out.1.cells (by omega)
        obtain ⟨d0, d1, d2, d3, d4⟩ := hc i _ (List.getElem?_eq_getElem hil)
        replace d0 := (HW.out.bel.cell (p := ⟨b, off + i * 5, none⟩) hbw).trans d0
        replace d1 := (HW.out.bel.cell (p := ⟨b, off + i * 5 + 1, none⟩) hbw).trans d1
        replace d2 := (HW.out.bel.cell (p := ⟨b, off + i * 5 + 2, none⟩) hbw).trans d2
        replace d3 := (HW.out.bel.cell (p := ⟨b, off + i * 5 + 3, none⟩) hbw).trans d3
        replace d4 := (HW.out.bel.cell (p := ⟨b, off + i * 5 + 4, none⟩) hbw).trans d4
        have HS : Hid ((l.map Ev.em)[i]? = some l[i].em) := by
          show _ = _
          rw [List.getElem?_map, List.getElem?_eq_getElem hil]
          rfl
        have hxr := (HX.out.1.ev _ (List.getElem_mem hil)).up HW.out.bel
        have hxp := HX.out.2.2 _ (List.getElem_mem hil)
        clear hc
        generalize hlk : l[i] = ev at *
        obtain ⟨xt, xn, xk, xo, xA, xc, xp⟩ := ev
        dsimp only at d0 d1 d2 d3 d4 hxp
        dsimp only [Ev.em] at HS
        have HXR : Hid (Reads wr wr.heap.size 1 xA xp.length (u8s xp)) := hxr
        clear hlk hxr
        obtain ⟨A3, c3, rfl⟩ := HW.out.own.form
        have HO := Lib.hid (And.intro HW.out.own HW.out.new)
        have HBX := Lib.hid HW.out.x
        have o0 : wr.cell? ⟨w.heap.size + 2, 0, none⟩ = some (.slice A3 es.length c3) := HW.out.x.cell 0
        have hel : es.length ≤ 8192 := by
          have h := congrArg List.length HW.out.em
          rw [List.length_map] at h
          unfold remM at h
          rw [List.length_append, List.length_drop, List.length_take, List.length_take] at h
          omega
        go_upto_region 6 with fail
        refine wp_pan (Pc := fun _ _ _ => False) (fun _ _ _ h => h.elim) ?_
        refine wp_region_tail_lit (S := fun V => V.cell? ⟨w.heap.size + 2, 0, none⟩ = some (.slice A3 es.length c3) ∧ V.cell? ⟨w.heap.size, 0, none⟩ = some (.slice (some ⟨b, off, none⟩) m c) ∧ V.cell? ⟨b, off + i * 5, none⟩ = some (.int .i64 xt) ∧ V.cell? ⟨b, off + i * 5 + 1, none⟩ = some (.int .i64 xn) ∧ V.cell? ⟨b, off + i * 5 + 2, none⟩ = some (.int .i64 xk) ∧ V.cell? ⟨b, off + i * 5 + 3, none⟩ = some (.int .i64 xo) ∧ V.cell? ⟨b, off + i * 5 + 4, none⟩ = some (.slice xA xp.length xc)) 10 (by kernel_rfl) (by kernel_rfl) ⟨o0, q0, d0, d1, d2, d3, d4⟩ (fun hHeld => ?_)
        simp only [List.take, List.drop]
        refine wpAnyH_take (i := 0) (oi := _) (v := ?_) rfl (by kernel_rfl) (by kernel_rfl) (by kernel_rfl) (fun _ _ _ h => h) (Or.inl ⟨by rfl, ?_⟩) (by assumption) ?_
        rotate_left 1
        · (intro w9 hS9; (try dsimp only at hS9); go_simp <;> with_reducible rfl)
        try simp only [List.getElem_toArray, List.getElem_cons_succ, List.getElem_cons_zero, Act.put, List.setIfInBounds_toArray, List.set_cons_zero, List.set_cons_succ]
        refine wpAnyH_take (i := 1) (oi := _) (v := ?_) rfl (by kernel_rfl) (by kernel_rfl) (by kernel_rfl) (fun _ _ _ h => h) (Or.inl ⟨by rfl, ?_⟩) (by assumption) ?_
        rotate_left 1
        · (intro w9 hS9; (try dsimp only at hS9); go_simp <;> with_reducible rfl)
        try simp only [List.getElem_toArray, List.getElem_cons_succ, List.getElem_cons_zero, Act.put, List.setIfInBounds_toArray, List.set_cons_zero, List.set_cons_succ]
        refine wpAnyH_take (i := 2) (oi := _) (v := ?_) rfl (by kernel_rfl) (by kernel_rfl) (by kernel_rfl) (fun _ _ _ h => h) (Or.inl ⟨by rfl, ?_⟩) (by assumption) ?_
        rotate_left 1
        · (intro w9 hS9; (try dsimp only at hS9); go_simp <;> with_reducible rfl)
        try simp only [List.getElem_toArray, List.getElem_cons_succ, List.getElem_cons_zero, Act.put, List.setIfInBounds_toArray, List.set_cons_zero, List.set_cons_succ]
        refine wpAnyH_take (i := 3) (oi := _) (v := ?_) rfl (by kernel_rfl) (by kernel_rfl) (by kernel_rfl) (fun _ _ _ h => h) (Or.inl ⟨by rfl, ?_⟩) (by assumption) ?_
        rotate_left 1
        · (intro w9 hS9; (try dsimp only at hS9); go_simp <;> with_reducible rfl)
        try simp only [List.getElem_toArray, List.getElem_cons_succ, List.getElem_cons_zero, Act.put, List.setIfInBounds_toArray, List.set_cons_zero, List.set_cons_succ]
        refine wpAnyH_take (i := 4) (oi := _) (v := ?_) rfl (by kernel_rfl) (by kernel_rfl) (by kernel_rfl) (fun _ _ _ h => h) (Or.inl ⟨by rfl, ?_⟩) (by assumption) ?_
        rotate_left 1
        · (intro w9 hS9; (try dsimp only at hS9); go_simp <;> with_reducible rfl)
        try simp only [List.getElem_toArray, List.getElem_cons_succ, List.getElem_cons_zero, Act.put, List.setIfInBounds_toArray, List.set_cons_zero, List.set_cons_succ]
        refine wpAnyH_take (i := 5) (oi := _) (v := ?_) rfl (by kernel_rfl) (by kernel_rfl) (by kernel_rfl) (fun _ _ _ h => h) (Or.inl ⟨by rfl, ?_⟩) (by assumption) ?_
        rotate_left 1
        · (intro w9 hS9; (try dsimp only at hS9); go_simp <;> with_reducible rfl)
        try simp only [List.getElem_toArray, List.getElem_cons_succ, List.getElem_cons_zero, Act.put, List.setIfInBounds_toArray, List.set_cons_zero, List.set_cons_succ]
        refine wpAnyH_take (i := 6) (oi := _) (v := ?_) rfl (by kernel_rfl) (by kernel_rfl) (by kernel_rfl) (fun _ _ _ h => h) (Or.inl ⟨by rfl, ?_⟩) (by assumption) ?_
        rotate_left 1
        · (intro w9 hS9; (try dsimp only at hS9); go_simp <;> with_reducible rfl)
        try simp only [List.getElem_toArray, List.getElem_cons_succ, List.getElem_cons_zero, Act.put, List.setIfInBounds_toArray, List.set_cons_zero, List.set_cons_succ]
        refine wpAnyH_ready (rs := [7]) (by kernel_rfl) (by simp) ?_
        refine AllReadyH.cons (o := _) rfl (fun K hK => ?_) AllReadyH.nil
        try simp only [List.getElem_toArray, List.getElem_cons_succ, List.getElem_cons_zero]
        go_simp
        refine (Copy_any xt xn xk xo xA xc xp _ (Reads.drew HXR.out) hxp).mono ?_
        rintro e w1 ⟨hb1, A2, c2, rfl, hr2, _, _, hf2⟩
        unfold evC
        dsimp only
        have hbr1 : Below (w.heap.size + 3) wr w1 := ((Below.refl (w.heap.size + 3) wr).drew).trans (hb1.mono (by have := hsr; exact this))
        have hs1 : wr.heap.size ≤ w1.heap.size := hb1.size
        have hbr1' : Below wr.heap.size wr w1 := (Below.refl _ wr).drew.trans hb1
        go_wp2_with fail
        refine hK.out _ _ ⟨(hbr1.cell (p := ⟨w.heap.size + 2, 0, none⟩) (by dsimp only; omega)).trans o0, (hbr1.cell (p := ⟨w.heap.size, 0, none⟩) (by dsimp only; omega)).trans q0, (hbr1.cell (p := ⟨b, off + i * 5, none⟩) (by dsimp only; omega)).trans d0, (hbr1.cell (p := ⟨b, off + i * 5 + 1, none⟩) (by dsimp only; omega)).trans d1, (hbr1.cell (p := ⟨b, off + i * 5 + 2, none⟩) (by dsimp only; omega)).trans d2, (hbr1.cell (p := ⟨b, off + i * 5 + 3, none⟩) (by dsimp only; omega)).trans d3, (hbr1.cell (p := ⟨b, off + i * 5 + 4, none⟩) (by dsimp only; omega)).trans d4⟩ (fun hHeld => ?_)
        clear hK K
        try simp only [List.getElem_toArray, List.getElem_cons_succ, List.getElem_cons_zero, Act.put, List.setIfInBounds_toArray, List.set_cons_zero, List.set_cons_succ]
        refine wpAnyH_ready (rs := [8]) (by kernel_rfl) (by simp) ?_
        refine AllReadyH.cons (o := _) rfl (fun K hK => ?_) AllReadyH.nil
        try simp only [List.getElem_toArray, List.getElem_cons_succ, List.getElem_cons_zero]
        go_simp
        have hbr2 : Below (w.heap.size + 3) wr (w1.alloc (.cells #[.int .i64 xt, .int .i64 xn, .int .i64 xk, .int .i64 xo, .slice A2 xp.length c2] 32)) := hbr1.alloc (by omega) _
        have hE2 := (HO.out.1.below hbr1').below ((Below.refl _ w1).alloc (Nat.le_refl _) (.cells #[.int .i64 xt, .int .i64 xn, .int .i64 xk, .int .i64 xo, .slice A2 xp.length c2] 32))
        have her := elem_reads w1 #[.int .i64 xt, .int .i64 xn, .int .i64 xk, .int .i64 xo, .slice A2 xp.length c2] 32
        have hx2 : EvR (w1.alloc (.cells #[.int .i64 xt, .int .i64 xn, .int .i64 xk, .int .i64 xo, .slice A2 xp.length c2] 32)) ⟨xt, xn, xk, xo, A2, c2, xp⟩ := Reads.up hr2 ((Below.refl _ w1).alloc (Nat.le_refl _) _)
        have hs2 : (w1.alloc (.cells #[.int .i64 xt, .int .i64 xn, .int .i64 xk, .int .i64 xo, .slice A2 xp.length c2] 32)).heap.size = w1.heap.size + 1 := by simp
        have hbr2' : Below wr.heap.size wr (w1.alloc (.cells #[.int .i64 xt, .int .i64 xn, .int .i64 xk, .int .i64 xo, .slice A2 xp.length c2] 32)) := hbr1'.alloc hbr1'.size _
        refine hK.out _ _ ⟨(hbr2.cell (p := ⟨w.heap.size + 2, 0, none⟩) (by dsimp only; omega)).trans o0, (hbr2.cell (p := ⟨w.heap.size, 0, none⟩) (by dsimp only; omega)).trans q0, (hbr2.cell (p := ⟨b, off + i * 5, none⟩) (by dsimp only; omega)).trans d0, (hbr2.cell (p := ⟨b, off + i * 5 + 1, none⟩) (by dsimp only; omega)).trans d1, (hbr2.cell (p := ⟨b, off + i * 5 + 2, none⟩) (by dsimp only; omega)).trans d2, (hbr2.cell (p := ⟨b, off + i * 5 + 3, none⟩) (by dsimp only; omega)).trans d3, (hbr2.cell (p := ⟨b, off + i * 5 + 4, none⟩) (by dsimp only; omega)).trans d4⟩ (fun hHeld => ?_)
        clear hK K
        try simp only [List.getElem_toArray, List.getElem_cons_succ, List.getElem_cons_zero, Act.put, List.setIfInBounds_toArray, List.set_cons_zero, List.set_cons_succ]
        generalize (w1.alloc (.cells #[.int .i64 xt, .int .i64 xn, .int .i64 xk, .int .i64 xo, .slice A2 xp.length c2] 32)) = w2 at *
        refine wpAnyH_ready (rs := [9]) (by kernel_rfl) (by simp) ?_
        refine AllReadyH.cons (o := _) rfl (fun K hK => ?_) AllReadyH.nil
        try simp only [List.getElem_toArray, List.getElem_cons_succ, List.getElem_cons_zero]
        rw [if_pos (show Region.wanted _ _ = true from rfl)]
        refine wp_append_any w2 (.tmp 21) (.tmp 28) _ (by rfl) (w.heap.size + 3) 32 i2 _ 5 56 Try.underlying22 HI.out.1 HI.out.2.1 HI.out.2.2.1 HI.out.2.2.2 rfl (by omega) _ es.length (es.flatMap encEv) (by rfl) hE2.own (w1.heap.size + 1) (some ⟨w1.heap.size, 0, none⟩) 1 1 (encEv ⟨xt, xn, xk, xo, A2, c2, xp⟩) (by rfl) her (by simp [encEv, Value.oneCell']) (by simp only [maxLen]; omega) (by omega) (by omega) ?_
        intro v3 w3 ho3 hg3 hv3
        obtain ⟨A3', c3', rfl, _, _, _⟩ := own_slice ho3
        have hbr3 : Below (w.heap.size + 3) wr w3 := hbr2.grown hg3 (by omega) (own_block_ge hE2.own)
        have hE3 := OwnE.push (x := ⟨xt, xn, xk, xo, A2, c2, xp⟩) hE2 ho3 hg3 hv3 hx2 (fun ad h0 hA e => by have h1 := own_lt HO.out.1.own _ e; have h2 := hf2 ad h0 hA; have h3 : wr.drew.heap.size = wr.heap.size := rfl; omega)
        have hN3 : NewP (w.heap.size + 3) (es ++ [⟨xt, xn, xk, xo, A2, c2, xp⟩]) := by
          intro e he ad h0 hA
          rcases List.mem_append.1 he with he | he
          · exact HO.out.2 e he ad h0 hA
          · rw [List.mem_singleton] at he
            subst he
            have h2 := hf2 ad h0 hA
            have h3 : wr.drew.heap.size = wr.heap.size := rfl
            omega
        refine hK.out _ _ ⟨(hbr3.cell (p := ⟨w.heap.size + 2, 0, none⟩) (by dsimp only; omega)).trans o0, (hbr3.cell (p := ⟨w.heap.size, 0, none⟩) (by dsimp only; omega)).trans q0, (hbr3.cell (p := ⟨b, off + i * 5, none⟩) (by dsimp only; omega)).trans d0, (hbr3.cell (p := ⟨b, off + i * 5 + 1, none⟩) (by dsimp only; omega)).trans d1, (hbr3.cell (p := ⟨b, off + i * 5 + 2, none⟩) (by dsimp only; omega)).trans d2, (hbr3.cell (p := ⟨b, off + i * 5 + 3, none⟩) (by dsimp only; omega)).trans d3, (hbr3.cell (p := ⟨b, off + i * 5 + 4, none⟩) (by dsimp only; omega)).trans d4⟩ (fun hHeld => ?_)
        clear hK K
        try simp only [List.getElem_toArray, List.getElem_cons_succ, List.getElem_cons_zero, Act.put, List.setIfInBounds_toArray, List.set_cons_zero, List.set_cons_succ]
        refine wpAnyH_done (by kernel_rfl) ?_ _
        have o3 : w3.cell? ⟨w.heap.size + 2, 0, none⟩ = some (.slice A3 es.length c3) := (hbr3.cell (p := ⟨w.heap.size + 2, 0, none⟩) (by dsimp only; omega)).trans o0
        have z3 : w3.frozen? ⟨w.heap.size + 2, 0, none⟩ = false := (HBX.out.below hbr3 (by omega)).frozen 0
        refine tailQ_step rfl ?_
        go_wp2_with fail
        refine tailQ_step rfl ?_
        go_wp2_with fail
        refine tailQ_nil (panQ_normal ?_)
        go_wp2_with fail
        go_roundw
        case rel =>
          have h1 := HW.out
          refine ⟨i + 1, _, es ++ [⟨xt, xn, xk, xo, A2, c2, xp⟩], by omega, by go_num, (h1.q.below hbr3 (by omega)).far (by dsimp only; omega) _, (h1.z.below hbr3 (by omega)).far (by dsimp only; omega) _, (HBX.out.below hbr3 (by omega)).set_ 0 _, hE3.far hN3 (by dsimp only; omega) _, hN3, ?_, (h1.bel.trans (hbr3.mono (by omega))).setCell (by dsimp only; omega) _, by have := hbr3.size; simp; omega⟩
          rw [List.map_append, h1.em, remM_ne HIK.out HS.out]
          rfl
        case measure => simp [intOf]; omega
    · have hlt' : ¬ (i : Int) < m := by omega
      obtain ⟨A3, c3, rfl⟩ := HW.out.own.form
      have o0 : wr.cell? ⟨w.heap.size + 2, 0, none⟩ = some (.slice A3 es.length c3) := HW.out.x.cell 0
      have o1 : wr.cell? ⟨w.heap.size + 2, 1, none⟩ = some (.int .i64 nx) := HW.out.x.cell 1
      go_wp2_with (refine wpList_store_row rfl _ _ _ rfl (w.heap.size + 1) _ rfl rfl 24 _ HW.out.z (by kernel_rfl) rfl (by simp [Value.oneCell']) ?_)
      refine bodyPost_ret (results_cell1 (t := 24) rfl _ _ (w.heap.size + 1) _ _ rfl (HW.out.z.setRow _) Try.underlying24 rfl (by kernel_rfl)) rfl ?_
      obtain rfl : i = m := by omega
      obtain ⟨hev, hl4, hc4, _⟩ := HW.out.own.evs
      have hA4 := own_addr HW.out.own.own
      have h4 := hev.row (g := w.heap.size + 1) (fun ad h0 hA9 => by have := hA4 ad h0 hA9; omega) (fun e he ad h0 hA9 => by have := HW.out.new e he ad h0 hA9; omega) #[.slice A3 es.length c3, .int .i64 nx]
      have hem := HW.out.em
      rw [remM_full (by rw [List.length_map]; exact HX.out.2.1) hk] at hem
      exact ⟨⟨_, rfl, A3, c3, es, rfl, h4, hem, hc4, fun ad h0 hA9 => by have := hA4 ad h0 hA9; omega, HW.out.new.mono (by omega)⟩, below_setRow HW.out.bel (by omega) _⟩
end Go.Proofs.Ytknedclejhiegaa
