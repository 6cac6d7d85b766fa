/- The walk of the reference's Add. Condition: at most 4000 events, a body of at most 100000 bytes. -/
import Derived.Test.YtknedclejhiegaaWs
import Derived.Test.YtknedclejhiegaaWo
namespace Go.Proofs.Ytknedclejhiegaa
open Go.RowKit
theorem OwnE.far2 {W : World} {base : Nat} {v : Value} {l : List Ev} (h : OwnE W base v l) {p : Addr} (hp : p.block < base) (hn : ∀ e ∈ l, ∀ ad, 0 < e.p.length → e.A = some ad → ad.block ≠ p.block) (u : Value) : OwnE (W.setCell p u) base v l := by
  refine ⟨own_far h.own (fun e => by have := own_block_ge h.own _ e; omega) u, fun e he => ⟨?_, (h.ev e he).2⟩⟩
  refine ⟨(h.ev e he).1.1, fun h0 => ?_⟩
  obtain ⟨ad, hA, hlt, hc⟩ := (h.ev e he).1.2 h0
  refine ⟨ad, hA, by simpa using hlt, fun j x hx => ?_⟩
  rw [World.cell?_setCell_other]
  · exact hc j x hx
  · intro e9
    have h1 := hn e he ad h0 hA
    have h2 := congrArg Addr.block e9
    rw [block_of_add] at h2
    exact h1 h2.symm
theorem atE_spec (f : Em → Bool) (L : List Em) : (∀ j y, j < atE f L → L[j]? = some y → f y = false) ∧ (∀ y, L[atE f L]? = some y → f y = true) := by
  unfold atE
  cases h : idxB f L with
  | some k =>
    obtain ⟨_, h2, e, h3, h4⟩ := idxB_lt h
    refine ⟨h2, fun y hy => ?_⟩
    dsimp only at hy
    rw [h3] at hy
    injection hy with hy
    rw [← hy]
    exact h4
  | none =>
    refine ⟨fun j y _ hy => idxB_nil h y (List.mem_of_getElem? hy), fun y hy => ?_⟩
    dsimp only at hy
    rw [List.getElem?_eq_none (Nat.le_refl _)] at hy
    cases hy
def insP (x : Em) (L : List Em) (q i : Nat) : List Em := if q < i then L.take q ++ x :: (L.take i).drop q else L.take i
def insQ (x : Em) (L : List Em) (q i : Nat) : List Em := if q ≤ i then L.take q ++ x :: (L.take i).drop q else L.take i
theorem insP_next {x e : Em} {L : List Em} {q i : Nat} (he : L[i]? = some e) : insP x L q (i + 1) = insQ x L q i ++ [e] := by
  have hi := (List.getElem?_eq_some_iff.1 he).1
  have ht : L.take (i + 1) = L.take i ++ [e] := by rw [List.take_add_one, he]; rfl
  unfold insP insQ
  by_cases h : q ≤ i
  · rw [if_pos (by omega), if_pos h, ht, List.drop_append, List.length_take, show q - min i L.length = 0 by omega, List.drop_zero, List.append_assoc, List.cons_append]
  · rw [if_neg (by omega), if_neg h, ht]
theorem insQ_lt {x : Em} {L : List Em} {q i : Nat} (h : q < i) : insQ x L q i = insP x L q i := by unfold insP insQ; rw [if_pos h, if_pos (by omega)]
theorem insQ_gt {x : Em} {L : List Em} {q i : Nat} (h : i < q) : insQ x L q i = insP x L q i := by unfold insP insQ; rw [if_neg (by omega), if_neg (by omega)]
theorem insQ_eq (x : Em) (L : List Em) (q : Nat) : insQ x L q q = insP x L q q ++ [x] := by
  unfold insP insQ
  rw [if_pos (Nat.le_refl _), if_neg (by omega), List.drop_of_length_le (by rw [List.length_take]; omega)]
theorem insP_end {x : Em} {L : List Em} {q i : Nat} (hi : L.length = i) (h : q < i) : insP x L q i = L.take q ++ x :: L.drop q := by
  unfold insP
  rw [if_pos h, List.take_of_length_le (i := i) (by omega)]
theorem insP_last {x : Em} {L : List Em} {q : Nat} (hi : L.length = q) : insP x L q q ++ [x] = L.take q ++ x :: L.drop q := by
  unfold insP
  rw [if_neg (by omega), List.drop_of_length_le (i := q) (by omega)]
theorem insP_le {x : Em} {L : List Em} {q i : Nat} (h : q < i) : insP x L q i = L.take q ++ x :: (L.take i).drop q := by unfold insP; rw [if_pos h]
theorem insP_gt {x : Em} {L : List Em} {q i : Nat} (h : i ≤ q) : insP x L q i = L.take i := by unfold insP; rw [if_neg (by omega)]
/-- what the loop of the reference's Add has made -/
structure AdI (w : World) (A : Option Addr) (m c Y : Nat) (nx tm kd to_ : Int) (Ax : Option Addr) (cx : Nat) (p : List Nat) (L2 : List Em) (W : World) (v : Value) (es : List Ev) : Prop where
  q : Blk W w.heap.size 24 #[.slice A m c, .int .i64 nx]
  z : Blk W (w.heap.size + 1) 24 #[.slice none 0 0, .int .i64 0]
  y : Blk W Y 32 #[.int .i64 tm, .int .i64 nx, .int .i64 kd, .int .i64 to_, .slice Ax p.length cx]
  x : Blk W (Y + 1) 24 #[v, .int .i64 (nx + 1)]
  own : OwnE W (Y + 2) v es
  new : NewP (w.heap.size + 2) es
  off : ∀ e ∈ es, ∀ ad, 0 < e.p.length → e.A = some ad → ad.block ≠ Y + 1
  em : es.map Ev.em = L2
  bel : Below w.heap.size w W
  size : Y + 2 ≤ W.heap.size
  pay : Reads W W.heap.size 1 Ax p.length (u8s p)
theorem reads_far2 {w : World} {size n : Nat} {A : Option Addr} {xs : List Value} {g i : Nat} (h : Reads w w.heap.size size A n xs) (hne : ∀ ad, 0 < n → A = some ad → ad.block ≠ g) (u : Value) : Reads (w.setCell ⟨g, i, none⟩ u) (w.setCell ⟨g, i, none⟩ u).heap.size size A n xs := by
  refine ⟨h.1, fun h0 => ?_⟩
  obtain ⟨ad, hA, hlt, hc⟩ := h.2 h0
  refine ⟨ad, hA, by simpa using hlt, fun j x hx => ?_⟩
  rw [World.cell?_setCell_other]
  · exact hc j x hx
  · intro e9
    have h1 := hne ad h0 hA
    have h2 := congrArg Addr.block e9
    rw [block_of_add] at h2
    exact h1 h2.symm
set_option linter.unusedSimpArgs false in
set_option maxRecDepth 100000 in
set_option maxHeartbeats 8000000 in
theorem refAdd_any (A B : Option Addr) (m c bc : Nat) (l : List Ev) (nx tm kd to_ : Int) (p : List Nat) (w : World) (hR : Evs w A m l) (hm : m ≤ 4000) (hp : ∀ e ∈ l, e.p.length ≤ 100000) (hRb : Reads w w.heap.size 1 B p.length (u8s p)) (hpb : p.length ≤ 100000) :
    Calls Try.prog 15 #[.agg #[.slice A m c, .int .i64 nx], .int .i64 tm, .int .i64 kd, .int .i64 to_, .slice B p.length bc] w (AddR w (addQ (l.map Ev.em) nx tm kd to_ p)) := by
  have hlen := hR.count
  obtain ⟨i2, hi2, hy0, hy1, hy2⟩ := info_parts info32b
  have HI := Lib.hid (And.intro hi2 (And.intro hy0 (And.intro hy1 hy2)))
  clear hi2 hy0 hy1 hy2
  have hb0 : Below w.heap.size w ((w.alloc (.cells #[.slice A m c, .int .i64 nx] 24)).alloc (.cells #[.slice none 0 0, .int .i64 0] 24)) := (((Below.refl _ _).alloc (Nat.le_refl _) _).alloc (by simp) _)
  have g0 : Blk ((w.alloc (.cells #[.slice A m c, .int .i64 nx] 24)).alloc (.cells #[.slice none 0 0, .int .i64 0] 24)) w.heap.size 24 #[.slice A m c, .int .i64 nx] := ((Blk.new w 24 #[.slice A m c, .int .i64 nx]).alloc _)
  have g1 : Blk ((w.alloc (.cells #[.slice A m c, .int .i64 nx] 24)).alloc (.cells #[.slice none 0 0, .int .i64 0] 24)) (w.alloc (.cells #[.slice A m c, .int .i64 nx] 24)).heap.size 24 #[.slice none 0 0, .int .i64 0] := (Blk.new (w.alloc (.cells #[.slice A m c, .int .i64 nx] 24)) 24 #[.slice none 0 0, .int .i64 0])
  simp only [World.size_alloc] at g0 g1
  have hs0 : ((w.alloc (.cells #[.slice A m c, .int .i64 nx] 24)).alloc (.cells #[.slice none 0 0, .int .i64 0] 24)).heap.size = w.heap.size + 2 := by simp
  have HX := Lib.hid (And.intro hR (And.intro hlen (And.intro hp (And.intro (hR.up hb0) (And.intro hb0 hRb)))))
  clear hR hlen hp hb0 hRb
  go_enter Try.func15, Try.ntmps15
  go_upto_region 1 with fail
  generalize ((w.alloc (.cells #[.slice A m c, .int .i64 nx] 24)).alloc (.cells #[.slice none 0 0, .int .i64 0] 24)) = W at *
  have q0 : W.cell? ⟨w.heap.size, 0, none⟩ = some (.slice A m c) := g0.cell 0
  have q1 : W.cell? ⟨w.heap.size, 1, none⟩ = some (.int .i64 nx) := g0.cell 1
  go_wp2_with fail
  refine (refCheck_any A m c l nx W HX.out.2.2.2.1 (by omega)).mono ?_
  rintro e w1 ⟨rfl, hb1⟩
  have hbw : Below w.heap.size w w1 := HX.out.2.2.2.2.1.trans (hb1.mono HX.out.2.2.2.2.1.size)
  have G0 := g0.below hb1 (by omega)
  have G1 := g1.below hb1 (by omega)
  have hs1 := hb1.size
  have H1 := Lib.hid (And.intro hbw (And.intro G0 (And.intro G1 (HX.out.2.2.2.2.2.up hbw))))
  clear hb1 hbw g0 g1 q0 q1 G0 G1
  have q0 : w1.cell? ⟨w.heap.size, 0, none⟩ = some (.slice A m c) := H1.out.2.1.cell 0
  have q1 : w1.cell? ⟨w.heap.size, 1, none⟩ = some (.int .i64 nx) := H1.out.2.1.cell 1
  obtain ⟨r, hr⟩ : ∃ r, chkQ nx (l.map Ev.em) = r := ⟨_, rfl⟩
  rw [hr]
  have HRR := Lib.hid hr
  clear hr
  have hsw : w.heap.size + 2 ≤ w1.heap.size := by omega
  by_cases hr0 : r = 0
  · subst hr0
    have hok := okQ_of HRR.out
    have hn0 := hok.lo
    have hn1 := hok.hi
    clear hok
    by_cases e1 : tm < 0
    · go_wp2_with (refine wpList_store_row rfl _ _ _ rfl (w.heap.size + 1) _ rfl rfl 24 _ H1.out.2.2.1 (by kernel_rfl) rfl (by simp [Value.oneCell']) ?_)
      refine bodyPost_ret (results_cell_tmp2 (t := 24) rfl _ _ (w.heap.size + 1) _ _ rfl (H1.out.2.2.1.setRow _) Try.underlying24 rfl (by kernel_rfl)) rfl ?_
      have hq : addQ (l.map Ev.em) nx tm kd to_ p = ⟨[], 0, 0, 24⟩ := by
        unfold addQ
        rw [HRR.out, if_neg (by simp), wrong24 (by omega), if_pos (by simp)]
      rw [hq]
      exact ⟨below_setRow H1.out.1 (by omega) _, _, rfl, QVal.nil _ _⟩
    by_cases e2 : 1073741824 < tm
    · go_wp2_with (refine wpList_store_row rfl _ _ _ rfl (w.heap.size + 1) _ rfl rfl 24 _ H1.out.2.2.1 (by kernel_rfl) rfl (by simp [Value.oneCell']) ?_)
      refine bodyPost_ret (results_cell_tmp2 (t := 24) rfl _ _ (w.heap.size + 1) _ _ rfl (H1.out.2.2.1.setRow _) Try.underlying24 rfl (by kernel_rfl)) rfl ?_
      have hq : addQ (l.map Ev.em) nx tm kd to_ p = ⟨[], 0, 0, 24⟩ := by
        unfold addQ
        rw [HRR.out, if_neg (by simp), wrong24 (by omega), if_pos (by simp)]
      rw [hq]
      exact ⟨below_setRow H1.out.1 (by omega) _, _, rfl, QVal.nil _ _⟩
    by_cases e3 : kd < 0
    · go_wp2_with (refine wpList_store_row rfl _ _ _ rfl (w.heap.size + 1) _ rfl rfl 24 _ H1.out.2.2.1 (by kernel_rfl) rfl (by simp [Value.oneCell']) ?_)
      refine bodyPost_ret (results_cell_tmp2 (t := 24) rfl _ _ (w.heap.size + 1) _ _ rfl (H1.out.2.2.1.setRow _) Try.underlying24 rfl (by kernel_rfl)) rfl ?_
      have hq : addQ (l.map Ev.em) nx tm kd to_ p = ⟨[], 0, 0, 2⟩ := by
        unfold addQ
        rw [HRR.out, if_neg (by simp), wrong2 (by omega) (by omega), if_pos (by simp)]
      rw [hq]
      exact ⟨below_setRow H1.out.1 (by omega) _, _, rfl, QVal.nil _ _⟩
    by_cases e4 : to_ < 0
    · go_wp2_with (refine wpList_store_row rfl _ _ _ rfl (w.heap.size + 1) _ rfl rfl 24 _ H1.out.2.2.1 (by kernel_rfl) rfl (by simp [Value.oneCell']) ?_)
      refine bodyPost_ret (results_cell_tmp2 (t := 24) rfl _ _ (w.heap.size + 1) _ _ rfl (H1.out.2.2.1.setRow _) Try.underlying24 rfl (by kernel_rfl)) rfl ?_
      have hq : addQ (l.map Ev.em) nx tm kd to_ p = ⟨[], 0, 0, 2⟩ := by
        unfold addQ
        rw [HRR.out, if_neg (by simp), wrong2 (by omega) (by omega), if_pos (by simp)]
      rw [hq]
      exact ⟨below_setRow H1.out.1 (by omega) _, _, rfl, QVal.nil _ _⟩
    by_cases e5 : 4096 < p.length
    · have e5' : (4096 : Int) < p.length := by omega
      go_wp2_with (refine wpList_store_row rfl _ _ _ rfl (w.heap.size + 1) _ rfl rfl 24 _ H1.out.2.2.1 (by kernel_rfl) rfl (by simp [Value.oneCell']) ?_)
      refine bodyPost_ret (results_cell_tmp2 (t := 24) rfl _ _ (w.heap.size + 1) _ _ rfl (H1.out.2.2.1.setRow _) Try.underlying24 rfl (by kernel_rfl)) rfl ?_
      have hq : addQ (l.map Ev.em) nx tm kd to_ p = ⟨[], 0, 0, 5⟩ := by
        unfold addQ
        rw [HRR.out, if_neg (by simp), wrong5 (by omega) (by omega) e5, if_pos (by simp)]
      rw [hq]
      exact ⟨below_setRow H1.out.1 (by omega) _, _, rfl, QVal.nil _ _⟩
    have e5' : ¬ (4096 : Int) < p.length := by omega
    have hmx : ¬ (4096 : Int) ≤ m := by omega
    by_cases e6 : 1073741824 ≤ nx
    · go_wp2_with (refine wpList_store_row rfl _ _ _ rfl (w.heap.size + 1) _ rfl rfl 24 _ H1.out.2.2.1 (by kernel_rfl) rfl (by simp [Value.oneCell']) ?_)
      refine bodyPost_ret (results_cell_tmp2 (t := 24) rfl _ _ (w.heap.size + 1) _ _ rfl (H1.out.2.2.1.setRow _) Try.underlying24 rfl (by kernel_rfl)) rfl ?_
      have hq : addQ (l.map Ev.em) nx tm kd to_ p = ⟨[], 0, 0, 11⟩ := by
        unfold addQ
        rw [HRR.out, if_neg (by simp), wrong0 (by omega) (by omega) e5, if_neg (by simp), if_pos e6]
      rw [hq]
      exact ⟨below_setRow H1.out.1 (by omega) _, _, rfl, QVal.nil _ _⟩
    obtain ⟨at_, hat⟩ : ∃ q, atE (laterB tm) (l.map Ev.em) = q := ⟨_, rfl⟩
    have hsp := atE_spec (laterB tm) (l.map Ev.em)
    have hal := atE_le (laterB tm) (l.map Ev.em)
    rw [hat] at hsp hal
    rw [List.length_map, HX.out.2.1] at hal
    have hq : addQ (l.map Ev.em) nx tm kd to_ p = ⟨(l.map Ev.em).take at_ ++ ⟨tm, nx, kd, to_, p⟩ :: (l.map Ev.em).drop at_, nx + 1, nx, 0⟩ := by
      unfold addQ insE
      rw [HRR.out, if_neg (by simp), wrong0 (by omega) (by omega) e5, if_neg (by simp), if_neg e6, hat]
    have HQ := Lib.hid (And.intro hq hsp)
    clear hat hsp hq
    have nw : IntKind.i64.wrap (nx + 1) = nx + 1 := by rw [IntWalk.i64_in _ (by omega)]
    go_wp2_with fail
    refine (Copy_any tm nx kd to_ B bc p w1 H1.out.2.2.2 hpb).mono ?_
    rintro e w2 ⟨hb2, Ax, cx, rfl, hr2, _, _, hf2⟩
    unfold evC
    dsimp only
    have hs2 := hb2.size
    have hxp2 : ∀ ad, 0 < p.length → Ax = some ad → w.heap.size + 2 ≤ ad.block ∧ ad.block < w2.heap.size := by
      intro ad h0 hA
      obtain ⟨ad', hA', hlt, _⟩ := hr2.2 h0
      rw [hA] at hA'
      injection hA' with hA'
      have := hf2 ad h0 hA
      exact ⟨by omega, by rw [hA']; exact hlt⟩
    have HXP := Lib.hid hxp2
    have hbA : Below w2.heap.size w2 ((w2.alloc (.cells #[.int .i64 tm, .int .i64 nx, .int .i64 kd, .int .i64 to_, .slice Ax p.length cx] 32)).alloc (.cells #[.slice none 0 0, .int .i64 (nx + 1)] 24)) := ((Below.refl _ w2).alloc (Nat.le_refl _) _).alloc (by simp) _
    have hx0 := Blk.new (w2.alloc (.cells #[.int .i64 tm, .int .i64 nx, .int .i64 kd, .int .i64 to_, .slice Ax p.length cx] 32)) 24 #[.slice none 0 0, .int .i64 (nx + 1)]
    rw [World.size_alloc] at hx0
    have hszA : ((w2.alloc (.cells #[.int .i64 tm, .int .i64 nx, .int .i64 kd, .int .i64 to_, .slice Ax p.length cx] 32)).alloc (.cells #[.slice none 0 0, .int .i64 (nx + 1)] 24)).heap.size = w2.heap.size + 2 := by simp
    have H0 : Hid (AdI w A m c w2.heap.size nx tm kd to_ Ax cx p (insP ⟨tm, nx, kd, to_, p⟩ (l.map Ev.em) at_ 0) ((w2.alloc (.cells #[.int .i64 tm, .int .i64 nx, .int .i64 kd, .int .i64 to_, .slice Ax p.length cx] 32)).alloc (.cells #[.slice none 0 0, .int .i64 (nx + 1)] 24)) (.slice none 0 0) []) :=
      ⟨(H1.out.2.1.below hb2 (by omega)).below hbA (by omega), (H1.out.2.2.1.below hb2 (by omega)).below hbA (by omega), (Blk.new w2 32 #[.int .i64 tm, .int .i64 nx, .int .i64 kd, .int .i64 to_, .slice Ax p.length cx]).alloc _, hx0, OwnE.nil _ _, nofun, nofun, by rw [insP_gt (by omega)]; simp, H1.out.1.trans ((hb2.trans (hbA.mono hb2.size)).mono H1.out.1.size), by omega, hr2.up hbA⟩
    have hlt2 : w.heap.size < w2.heap.size := by omega
    have q2 : w2.cell? ⟨w.heap.size, 1, none⟩ = some (.int .i64 nx) := (H1.out.2.1.below hb2 (by omega)).cell 1
    clear hb2 hr2 hf2 hxp2 hbA hx0 hszA q0 q1
    go_wp2_with fail
    clear q2
    generalize ((w2.alloc (.cells #[.int .i64 tm, .int .i64 nx, .int .i64 kd, .int .i64 to_, .slice Ax p.length cx] 32)).alloc (.cells #[.slice none 0 0, .int .i64 (nx + 1)] 24)) = V0 at *
    go_loopw [16, 17] (fun u16 u17 V => ∃ (i : Nat) (v : Value) (es : List Ev), i ≤ m ∧ u17 = .int .i64 (i : Nat) ∧ u16 = .bool (decide (at_ < i)) ∧ AdI w A m c w2.heap.size nx tm kd to_ Ax cx p (insP ⟨tm, nx, kd, to_, p⟩ (l.map Ev.em) at_ i) V v es) (fun _ u17 _ => m + 1 - (intOf u17).toNat)
    case atStart => exact ⟨0, _, [], by omega, rfl, by rw [decide_eq_false (by omega)], H0.out⟩
    case round =>
      obtain ⟨i, v, es, hi, rfl, rfl, hW⟩ := hrel
      have HW := Lib.hid hW
      have hsr := hW.size
      have q0 : wr.cell? ⟨w.heap.size, 0, none⟩ = some (.slice A m c) := hW.q.cell 0
      have hlq : (insP ⟨tm, nx, kd, to_, p⟩ (l.map Ev.em) at_ i).length ≤ 8001 := by
        unfold insP
        split
        · rw [List.length_append, List.length_cons, List.length_drop, List.length_take, List.length_take]; omega
        · rw [List.length_take]; omega
      have hel : es.length ≤ 8001 := by
        have h := congrArg List.length hW.em
        rw [List.length_map] at h
        omega
      obtain ⟨A3, c3, rfl⟩ := hW.own.form
      have o0 : wr.cell? ⟨w2.heap.size + 1, 0, none⟩ = some (.slice A3 es.length c3) := hW.x.cell 0
      have y0 : wr.cell? ⟨w2.heap.size, 0, none⟩ = some (.int .i64 tm) := hW.y.cell 0
      have y1 : wr.cell? ⟨w2.heap.size, 1, none⟩ = some (.int .i64 nx) := hW.y.cell 1
      have y2 : wr.cell? ⟨w2.heap.size, 2, none⟩ = some (.int .i64 kd) := hW.y.cell 2
      have y3 : wr.cell? ⟨w2.heap.size, 3, none⟩ = some (.int .i64 to_) := hW.y.cell 3
      have y4 : wr.cell? ⟨w2.heap.size, 4, none⟩ = some (.slice Ax p.length cx) := hW.y.cell 4
      clear hW hlq
      by_cases hlt : i < m
      · have hil : i < l.length := by have := HX.out.2.1; omega
        have hlt' : (i : Int) < m := by omega
        obtain ⟨b, off, rfl, hbw, hc⟩ := HX.out.1.cells (by omega)
        obtain ⟨d0, d1, d2, d3, d4⟩ := hc i _ (List.getElem?_eq_getElem hil)
        have HS : Hid ((l.map Ev.em)[i]? = some l[i].em) := by
          show _ = _
          rw [List.getElem?_map, List.getElem?_eq_getElem hil]
          rfl
        have hxr := (HX.out.1.ev _ (List.getElem_mem hil))
        have hxp := HX.out.2.2.1 _ (List.getElem_mem hil)
        clear hc
        generalize hlk : l[i] = ev at *
        obtain ⟨xt, xn, xk, xo, xA, xc, xp⟩ := ev
        dsimp only at d0 d1 d2 d3 d4 hxp
        dsimp only [Ev.em] at HS
        have HDD := Lib.hid (And.intro d0 (And.intro d1 (And.intro d2 (And.intro d3 (And.intro d4 hxr)))))
        clear hlk hxr d1 d2 d3 d4
        replace d0 := (HW.out.bel.cell (p := ⟨b, off + i * 5, none⟩) hbw).trans d0
        rcases Nat.lt_trichotomy at_ i with hai | hai | hai
        · rw [decide_eq_true hai]
          go_upto_if 82 with (fail)
          go_cut [16] from 83 to 88 (fun s16 wx => ∃ (v : Value) (es2 : List Ev), s16 = .bool (decide (at_ ≤ i)) ∧ AdI w (some ⟨b, off, none⟩) m c w2.heap.size nx tm kd to_ Ax cx p (insQ ⟨tm, nx, kd, to_, p⟩ (l.map Ev.em) at_ i) wx v es2)
          case first =>
            go_wp2_with fail
            go_meet
            have h1 := HW.out
            exact ⟨_, es, by rw [decide_eq_true (by omega : at_ ≤ i)], h1.q, h1.z, h1.y, h1.x, h1.own, h1.new, h1.off, by rw [h1.em, insQ_lt (by omega)], h1.bel, h1.size, h1.pay⟩
          case rest =>
            obtain ⟨v, es, rfl, hW⟩ := hcut
            have HW := Lib.hid hW
            have hsr := hW.size
            have q0 : wc.cell? ⟨w.heap.size, 0, none⟩ = some (.slice (some ⟨b, off, none⟩) m c) := hW.q.cell 0
            have hlq : (insQ ⟨tm, nx, kd, to_, p⟩ (l.map Ev.em) at_ i).length ≤ 8001 := by
              unfold insQ
              split
              · rw [List.length_append, List.length_cons, List.length_drop, List.length_take, List.length_take]; omega
              · rw [List.length_take]; omega
            have hel : es.length ≤ 8001 := by
              have h := congrArg List.length hW.em
              rw [List.length_map] at h
              omega
            obtain ⟨A3, c3, rfl⟩ := hW.own.form
            have o0 : wc.cell? ⟨w2.heap.size + 1, 0, none⟩ = some (.slice A3 es.length c3) := hW.x.cell 0
            have d0 := (hW.bel.cell (p := ⟨b, off + i * 5, none⟩) hbw).trans HDD.out.1
            have d1 := (hW.bel.cell (p := ⟨b, off + i * 5 + 1, none⟩) hbw).trans HDD.out.2.1
            have d2 := (hW.bel.cell (p := ⟨b, off + i * 5 + 2, none⟩) hbw).trans HDD.out.2.2.1
            have d3 := (hW.bel.cell (p := ⟨b, off + i * 5 + 3, none⟩) hbw).trans HDD.out.2.2.2.1
            have d4 := (hW.bel.cell (p := ⟨b, off + i * 5 + 4, none⟩) hbw).trans HDD.out.2.2.2.2.1
            have HXR : Hid (Reads wc wc.heap.size 1 xA xp.length (u8s xp)) := Reads.up HDD.out.2.2.2.2.2 hW.bel
            have HO := Lib.hid (And.intro hW.own hW.new)
            have HBX := Lib.hid hW.x
            clear hW hlq
            go_upto_region 21 with fail
            refine wp_pan (Pc := fun _ _ _ => False) (fun _ _ _ h => h.elim) ?_
            refine wp_region_tail_lit (S := fun V => V.cell? ⟨w2.heap.size + 1, 0, none⟩ = some (.slice A3 es.length c3) ∧ V.cell? ⟨w.heap.size, 0, none⟩ = some (.slice (some ⟨b, off, none⟩) m c) ∧ V.cell? ⟨b, off + i * 5, none⟩ = some (.int .i64 xt) ∧ V.cell? ⟨b, off + i * 5 + 1, none⟩ = some (.int .i64 xn) ∧ V.cell? ⟨b, off + i * 5 + 2, none⟩ = some (.int .i64 xk) ∧ V.cell? ⟨b, off + i * 5 + 3, none⟩ = some (.int .i64 xo) ∧ V.cell? ⟨b, off + i * 5 + 4, none⟩ = some (.slice xA xp.length xc)) 10 (by kernel_rfl) (by kernel_rfl) ⟨o0, q0, d0, d1, d2, d3, d4⟩ (fun hHeld => ?_)
            simp only [List.take, List.drop]
            refine wpAnyH_take (i := 0) (oi := _) (v := ?_) rfl (by kernel_rfl) (by kernel_rfl) (by kernel_rfl) (fun _ _ _ h => h) (Or.inl ⟨by rfl, ?_⟩) (by assumption) ?_
            rotate_left 1
            · (intro w9 hS9; (try dsimp only at hS9); go_simp <;> with_reducible rfl)
            try simp only [List.getElem_toArray, List.getElem_cons_succ, List.getElem_cons_zero, Act.put, List.setIfInBounds_toArray, List.set_cons_zero, List.set_cons_succ]
            refine wpAnyH_take (i := 1) (oi := _) (v := ?_) rfl (by kernel_rfl) (by kernel_rfl) (by kernel_rfl) (fun _ _ _ h => h) (Or.inl ⟨by rfl, ?_⟩) (by assumption) ?_
            rotate_left 1
            · (intro w9 hS9; (try dsimp only at hS9); go_simp <;> with_reducible rfl)
            try simp only [List.getElem_toArray, List.getElem_cons_succ, List.getElem_cons_zero, Act.put, List.setIfInBounds_toArray, List.set_cons_zero, List.set_cons_succ]
            refine wpAnyH_take (i := 2) (oi := _) (v := ?_) rfl (by kernel_rfl) (by kernel_rfl) (by kernel_rfl) (fun _ _ _ h => h) (Or.inl ⟨by rfl, ?_⟩) (by assumption) ?_
            rotate_left 1
            · (intro w9 hS9; (try dsimp only at hS9); go_simp <;> with_reducible rfl)
            try simp only [List.getElem_toArray, List.getElem_cons_succ, List.getElem_cons_zero, Act.put, List.setIfInBounds_toArray, List.set_cons_zero, List.set_cons_succ]
            refine wpAnyH_take (i := 3) (oi := _) (v := ?_) rfl (by kernel_rfl) (by kernel_rfl) (by kernel_rfl) (fun _ _ _ h => h) (Or.inl ⟨by rfl, ?_⟩) (by assumption) ?_
            rotate_left 1
            · (intro w9 hS9; (try dsimp only at hS9); go_simp <;> with_reducible rfl)
            try simp only [List.getElem_toArray, List.getElem_cons_succ, List.getElem_cons_zero, Act.put, List.setIfInBounds_toArray, List.set_cons_zero, List.set_cons_succ]
            refine wpAnyH_take (i := 4) (oi := _) (v := ?_) rfl (by kernel_rfl) (by kernel_rfl) (by kernel_rfl) (fun _ _ _ h => h) (Or.inl ⟨by rfl, ?_⟩) (by assumption) ?_
            rotate_left 1
            · (intro w9 hS9; (try dsimp only at hS9); go_simp <;> with_reducible rfl)
            try simp only [List.getElem_toArray, List.getElem_cons_succ, List.getElem_cons_zero, Act.put, List.setIfInBounds_toArray, List.set_cons_zero, List.set_cons_succ]
            refine wpAnyH_take (i := 5) (oi := _) (v := ?_) rfl (by kernel_rfl) (by kernel_rfl) (by kernel_rfl) (fun _ _ _ h => h) (Or.inl ⟨by rfl, ?_⟩) (by assumption) ?_
            rotate_left 1
            · (intro w9 hS9; (try dsimp only at hS9); go_simp <;> with_reducible rfl)
            try simp only [List.getElem_toArray, List.getElem_cons_succ, List.getElem_cons_zero, Act.put, List.setIfInBounds_toArray, List.set_cons_zero, List.set_cons_succ]
            refine wpAnyH_take (i := 6) (oi := _) (v := ?_) rfl (by kernel_rfl) (by kernel_rfl) (by kernel_rfl) (fun _ _ _ h => h) (Or.inl ⟨by rfl, ?_⟩) (by assumption) ?_
            rotate_left 1
            · (intro w9 hS9; (try dsimp only at hS9); go_simp <;> with_reducible rfl)
            try simp only [List.getElem_toArray, List.getElem_cons_succ, List.getElem_cons_zero, Act.put, List.setIfInBounds_toArray, List.set_cons_zero, List.set_cons_succ]
            refine wpAnyH_ready (rs := [7]) (by kernel_rfl) (by simp) ?_
            refine AllReadyH.cons (o := _) rfl (fun K hK => ?_) AllReadyH.nil
            try simp only [List.getElem_toArray, List.getElem_cons_succ, List.getElem_cons_zero]
            go_simp
            refine (Copy_any xt xn xk xo xA xc xp _ (Reads.drew HXR.out) hxp).mono ?_
            rintro e wq ⟨hb1, A2, c2, rfl, hr2, _, _, hf2⟩
            unfold evC
            dsimp only
            have hbr1 : Below (w2.heap.size + 2) wc wq := ((Below.refl (w2.heap.size + 2) wc).drew).trans (hb1.mono (by have := hsr; exact this))
            have hs1 : wc.heap.size ≤ wq.heap.size := hb1.size
            have hbr1' : Below wc.heap.size wc wq := (Below.refl _ wc).drew.trans hb1
            go_wp2_with fail
            refine hK.out _ _ ⟨(hbr1.cell (p := ⟨w2.heap.size + 1, 0, none⟩) (by dsimp only; omega)).trans o0, (hbr1.cell (p := ⟨w.heap.size, 0, none⟩) (by dsimp only; omega)).trans q0, (hbr1.cell (p := ⟨b, off + i * 5, none⟩) (by dsimp only; omega)).trans d0, (hbr1.cell (p := ⟨b, off + i * 5 + 1, none⟩) (by dsimp only; omega)).trans d1, (hbr1.cell (p := ⟨b, off + i * 5 + 2, none⟩) (by dsimp only; omega)).trans d2, (hbr1.cell (p := ⟨b, off + i * 5 + 3, none⟩) (by dsimp only; omega)).trans d3, (hbr1.cell (p := ⟨b, off + i * 5 + 4, none⟩) (by dsimp only; omega)).trans d4⟩ (fun hHeld => ?_)
            clear hK K
            try simp only [List.getElem_toArray, List.getElem_cons_succ, List.getElem_cons_zero, Act.put, List.setIfInBounds_toArray, List.set_cons_zero, List.set_cons_succ]
            refine wpAnyH_ready (rs := [8]) (by kernel_rfl) (by simp) ?_
            refine AllReadyH.cons (o := _) rfl (fun K hK => ?_) AllReadyH.nil
            try simp only [List.getElem_toArray, List.getElem_cons_succ, List.getElem_cons_zero]
            go_simp
            have hbr2 : Below (w2.heap.size + 2) wc (wq.alloc (.cells #[.int .i64 xt, .int .i64 xn, .int .i64 xk, .int .i64 xo, .slice A2 xp.length c2] 32)) := hbr1.alloc (by omega) _
            have hE2 := (HO.out.1.below hbr1').below ((Below.refl _ wq).alloc (Nat.le_refl _) (.cells #[.int .i64 xt, .int .i64 xn, .int .i64 xk, .int .i64 xo, .slice A2 xp.length c2] 32))
            have her := elem_reads wq #[.int .i64 xt, .int .i64 xn, .int .i64 xk, .int .i64 xo, .slice A2 xp.length c2] 32
            have hx2 : EvR (wq.alloc (.cells #[.int .i64 xt, .int .i64 xn, .int .i64 xk, .int .i64 xo, .slice A2 xp.length c2] 32)) ⟨xt, xn, xk, xo, A2, c2, xp⟩ := Reads.up hr2 ((Below.refl _ wq).alloc (Nat.le_refl _) _)
            have hs2 : (wq.alloc (.cells #[.int .i64 xt, .int .i64 xn, .int .i64 xk, .int .i64 xo, .slice A2 xp.length c2] 32)).heap.size = wq.heap.size + 1 := by simp
            have hbr2' : Below wc.heap.size wc (wq.alloc (.cells #[.int .i64 xt, .int .i64 xn, .int .i64 xk, .int .i64 xo, .slice A2 xp.length c2] 32)) := hbr1'.alloc hbr1'.size _
            refine hK.out _ _ ⟨(hbr2.cell (p := ⟨w2.heap.size + 1, 0, none⟩) (by dsimp only; omega)).trans o0, (hbr2.cell (p := ⟨w.heap.size, 0, none⟩) (by dsimp only; omega)).trans q0, (hbr2.cell (p := ⟨b, off + i * 5, none⟩) (by dsimp only; omega)).trans d0, (hbr2.cell (p := ⟨b, off + i * 5 + 1, none⟩) (by dsimp only; omega)).trans d1, (hbr2.cell (p := ⟨b, off + i * 5 + 2, none⟩) (by dsimp only; omega)).trans d2, (hbr2.cell (p := ⟨b, off + i * 5 + 3, none⟩) (by dsimp only; omega)).trans d3, (hbr2.cell (p := ⟨b, off + i * 5 + 4, none⟩) (by dsimp only; omega)).trans d4⟩ (fun hHeld => ?_)
            clear hK K
            try simp only [List.getElem_toArray, List.getElem_cons_succ, List.getElem_cons_zero, Act.put, List.setIfInBounds_toArray, List.set_cons_zero, List.set_cons_succ]
            generalize (wq.alloc (.cells #[.int .i64 xt, .int .i64 xn, .int .i64 xk, .int .i64 xo, .slice A2 xp.length c2] 32)) = w9 at *
            refine wpAnyH_ready (rs := [9]) (by kernel_rfl) (by simp) ?_
            refine AllReadyH.cons (o := _) rfl (fun K hK => ?_) AllReadyH.nil
            try simp only [List.getElem_toArray, List.getElem_cons_succ, List.getElem_cons_zero]
            rw [if_pos (show Region.wanted _ _ = true from rfl)]
            refine wp_append_any w9 (.tmp 90) (.tmp 97) _ (by rfl) (w2.heap.size + 2) 32 i2 _ 5 56 Try.underlying22 HI.out.1 HI.out.2.1 HI.out.2.2.1 HI.out.2.2.2 rfl (by omega) _ es.length (es.flatMap encEv) (by rfl) hE2.own (wq.heap.size + 1) (some ⟨wq.heap.size, 0, none⟩) 1 1 (encEv ⟨xt, xn, xk, xo, A2, c2, xp⟩) (by rfl) her (by simp [encEv, Value.oneCell']) (by simp only [maxLen]; omega) (by omega) (by omega) ?_
            intro v3 w3 ho3 hg3 hv3
            obtain ⟨A3', c3', rfl, _, _, _⟩ := own_slice ho3
            have hbr3 : Below (w2.heap.size + 2) wc w3 := hbr2.grown hg3 (by omega) (own_block_ge hE2.own)
            have hE3 := OwnE.push (x := ⟨xt, xn, xk, xo, A2, c2, xp⟩) hE2 ho3 hg3 hv3 hx2 (fun ad h0 hA e => by have h1 := own_lt HO.out.1.own _ e; have h2 := hf2 ad h0 hA; have h3 : wc.drew.heap.size = wc.heap.size := rfl; omega)
            have hN3 : NewP (w.heap.size + 2) (es ++ [⟨xt, xn, xk, xo, A2, c2, xp⟩]) := by
              intro e he ad h0 hA
              rcases List.mem_append.1 he with he | he
              · exact HO.out.2 e he ad h0 hA
              · rw [List.mem_singleton] at he
                subst he
                have h2 := hf2 ad h0 hA
                have h3 : wc.drew.heap.size = wc.heap.size := rfl
                omega
            refine hK.out _ _ ⟨(hbr3.cell (p := ⟨w2.heap.size + 1, 0, none⟩) (by dsimp only; omega)).trans o0, (hbr3.cell (p := ⟨w.heap.size, 0, none⟩) (by dsimp only; omega)).trans q0, (hbr3.cell (p := ⟨b, off + i * 5, none⟩) (by dsimp only; omega)).trans d0, (hbr3.cell (p := ⟨b, off + i * 5 + 1, none⟩) (by dsimp only; omega)).trans d1, (hbr3.cell (p := ⟨b, off + i * 5 + 2, none⟩) (by dsimp only; omega)).trans d2, (hbr3.cell (p := ⟨b, off + i * 5 + 3, none⟩) (by dsimp only; omega)).trans d3, (hbr3.cell (p := ⟨b, off + i * 5 + 4, none⟩) (by dsimp only; omega)).trans d4⟩ (fun hHeld => ?_)
            clear hK K
            try simp only [List.getElem_toArray, List.getElem_cons_succ, List.getElem_cons_zero, Act.put, List.setIfInBounds_toArray, List.set_cons_zero, List.set_cons_succ]
            refine wpAnyH_done (by kernel_rfl) ?_ _
            have o3 : w3.cell? ⟨w2.heap.size + 1, 0, none⟩ = some (.slice A3 es.length c3) := (hbr3.cell (p := ⟨w2.heap.size + 1, 0, none⟩) (by dsimp only; omega)).trans o0
            have z3 : w3.frozen? ⟨w2.heap.size + 1, 0, none⟩ = false := (HBX.out.below hbr3 (by omega)).frozen 0
            refine tailQ_step rfl ?_
            go_wp2_with fail
            refine tailQ_step rfl ?_
            go_wp2_with fail
            refine tailQ_nil (panQ_normal ?_)
            go_wp2_with fail
            go_roundw
            case rel =>
              have h1 := HW.out
              have hRA : EvR w9 ⟨tm, nx, kd, to_, Ax, cx, p⟩ := Reads.up h1.pay hbr2'
              have hfar : ∀ ad, 0 < p.length → Ax = some ad → (Value.slice A3 es.length c3).ownBlock ≠ some ad.block := by
                intro ad h0 hA e9
                have h2 := own_block_ge h1.own.own _ e9
                have h3 := HXP.out ad h0 hA
                omega
              have hP3 := (evR_grown (e := ⟨tm, nx, kd, to_, Ax, cx, p⟩) hRA hfar hg3)
              have hP4 := reads_far2 (g := w2.heap.size + 1) (i := 0) hP3 (fun ad h0 hA => by have h3 := HXP.out ad h0 hA; omega) (.slice A3' (es.length + 1) c3')
              have hoff : ∀ e ∈ es ++ [(⟨xt, xn, xk, xo, A2, c2, xp⟩ : Ev)], ∀ ad, 0 < e.p.length → e.A = some ad → ad.block ≠ w2.heap.size + 1 := by
                intro e he ad h0 hA
                rcases List.mem_append.1 he with he | he
                · exact h1.off e he ad h0 hA
                · rw [List.mem_singleton] at he
                  subst he
                  have h2 := hf2 ad h0 hA
                  have h3 : wc.drew.heap.size = wc.heap.size := rfl
                  omega
              refine ⟨i + 1, _, es ++ [⟨xt, xn, xk, xo, A2, c2, xp⟩], by omega, by go_num, by rw [show decide (at_ < i + 1) = decide (at_ ≤ i) from decide_eq_decide.2 (by omega)], (h1.q.below hbr3 (by omega)).far (by dsimp only; omega) _, (h1.z.below hbr3 (by omega)).far (by dsimp only; omega) _, (h1.y.below hbr3 (by omega)).far (by dsimp only; omega) _, (HBX.out.below hbr3 (by omega)).set_ 0 _, hE3.far2 (by dsimp only; omega) hoff _, hN3, hoff, ?_, (h1.bel.trans (hbr3.mono (by omega))).setCell (by dsimp only; omega) _, by have := hbr3.size; simp; omega, hP4⟩
              rw [List.map_append, h1.em, insP_next HS.out]
              rfl
            case measure => simp [intOf]; omega
        · have hx1 : tm < xt := by
            have h := HQ.out.2.2 _ (by rw [hai]; exact HS.out)
            unfold laterB at h
            simpa using h
          rw [decide_eq_false (by omega : ¬ at_ < i)]
          have HIE := Lib.hid hai
          clear hai
          go_upto_if 82 with (fail)
          go_cut [16] from 83 to 88 (fun s16 wx => ∃ (v : Value) (es2 : List Ev), s16 = .bool (decide (at_ ≤ i)) ∧ AdI w (some ⟨b, off, none⟩) m c w2.heap.size nx tm kd to_ Ax cx p (insQ ⟨tm, nx, kd, to_, p⟩ (l.map Ev.em) at_ i) wx v es2)
          case first =>
            have hxa : Below wr.heap.size wr (wr.alloc (.cells #[.int .i64 tm, .int .i64 nx, .int .i64 kd, .int .i64 to_, .slice Ax p.length cx] 32)) := (Below.refl _ wr).alloc (Nat.le_refl _) _
            have hEA := HW.out.own.below hxa
            have hRA : EvR (wr.alloc (.cells #[.int .i64 tm, .int .i64 nx, .int .i64 kd, .int .i64 to_, .slice Ax p.length cx] 32)) ⟨tm, nx, kd, to_, Ax, cx, p⟩ := Reads.up HW.out.pay hxa
            have hsa : (wr.alloc (.cells #[.int .i64 tm, .int .i64 nx, .int .i64 kd, .int .i64 to_, .slice Ax p.length cx] 32)).heap.size = wr.heap.size + 1 := by simp
            have HA := Lib.hid (And.intro hxa (And.intro hEA (And.intro hRA (elem_reads wr #[.int .i64 tm, .int .i64 nx, .int .i64 kd, .int .i64 to_, .slice Ax p.length cx] 32))))
            clear hxa hEA hRA
            go_wp2_with (at_builtin; go_must (refine wpList_append_any (wr.alloc (.cells #[.int .i64 tm, .int .i64 nx, .int .i64 kd, .int .i64 to_, .slice Ax p.length cx] 32)) rfl (.tmp 84) (.tmp 86) _ rfl (w2.heap.size + 2) 32 i2 _ 5 56 Try.underlying22 HI.out.1 HI.out.2.1 HI.out.2.2.1 HI.out.2.2.2 rfl (by omega) (.slice A3 es.length c3) es.length (es.flatMap encEv) rfl HA.out.2.1.own (wr.heap.size + 1) (some ⟨wr.heap.size, 0, none⟩) 1 1 (encEv ⟨tm, nx, kd, to_, Ax, cx, p⟩) rfl HA.out.2.2.2 (by simp [encEv, Value.oneCell']) (by simp only [maxLen]; omega) (by omega) (by omega) ?_; intro v3 w3 ho3 hg3 hv3; obtain ⟨A3', c3', rfl, _, _, _⟩ := own_slice ho3; have hb3 : Below (w2.heap.size + 2) wr w3 := (HA.out.1.mono hsr).grown hg3 (by omega) (own_block_ge HW.out.own.own); have o3 : w3.cell? ⟨w2.heap.size + 1, 0, none⟩ = some (.slice A3 es.length c3) := (HW.out.x.below hb3 (by omega)).cell 0; have z3 : w3.frozen? ⟨w2.heap.size + 1, 0, none⟩ = false := (HW.out.x.below hb3 (by omega)).frozen 0; have HG := Lib.hid (And.intro ho3 (And.intro hg3 (And.intro hv3 hb3))); clear ho3 hg3 hv3 hb3))
            go_meet
            have h1 := HW.out
            obtain ⟨ho3, hg3, hv3, hb3⟩ := HG.out
            obtain ⟨hxa, hEA, hRA, _⟩ := HA.out
            have hfar : ∀ ad, 0 < p.length → Ax = some ad → (Value.slice A3 es.length c3).ownBlock ≠ some ad.block := by
              intro ad h0 hA e9
              have h2 := own_block_ge h1.own.own _ e9
              have h3 := HXP.out ad h0 hA
              omega
            have hE3 := OwnE.push (x := ⟨tm, nx, kd, to_, Ax, cx, p⟩) hEA ho3 hg3 hv3 hRA hfar
            have hP3 := (evR_grown (e := ⟨tm, nx, kd, to_, Ax, cx, p⟩) hRA hfar hg3)
            have hoff : ∀ e ∈ es ++ [(⟨tm, nx, kd, to_, Ax, cx, p⟩ : Ev)], ∀ ad, 0 < e.p.length → e.A = some ad → ad.block ≠ w2.heap.size + 1 := by
              intro e he ad h0 hA
              rcases List.mem_append.1 he with he | he
              · exact h1.off e he ad h0 hA
              · rw [List.mem_singleton] at he
                subst he
                have h3 := HXP.out ad h0 hA
                omega
            have hnew : NewP (w.heap.size + 2) (es ++ [(⟨tm, nx, kd, to_, Ax, cx, p⟩ : Ev)]) := by
              intro e he ad h0 hA
              rcases List.mem_append.1 he with he | he
              · exact h1.new e he ad h0 hA
              · rw [List.mem_singleton] at he
                subst he
                have h3 := HXP.out ad h0 hA
                omega
            have hP4 := reads_far2 (g := w2.heap.size + 1) (i := 0) hP3 (fun ad h0 hA => by have h3 := HXP.out ad h0 hA; omega) (.slice A3' (es.length + 1) c3')
            exact ⟨_, es ++ [(⟨tm, nx, kd, to_, Ax, cx, p⟩ : Ev)], by rw [decide_eq_true (by have := HIE.out; omega : at_ ≤ i)], ⟨(h1.q.below hb3 (by omega)).far (by dsimp only; omega) _, (h1.z.below hb3 (by omega)).far (by dsimp only; omega) _, (h1.y.below hb3 (by omega)).far (by dsimp only; omega) _, (h1.x.below hb3 (by omega)).set_ 0 _, hE3.far2 (by dsimp only; omega) hoff _, hnew, hoff, by rw [List.map_append, h1.em, show insQ ⟨tm, nx, kd, to_, p⟩ (l.map Ev.em) at_ i = insP ⟨tm, nx, kd, to_, p⟩ (l.map Ev.em) at_ i ++ [⟨tm, nx, kd, to_, p⟩] by rw [← HIE.out]; exact insQ_eq _ _ _]; rfl, (h1.bel.trans (hb3.mono (by omega))).setCell (by dsimp only; omega) _, by have := hb3.size; simp; omega, hP4⟩⟩

          case rest =>
            obtain ⟨v, es, rfl, hW⟩ := hcut
            have HW := Lib.hid hW
            have hsr := hW.size
            have q0 : wc.cell? ⟨w.heap.size, 0, none⟩ = some (.slice (some ⟨b, off, none⟩) m c) := hW.q.cell 0
            have hlq : (insQ ⟨tm, nx, kd, to_, p⟩ (l.map Ev.em) at_ i).length ≤ 8001 := by
              unfold insQ
              split
              · rw [List.length_append, List.length_cons, List.length_drop, List.length_take, List.length_take]; omega
              · rw [List.length_take]; omega
            have hel : es.length ≤ 8001 := by
              have h := congrArg List.length hW.em
              rw [List.length_map] at h
              omega
            obtain ⟨A3, c3, rfl⟩ := hW.own.form
            have o0 : wc.cell? ⟨w2.heap.size + 1, 0, none⟩ = some (.slice A3 es.length c3) := hW.x.cell 0
            have d0 := (hW.bel.cell (p := ⟨b, off + i * 5, none⟩) hbw).trans HDD.out.1
            have d1 := (hW.bel.cell (p := ⟨b, off + i * 5 + 1, none⟩) hbw).trans HDD.out.2.1
            have d2 := (hW.bel.cell (p := ⟨b, off + i * 5 + 2, none⟩) hbw).trans HDD.out.2.2.1
            have d3 := (hW.bel.cell (p := ⟨b, off + i * 5 + 3, none⟩) hbw).trans HDD.out.2.2.2.1
            have d4 := (hW.bel.cell (p := ⟨b, off + i * 5 + 4, none⟩) hbw).trans HDD.out.2.2.2.2.1
            have HXR : Hid (Reads wc wc.heap.size 1 xA xp.length (u8s xp)) := Reads.up HDD.out.2.2.2.2.2 hW.bel
            have HO := Lib.hid (And.intro hW.own hW.new)
            have HBX := Lib.hid hW.x
            clear hW hlq
            go_upto_region 21 with fail
            refine wp_pan (Pc := fun _ _ _ => False) (fun _ _ _ h => h.elim) ?_
            refine wp_region_tail_lit (S := fun V => V.cell? ⟨w2.heap.size + 1, 0, none⟩ = some (.slice A3 es.length c3) ∧ V.cell? ⟨w.heap.size, 0, none⟩ = some (.slice (some ⟨b, off, none⟩) m c) ∧ V.cell? ⟨b, off + i * 5, none⟩ = some (.int .i64 xt) ∧ V.cell? ⟨b, off + i * 5 + 1, none⟩ = some (.int .i64 xn) ∧ V.cell? ⟨b, off + i * 5 + 2, none⟩ = some (.int .i64 xk) ∧ V.cell? ⟨b, off + i * 5 + 3, none⟩ = some (.int .i64 xo) ∧ V.cell? ⟨b, off + i * 5 + 4, none⟩ = some (.slice xA xp.length xc)) 10 (by kernel_rfl) (by kernel_rfl) ⟨o0, q0, d0, d1, d2, d3, d4⟩ (fun hHeld => ?_)
            simp only [List.take, List.drop]
            refine wpAnyH_take (i := 0) (oi := _) (v := ?_) rfl (by kernel_rfl) (by kernel_rfl) (by kernel_rfl) (fun _ _ _ h => h) (Or.inl ⟨by rfl, ?_⟩) (by assumption) ?_
            rotate_left 1
            · (intro w9 hS9; (try dsimp only at hS9); go_simp <;> with_reducible rfl)
            try simp only [List.getElem_toArray, List.getElem_cons_succ, List.getElem_cons_zero, Act.put, List.setIfInBounds_toArray, List.set_cons_zero, List.set_cons_succ]
            refine wpAnyH_take (i := 1) (oi := _) (v := ?_) rfl (by kernel_rfl) (by kernel_rfl) (by kernel_rfl) (fun _ _ _ h => h) (Or.inl ⟨by rfl, ?_⟩) (by assumption) ?_
            rotate_left 1
            · (intro w9 hS9; (try dsimp only at hS9); go_simp <;> with_reducible rfl)
            try simp only [List.getElem_toArray, List.getElem_cons_succ, List.getElem_cons_zero, Act.put, List.setIfInBounds_toArray, List.set_cons_zero, List.set_cons_succ]
            refine wpAnyH_take (i := 2) (oi := _) (v := ?_) rfl (by kernel_rfl) (by kernel_rfl) (by kernel_rfl) (fun _ _ _ h => h) (Or.inl ⟨by rfl, ?_⟩) (by assumption) ?_
            rotate_left 1
            · (intro w9 hS9; (try dsimp only at hS9); go_simp <;> with_reducible rfl)
            try simp only [List.getElem_toArray, List.getElem_cons_succ, List.getElem_cons_zero, Act.put, List.setIfInBounds_toArray, List.set_cons_zero, List.set_cons_succ]
            refine wpAnyH_take (i := 3) (oi := _) (v := ?_) rfl (by kernel_rfl) (by kernel_rfl) (by kernel_rfl) (fun _ _ _ h => h) (Or.inl ⟨by rfl, ?_⟩) (by assumption) ?_
            rotate_left 1
            · (intro w9 hS9; (try dsimp only at hS9); go_simp <;> with_reducible rfl)
            try simp only [List.getElem_toArray, List.getElem_cons_succ, List.getElem_cons_zero, Act.put, List.setIfInBounds_toArray, List.set_cons_zero, List.set_cons_succ]
            refine wpAnyH_take (i := 4) (oi := _) (v := ?_) rfl (by kernel_rfl) (by kernel_rfl) (by kernel_rfl) (fun _ _ _ h => h) (Or.inl ⟨by rfl, ?_⟩) (by assumption) ?_
            rotate_left 1
            · (intro w9 hS9; (try dsimp only at hS9); go_simp <;> with_reducible rfl)
            try simp only [List.getElem_toArray, List.getElem_cons_succ, List.getElem_cons_zero, Act.put, List.setIfInBounds_toArray, List.set_cons_zero, List.set_cons_succ]
            refine wpAnyH_take (i := 5) (oi := _) (v := ?_) rfl (by kernel_rfl) (by kernel_rfl) (by kernel_rfl) (fun _ _ _ h => h) (Or.inl ⟨by rfl, ?_⟩) (by assumption) ?_
            rotate_left 1
            · (intro w9 hS9; (try dsimp only at hS9); go_simp <;> with_reducible rfl)
            try simp only [List.getElem_toArray, List.getElem_cons_succ, List.getElem_cons_zero, Act.put, List.setIfInBounds_toArray, List.set_cons_zero, List.set_cons_succ]
            refine wpAnyH_take (i := 6) (oi := _) (v := ?_) rfl (by kernel_rfl) (by kernel_rfl) (by kernel_rfl) (fun _ _ _ h => h) (Or.inl ⟨by rfl, ?_⟩) (by assumption) ?_
            rotate_left 1
            · (intro w9 hS9; (try dsimp only at hS9); go_simp <;> with_reducible rfl)
            try simp only [List.getElem_toArray, List.getElem_cons_succ, List.getElem_cons_zero, Act.put, List.setIfInBounds_toArray, List.set_cons_zero, List.set_cons_succ]
            refine wpAnyH_ready (rs := [7]) (by kernel_rfl) (by simp) ?_
            refine AllReadyH.cons (o := _) rfl (fun K hK => ?_) AllReadyH.nil
            try simp only [List.getElem_toArray, List.getElem_cons_succ, List.getElem_cons_zero]
            go_simp
            refine (Copy_any xt xn xk xo xA xc xp _ (Reads.drew HXR.out) hxp).mono ?_
            rintro e wq ⟨hb1, A2, c2, rfl, hr2, _, _, hf2⟩
            unfold evC
            dsimp only
            have hbr1 : Below (w2.heap.size + 2) wc wq := ((Below.refl (w2.heap.size + 2) wc).drew).trans (hb1.mono (by have := hsr; exact this))
            have hs1 : wc.heap.size ≤ wq.heap.size := hb1.size
            have hbr1' : Below wc.heap.size wc wq := (Below.refl _ wc).drew.trans hb1
            go_wp2_with fail
            refine hK.out _ _ ⟨(hbr1.cell (p := ⟨w2.heap.size + 1, 0, none⟩) (by dsimp only; omega)).trans o0, (hbr1.cell (p := ⟨w.heap.size, 0, none⟩) (by dsimp only; omega)).trans q0, (hbr1.cell (p := ⟨b, off + i * 5, none⟩) (by dsimp only; omega)).trans d0, (hbr1.cell (p := ⟨b, off + i * 5 + 1, none⟩) (by dsimp only; omega)).trans d1, (hbr1.cell (p := ⟨b, off + i * 5 + 2, none⟩) (by dsimp only; omega)).trans d2, (hbr1.cell (p := ⟨b, off + i * 5 + 3, none⟩) (by dsimp only; omega)).trans d3, (hbr1.cell (p := ⟨b, off + i * 5 + 4, none⟩) (by dsimp only; omega)).trans d4⟩ (fun hHeld => ?_)
            clear hK K
            try simp only [List.getElem_toArray, List.getElem_cons_succ, List.getElem_cons_zero, Act.put, List.setIfInBounds_toArray, List.set_cons_zero, List.set_cons_succ]
            refine wpAnyH_ready (rs := [8]) (by kernel_rfl) (by simp) ?_
            refine AllReadyH.cons (o := _) rfl (fun K hK => ?_) AllReadyH.nil
            try simp only [List.getElem_toArray, List.getElem_cons_succ, List.getElem_cons_zero]
            go_simp
            have hbr2 : Below (w2.heap.size + 2) wc (wq.alloc (.cells #[.int .i64 xt, .int .i64 xn, .int .i64 xk, .int .i64 xo, .slice A2 xp.length c2] 32)) := hbr1.alloc (by omega) _
            have hE2 := (HO.out.1.below hbr1').below ((Below.refl _ wq).alloc (Nat.le_refl _) (.cells #[.int .i64 xt, .int .i64 xn, .int .i64 xk, .int .i64 xo, .slice A2 xp.length c2] 32))
            have her := elem_reads wq #[.int .i64 xt, .int .i64 xn, .int .i64 xk, .int .i64 xo, .slice A2 xp.length c2] 32
            have hx2 : EvR (wq.alloc (.cells #[.int .i64 xt, .int .i64 xn, .int .i64 xk, .int .i64 xo, .slice A2 xp.length c2] 32)) ⟨xt, xn, xk, xo, A2, c2, xp⟩ := Reads.up hr2 ((Below.refl _ wq).alloc (Nat.le_refl _) _)
            have hs2 : (wq.alloc (.cells #[.int .i64 xt, .int .i64 xn, .int .i64 xk, .int .i64 xo, .slice A2 xp.length c2] 32)).heap.size = wq.heap.size + 1 := by simp
            have hbr2' : Below wc.heap.size wc (wq.alloc (.cells #[.int .i64 xt, .int .i64 xn, .int .i64 xk, .int .i64 xo, .slice A2 xp.length c2] 32)) := hbr1'.alloc hbr1'.size _
            refine hK.out _ _ ⟨(hbr2.cell (p := ⟨w2.heap.size + 1, 0, none⟩) (by dsimp only; omega)).trans o0, (hbr2.cell (p := ⟨w.heap.size, 0, none⟩) (by dsimp only; omega)).trans q0, (hbr2.cell (p := ⟨b, off + i * 5, none⟩) (by dsimp only; omega)).trans d0, (hbr2.cell (p := ⟨b, off + i * 5 + 1, none⟩) (by dsimp only; omega)).trans d1, (hbr2.cell (p := ⟨b, off + i * 5 + 2, none⟩) (by dsimp only; omega)).trans d2, (hbr2.cell (p := ⟨b, off + i * 5 + 3, none⟩) (by dsimp only; omega)).trans d3, (hbr2.cell (p := ⟨b, off + i * 5 + 4, none⟩) (by dsimp only; omega)).trans d4⟩ (fun hHeld => ?_)
            clear hK K
            try simp only [List.getElem_toArray, List.getElem_cons_succ, List.getElem_cons_zero, Act.put, List.setIfInBounds_toArray, List.set_cons_zero, List.set_cons_succ]
            generalize (wq.alloc (.cells #[.int .i64 xt, .int .i64 xn, .int .i64 xk, .int .i64 xo, .slice A2 xp.length c2] 32)) = w9 at *
            refine wpAnyH_ready (rs := [9]) (by kernel_rfl) (by simp) ?_
            refine AllReadyH.cons (o := _) rfl (fun K hK => ?_) AllReadyH.nil
            try simp only [List.getElem_toArray, List.getElem_cons_succ, List.getElem_cons_zero]
            rw [if_pos (show Region.wanted _ _ = true from rfl)]
            refine wp_append_any w9 (.tmp 90) (.tmp 97) _ (by rfl) (w2.heap.size + 2) 32 i2 _ 5 56 Try.underlying22 HI.out.1 HI.out.2.1 HI.out.2.2.1 HI.out.2.2.2 rfl (by omega) _ es.length (es.flatMap encEv) (by rfl) hE2.own (wq.heap.size + 1) (some ⟨wq.heap.size, 0, none⟩) 1 1 (encEv ⟨xt, xn, xk, xo, A2, c2, xp⟩) (by rfl) her (by simp [encEv, Value.oneCell']) (by simp only [maxLen]; omega) (by omega) (by omega) ?_
            intro v3 w3 ho3 hg3 hv3
            obtain ⟨A3', c3', rfl, _, _, _⟩ := own_slice ho3
            have hbr3 : Below (w2.heap.size + 2) wc w3 := hbr2.grown hg3 (by omega) (own_block_ge hE2.own)
            have hE3 := OwnE.push (x := ⟨xt, xn, xk, xo, A2, c2, xp⟩) hE2 ho3 hg3 hv3 hx2 (fun ad h0 hA e => by have h1 := own_lt HO.out.1.own _ e; have h2 := hf2 ad h0 hA; have h3 : wc.drew.heap.size = wc.heap.size := rfl; omega)
            have hN3 : NewP (w.heap.size + 2) (es ++ [⟨xt, xn, xk, xo, A2, c2, xp⟩]) := by
              intro e he ad h0 hA
              rcases List.mem_append.1 he with he | he
              · exact HO.out.2 e he ad h0 hA
              · rw [List.mem_singleton] at he
                subst he
                have h2 := hf2 ad h0 hA
                have h3 : wc.drew.heap.size = wc.heap.size := rfl
                omega
            refine hK.out _ _ ⟨(hbr3.cell (p := ⟨w2.heap.size + 1, 0, none⟩) (by dsimp only; omega)).trans o0, (hbr3.cell (p := ⟨w.heap.size, 0, none⟩) (by dsimp only; omega)).trans q0, (hbr3.cell (p := ⟨b, off + i * 5, none⟩) (by dsimp only; omega)).trans d0, (hbr3.cell (p := ⟨b, off + i * 5 + 1, none⟩) (by dsimp only; omega)).trans d1, (hbr3.cell (p := ⟨b, off + i * 5 + 2, none⟩) (by dsimp only; omega)).trans d2, (hbr3.cell (p := ⟨b, off + i * 5 + 3, none⟩) (by dsimp only; omega)).trans d3, (hbr3.cell (p := ⟨b, off + i * 5 + 4, none⟩) (by dsimp only; omega)).trans d4⟩ (fun hHeld => ?_)
            clear hK K
            try simp only [List.getElem_toArray, List.getElem_cons_succ, List.getElem_cons_zero, Act.put, List.setIfInBounds_toArray, List.set_cons_zero, List.set_cons_succ]
            refine wpAnyH_done (by kernel_rfl) ?_ _
            have o3 : w3.cell? ⟨w2.heap.size + 1, 0, none⟩ = some (.slice A3 es.length c3) := (hbr3.cell (p := ⟨w2.heap.size + 1, 0, none⟩) (by dsimp only; omega)).trans o0
            have z3 : w3.frozen? ⟨w2.heap.size + 1, 0, none⟩ = false := (HBX.out.below hbr3 (by omega)).frozen 0
            refine tailQ_step rfl ?_
            go_wp2_with fail
            refine tailQ_step rfl ?_
            go_wp2_with fail
            refine tailQ_nil (panQ_normal ?_)
            go_wp2_with fail
            go_roundw
            case rel =>
              have h1 := HW.out
              have hRA : EvR w9 ⟨tm, nx, kd, to_, Ax, cx, p⟩ := Reads.up h1.pay hbr2'
              have hfar : ∀ ad, 0 < p.length → Ax = some ad → (Value.slice A3 es.length c3).ownBlock ≠ some ad.block := by
                intro ad h0 hA e9
                have h2 := own_block_ge h1.own.own _ e9
                have h3 := HXP.out ad h0 hA
                omega
              have hP3 := (evR_grown (e := ⟨tm, nx, kd, to_, Ax, cx, p⟩) hRA hfar hg3)
              have hP4 := reads_far2 (g := w2.heap.size + 1) (i := 0) hP3 (fun ad h0 hA => by have h3 := HXP.out ad h0 hA; omega) (.slice A3' (es.length + 1) c3')
              have hoff : ∀ e ∈ es ++ [(⟨xt, xn, xk, xo, A2, c2, xp⟩ : Ev)], ∀ ad, 0 < e.p.length → e.A = some ad → ad.block ≠ w2.heap.size + 1 := by
                intro e he ad h0 hA
                rcases List.mem_append.1 he with he | he
                · exact h1.off e he ad h0 hA
                · rw [List.mem_singleton] at he
                  subst he
                  have h2 := hf2 ad h0 hA
                  have h3 : wc.drew.heap.size = wc.heap.size := rfl
                  omega
              refine ⟨i + 1, _, es ++ [⟨xt, xn, xk, xo, A2, c2, xp⟩], by omega, by go_num, by rw [show decide (at_ < i + 1) = decide (at_ ≤ i) from decide_eq_decide.2 (by omega)], (h1.q.below hbr3 (by omega)).far (by dsimp only; omega) _, (h1.z.below hbr3 (by omega)).far (by dsimp only; omega) _, (h1.y.below hbr3 (by omega)).far (by dsimp only; omega) _, (HBX.out.below hbr3 (by omega)).set_ 0 _, hE3.far2 (by dsimp only; omega) hoff _, hN3, hoff, ?_, (h1.bel.trans (hbr3.mono (by omega))).setCell (by dsimp only; omega) _, by have := hbr3.size; simp; omega, hP4⟩
              rw [List.map_append, h1.em, insP_next HS.out]
              rfl
            case measure => simp [intOf]; omega
        · have hx1 : ¬ tm < xt := by
            have h := HQ.out.2.1 i _ hai HS.out
            unfold laterB at h
            simpa using h
          rw [decide_eq_false (by omega : ¬ at_ < i)]
          go_upto_if 82 with (fail)
          go_cut [16] from 83 to 88 (fun s16 wx => ∃ (v : Value) (es2 : List Ev), s16 = .bool (decide (at_ ≤ i)) ∧ AdI w (some ⟨b, off, none⟩) m c w2.heap.size nx tm kd to_ Ax cx p (insQ ⟨tm, nx, kd, to_, p⟩ (l.map Ev.em) at_ i) wx v es2)
          case first =>
            go_wp2_with fail
            go_meet
            have h1 := HW.out
            exact ⟨_, es, by rw [decide_eq_false (by omega : ¬ at_ ≤ i)], h1.q, h1.z, h1.y, h1.x, h1.own, h1.new, h1.off, by rw [h1.em, insQ_gt (by omega)], h1.bel, h1.size, h1.pay⟩
          case rest =>
            obtain ⟨v, es, rfl, hW⟩ := hcut
            have HW := Lib.hid hW
            have hsr := hW.size
            have q0 : wc.cell? ⟨w.heap.size, 0, none⟩ = some (.slice (some ⟨b, off, none⟩) m c) := hW.q.cell 0
            have hlq : (insQ ⟨tm, nx, kd, to_, p⟩ (l.map Ev.em) at_ i).length ≤ 8001 := by
              unfold insQ
              split
              · rw [List.length_append, List.length_cons, List.length_drop, List.length_take, List.length_take]; omega
              · rw [List.length_take]; omega
            have hel : es.length ≤ 8001 := by
              have h := congrArg List.length hW.em
              rw [List.length_map] at h
              omega
            obtain ⟨A3, c3, rfl⟩ := hW.own.form
            have o0 : wc.cell? ⟨w2.heap.size + 1, 0, none⟩ = some (.slice A3 es.length c3) := hW.x.cell 0
            have d0 := (hW.bel.cell (p := ⟨b, off + i * 5, none⟩) hbw).trans HDD.out.1
            have d1 := (hW.bel.cell (p := ⟨b, off + i * 5 + 1, none⟩) hbw).trans HDD.out.2.1
            have d2 := (hW.bel.cell (p := ⟨b, off + i * 5 + 2, none⟩) hbw).trans HDD.out.2.2.1
            have d3 := (hW.bel.cell (p := ⟨b, off + i * 5 + 3, none⟩) hbw).trans HDD.out.2.2.2.1
            have d4 := (hW.bel.cell (p := ⟨b, off + i * 5 + 4, none⟩) hbw).trans HDD.out.2.2.2.2.1
            have HXR : Hid (Reads wc wc.heap.size 1 xA xp.length (u8s xp)) := Reads.up HDD.out.2.2.2.2.2 hW.bel
            have HO := Lib.hid (And.intro hW.own hW.new)
            have HBX := Lib.hid hW.x
            clear hW hlq
            go_upto_region 21 with fail
            refine wp_pan (Pc := fun _ _ _ => False) (fun _ _ _ h => h.elim) ?_
            refine wp_region_tail_lit (S := fun V => V.cell? ⟨w2.heap.size + 1, 0, none⟩ = some (.slice A3 es.length c3) ∧ V.cell? ⟨w.heap.size, 0, none⟩ = some (.slice (some ⟨b, off, none⟩) m c) ∧ V.cell? ⟨b, off + i * 5, none⟩ = some (.int .i64 xt) ∧ V.cell? ⟨b, off + i * 5 + 1, none⟩ = some (.int .i64 xn) ∧ V.cell? ⟨b, off + i * 5 + 2, none⟩ = some (.int .i64 xk) ∧ V.cell? ⟨b, off + i * 5 + 3, none⟩ = some (.int .i64 xo) ∧ V.cell? ⟨b, off + i * 5 + 4, none⟩ = some (.slice xA xp.length xc)) 10 (by kernel_rfl) (by kernel_rfl) ⟨o0, q0, d0, d1, d2, d3, d4⟩ (fun hHeld => ?_)
            simp only [List.take, List.drop]
            refine wpAnyH_take (i := 0) (oi := _) (v := ?_) rfl (by kernel_rfl) (by kernel_rfl) (by kernel_rfl) (fun _ _ _ h => h) (Or.inl ⟨by rfl, ?_⟩) (by assumption) ?_
            rotate_left 1
            · (intro w9 hS9; (try dsimp only at hS9); go_simp <;> with_reducible rfl)
            try simp only [List.getElem_toArray, List.getElem_cons_succ, List.getElem_cons_zero, Act.put, List.setIfInBounds_toArray, List.set_cons_zero, List.set_cons_succ]
            refine wpAnyH_take (i := 1) (oi := _) (v := ?_) rfl (by kernel_rfl) (by kernel_rfl) (by kernel_rfl) (fun _ _ _ h => h) (Or.inl ⟨by rfl, ?_⟩) (by assumption) ?_
            rotate_left 1
            · (intro w9 hS9; (try dsimp only at hS9); go_simp <;> with_reducible rfl)
            try simp only [List.getElem_toArray, List.getElem_cons_succ, List.getElem_cons_zero, Act.put, List.setIfInBounds_toArray, List.set_cons_zero, List.set_cons_succ]
            refine wpAnyH_take (i := 2) (oi := _) (v := ?_) rfl (by kernel_rfl) (by kernel_rfl) (by kernel_rfl) (fun _ _ _ h => h) (Or.inl ⟨by rfl, ?_⟩) (by assumption) ?_
            rotate_left 1
            · (intro w9 hS9; (try dsimp only at hS9); go_simp <;> with_reducible rfl)
            try simp only [List.getElem_toArray, List.getElem_cons_succ, List.getElem_cons_zero, Act.put, List.setIfInBounds_toArray, List.set_cons_zero, List.set_cons_succ]
            refine wpAnyH_take (i := 3) (oi := _) (v := ?_) rfl (by kernel_rfl) (by kernel_rfl) (by kernel_rfl) (fun _ _ _ h => h) (Or.inl ⟨by rfl, ?_⟩) (by assumption) ?_
            rotate_left 1
            · (intro w9 hS9; (try dsimp only at hS9); go_simp <;> with_reducible rfl)
            try simp only [List.getElem_toArray, List.getElem_cons_succ, List.getElem_cons_zero, Act.put, List.setIfInBounds_toArray, List.set_cons_zero, List.set_cons_succ]
            refine wpAnyH_take (i := 4) (oi := _) (v := ?_) rfl (by kernel_rfl) (by kernel_rfl) (by kernel_rfl) (fun _ _ _ h => h) (Or.inl ⟨by rfl, ?_⟩) (by assumption) ?_
            rotate_left 1
            · (intro w9 hS9; (try dsimp only at hS9); go_simp <;> with_reducible rfl)
            try simp only [List.getElem_toArray, List.getElem_cons_succ, List.getElem_cons_zero, Act.put, List.setIfInBounds_toArray, List.set_cons_zero, List.set_cons_succ]
            refine wpAnyH_take (i := 5) (oi := _) (v := ?_) rfl (by kernel_rfl) (by kernel_rfl) (by kernel_rfl) (fun _ _ _ h => h) (Or.inl ⟨by rfl, ?_⟩) (by assumption) ?_
            rotate_left 1
            · (intro w9 hS9; (try dsimp only at hS9); go_simp <;> with_reducible rfl)
            try simp only [List.getElem_toArray, List.getElem_cons_succ, List.getElem_cons_zero, Act.put, List.setIfInBounds_toArray, List.set_cons_zero, List.set_cons_succ]
            refine wpAnyH_take (i := 6) (oi := _) (v := ?_) rfl (by kernel_rfl) (by kernel_rfl) (by kernel_rfl) (fun _ _ _ h => h) (Or.inl ⟨by rfl, ?_⟩) (by assumption) ?_
            rotate_left 1
            · (intro w9 hS9; (try dsimp only at hS9); go_simp <;> with_reducible rfl)
            try simp only [List.getElem_toArray, List.getElem_cons_succ, List.getElem_cons_zero, Act.put, List.setIfInBounds_toArray, List.set_cons_zero, List.set_cons_succ]
            refine wpAnyH_ready (rs := [7]) (by kernel_rfl) (by simp) ?_
            refine AllReadyH.cons (o := _) rfl (fun K hK => ?_) AllReadyH.nil
            try simp only [List.getElem_toArray, List.getElem_cons_succ, List.getElem_cons_zero]
            go_simp
            refine (Copy_any xt xn xk xo xA xc xp _ (Reads.drew HXR.out) hxp).mono ?_
            rintro e wq ⟨hb1, A2, c2, rfl, hr2, _, _, hf2⟩
            unfold evC
            dsimp only
            have hbr1 : Below (w2.heap.size + 2) wc wq := ((Below.refl (w2.heap.size + 2) wc).drew).trans (hb1.mono (by have := hsr; exact this))
            have hs1 : wc.heap.size ≤ wq.heap.size := hb1.size
            have hbr1' : Below wc.heap.size wc wq := (Below.refl _ wc).drew.trans hb1
            go_wp2_with fail
            refine hK.out _ _ ⟨(hbr1.cell (p := ⟨w2.heap.size + 1, 0, none⟩) (by dsimp only; omega)).trans o0, (hbr1.cell (p := ⟨w.heap.size, 0, none⟩) (by dsimp only; omega)).trans q0, (hbr1.cell (p := ⟨b, off + i * 5, none⟩) (by dsimp only; omega)).trans d0, (hbr1.cell (p := ⟨b, off + i * 5 + 1, none⟩) (by dsimp only; omega)).trans d1, (hbr1.cell (p := ⟨b, off + i * 5 + 2, none⟩) (by dsimp only; omega)).trans d2, (hbr1.cell (p := ⟨b, off + i * 5 + 3, none⟩) (by dsimp only; omega)).trans d3, (hbr1.cell (p := ⟨b, off + i * 5 + 4, none⟩) (by dsimp only; omega)).trans d4⟩ (fun hHeld => ?_)
            clear hK K
            try simp only [List.getElem_toArray, List.getElem_cons_succ, List.getElem_cons_zero, Act.put, List.setIfInBounds_toArray, List.set_cons_zero, List.set_cons_succ]
            refine wpAnyH_ready (rs := [8]) (by kernel_rfl) (by simp) ?_
            refine AllReadyH.cons (o := _) rfl (fun K hK => ?_) AllReadyH.nil
            try simp only [List.getElem_toArray, List.getElem_cons_succ, List.getElem_cons_zero]
            go_simp
            have hbr2 : Below (w2.heap.size + 2) wc (wq.alloc (.cells #[.int .i64 xt, .int .i64 xn, .int .i64 xk, .int .i64 xo, .slice A2 xp.length c2] 32)) := hbr1.alloc (by omega) _
            have hE2 := (HO.out.1.below hbr1').below ((Below.refl _ wq).alloc (Nat.le_refl _) (.cells #[.int .i64 xt, .int .i64 xn, .int .i64 xk, .int .i64 xo, .slice A2 xp.length c2] 32))
            have her := elem_reads wq #[.int .i64 xt, .int .i64 xn, .int .i64 xk, .int .i64 xo, .slice A2 xp.length c2] 32
            have hx2 : EvR (wq.alloc (.cells #[.int .i64 xt, .int .i64 xn, .int .i64 xk, .int .i64 xo, .slice A2 xp.length c2] 32)) ⟨xt, xn, xk, xo, A2, c2, xp⟩ := Reads.up hr2 ((Below.refl _ wq).alloc (Nat.le_refl _) _)
            have hs2 : (wq.alloc (.cells #[.int .i64 xt, .int .i64 xn, .int .i64 xk, .int .i64 xo, .slice A2 xp.length c2] 32)).heap.size = wq.heap.size + 1 := by simp
            have hbr2' : Below wc.heap.size wc (wq.alloc (.cells #[.int .i64 xt, .int .i64 xn, .int .i64 xk, .int .i64 xo, .slice A2 xp.length c2] 32)) := hbr1'.alloc hbr1'.size _
            refine hK.out _ _ ⟨(hbr2.cell (p := ⟨w2.heap.size + 1, 0, none⟩) (by dsimp only; omega)).trans o0, (hbr2.cell (p := ⟨w.heap.size, 0, none⟩) (by dsimp only; omega)).trans q0, (hbr2.cell (p := ⟨b, off + i * 5, none⟩) (by dsimp only; omega)).trans d0, (hbr2.cell (p := ⟨b, off + i * 5 + 1, none⟩) (by dsimp only; omega)).trans d1, (hbr2.cell (p := ⟨b, off + i * 5 + 2, none⟩) (by dsimp only; omega)).trans d2, (hbr2.cell (p := ⟨b, off + i * 5 + 3, none⟩) (by dsimp only; omega)).trans d3, (hbr2.cell (p := ⟨b, off + i * 5 + 4, none⟩) (by dsimp only; omega)).trans d4⟩ (fun hHeld => ?_)
            clear hK K
            try simp only [List.getElem_toArray, List.getElem_cons_succ, List.getElem_cons_zero, Act.put, List.setIfInBounds_toArray, List.set_cons_zero, List.set_cons_succ]
            generalize (wq.alloc (.cells #[.int .i64 xt, .int .i64 xn, .int .i64 xk, .int .i64 xo, .slice A2 xp.length c2] 32)) = w9 at *
            refine wpAnyH_ready (rs := [9]) (by kernel_rfl) (by simp) ?_
            refine AllReadyH.cons (o := _) rfl (fun K hK => ?_) AllReadyH.nil
            try simp only [List.getElem_toArray, List.getElem_cons_succ, List.getElem_cons_zero]
            rw [if_pos (show Region.wanted _ _ = true from rfl)]
            refine wp_append_any w9 (.tmp 90) (.tmp 97) _ (by rfl) (w2.heap.size + 2) 32 i2 _ 5 56 Try.underlying22 HI.out.1 HI.out.2.1 HI.out.2.2.1 HI.out.2.2.2 rfl (by omega) _ es.length (es.flatMap encEv) (by rfl) hE2.own (wq.heap.size + 1) (some ⟨wq.heap.size, 0, none⟩) 1 1 (encEv ⟨xt, xn, xk, xo, A2, c2, xp⟩) (by rfl) her (by simp [encEv, Value.oneCell']) (by simp only [maxLen]; omega) (by omega) (by omega) ?_
            intro v3 w3 ho3 hg3 hv3
            obtain ⟨A3', c3', rfl, _, _, _⟩ := own_slice ho3
            have hbr3 : Below (w2.heap.size + 2) wc w3 := hbr2.grown hg3 (by omega) (own_block_ge hE2.own)
            have hE3 := OwnE.push (x := ⟨xt, xn, xk, xo, A2, c2, xp⟩) hE2 ho3 hg3 hv3 hx2 (fun ad h0 hA e => by have h1 := own_lt HO.out.1.own _ e; have h2 := hf2 ad h0 hA; have h3 : wc.drew.heap.size = wc.heap.size := rfl; omega)
            have hN3 : NewP (w.heap.size + 2) (es ++ [⟨xt, xn, xk, xo, A2, c2, xp⟩]) := by
              intro e he ad h0 hA
              rcases List.mem_append.1 he with he | he
              · exact HO.out.2 e he ad h0 hA
              · rw [List.mem_singleton] at he
                subst he
                have h2 := hf2 ad h0 hA
                have h3 : wc.drew.heap.size = wc.heap.size := rfl
                omega
            refine hK.out _ _ ⟨(hbr3.cell (p := ⟨w2.heap.size + 1, 0, none⟩) (by dsimp only; omega)).trans o0, (hbr3.cell (p := ⟨w.heap.size, 0, none⟩) (by dsimp only; omega)).trans q0, (hbr3.cell (p := ⟨b, off + i * 5, none⟩) (by dsimp only; omega)).trans d0, (hbr3.cell (p := ⟨b, off + i * 5 + 1, none⟩) (by dsimp only; omega)).trans d1, (hbr3.cell (p := ⟨b, off + i * 5 + 2, none⟩) (by dsimp only; omega)).trans d2, (hbr3.cell (p := ⟨b, off + i * 5 + 3, none⟩) (by dsimp only; omega)).trans d3, (hbr3.cell (p := ⟨b, off + i * 5 + 4, none⟩) (by dsimp only; omega)).trans d4⟩ (fun hHeld => ?_)
            clear hK K
            try simp only [List.getElem_toArray, List.getElem_cons_succ, List.getElem_cons_zero, Act.put, List.setIfInBounds_toArray, List.set_cons_zero, List.set_cons_succ]
            refine wpAnyH_done (by kernel_rfl) ?_ _
            have o3 : w3.cell? ⟨w2.heap.size + 1, 0, none⟩ = some (.slice A3 es.length c3) := (hbr3.cell (p := ⟨w2.heap.size + 1, 0, none⟩) (by dsimp only; omega)).trans o0
            have z3 : w3.frozen? ⟨w2.heap.size + 1, 0, none⟩ = false := (HBX.out.below hbr3 (by omega)).frozen 0
            refine tailQ_step rfl ?_
            go_wp2_with fail
            refine tailQ_step rfl ?_
            go_wp2_with fail
            refine tailQ_nil (panQ_normal ?_)
            go_wp2_with fail
            go_roundw
            case rel =>
              have h1 := HW.out
              have hRA : EvR w9 ⟨tm, nx, kd, to_, Ax, cx, p⟩ := Reads.up h1.pay hbr2'
              have hfar : ∀ ad, 0 < p.length → Ax = some ad → (Value.slice A3 es.length c3).ownBlock ≠ some ad.block := by
                intro ad h0 hA e9
                have h2 := own_block_ge h1.own.own _ e9
                have h3 := HXP.out ad h0 hA
                omega
              have hP3 := (evR_grown (e := ⟨tm, nx, kd, to_, Ax, cx, p⟩) hRA hfar hg3)
              have hP4 := reads_far2 (g := w2.heap.size + 1) (i := 0) hP3 (fun ad h0 hA => by have h3 := HXP.out ad h0 hA; omega) (.slice A3' (es.length + 1) c3')
              have hoff : ∀ e ∈ es ++ [(⟨xt, xn, xk, xo, A2, c2, xp⟩ : Ev)], ∀ ad, 0 < e.p.length → e.A = some ad → ad.block ≠ w2.heap.size + 1 := by
                intro e he ad h0 hA
                rcases List.mem_append.1 he with he | he
                · exact h1.off e he ad h0 hA
                · rw [List.mem_singleton] at he
                  subst he
                  have h2 := hf2 ad h0 hA
                  have h3 : wc.drew.heap.size = wc.heap.size := rfl
                  omega
              refine ⟨i + 1, _, es ++ [⟨xt, xn, xk, xo, A2, c2, xp⟩], by omega, by go_num, by rw [show decide (at_ < i + 1) = decide (at_ ≤ i) from decide_eq_decide.2 (by omega)], (h1.q.below hbr3 (by omega)).far (by dsimp only; omega) _, (h1.z.below hbr3 (by omega)).far (by dsimp only; omega) _, (h1.y.below hbr3 (by omega)).far (by dsimp only; omega) _, (HBX.out.below hbr3 (by omega)).set_ 0 _, hE3.far2 (by dsimp only; omega) hoff _, hN3, hoff, ?_, (h1.bel.trans (hbr3.mono (by omega))).setCell (by dsimp only; omega) _, by have := hbr3.size; simp; omega, hP4⟩
              rw [List.map_append, h1.em, insP_next HS.out]
              rfl
            case measure => simp [intOf]; omega
      · have hlt' : ¬ (i : Int) < m := by omega
        have hll : (l.map Ev.em).length = i := by rw [List.length_map]; have := HX.out.2.1; omega
        rcases (by omega : at_ < i ∨ at_ = i) with hai | hai
        · rw [decide_eq_true hai]
          go_upto_if 101 with (fail)
          go_cut [16] from 102 to 107 (fun _ wx => ∃ (v : Value) (es2 : List Ev), AdI w A m c w2.heap.size nx tm kd to_ Ax cx p ((l.map Ev.em).take at_ ++ ⟨tm, nx, kd, to_, p⟩ :: (l.map Ev.em).drop at_) wx v es2)
          case first =>
            go_wp2_with fail
            go_meet
            have h1 := HW.out
            exact ⟨_, es, h1.q, h1.z, h1.y, h1.x, h1.own, h1.new, h1.off, by rw [h1.em, insP_end hll (by omega)], h1.bel, h1.size, h1.pay⟩
          case rest =>
          obtain ⟨v, es, hW⟩ := hcut
          have HW := Lib.hid hW
          have hsr := hW.size
          obtain ⟨A3, c3, rfl⟩ := hW.own.form
          have o0 : wc.cell? ⟨w2.heap.size + 1, 0, none⟩ = some (.slice A3 es.length c3) := hW.x.cell 0
          have o1 : wc.cell? ⟨w2.heap.size + 1, 1, none⟩ = some (.int .i64 (nx + 1)) := hW.x.cell 1
          have q1 : wc.cell? ⟨w.heap.size, 1, none⟩ = some (.int .i64 nx) := hW.q.cell 1
          clear hW
          go_upto_region 24 with fail
          refine wp_pan (Pc := fun _ _ _ => False) (fun _ _ _ h => h.elim) ?_
          refine wp_region_tail_lit (S := fun V => V.cell? ⟨w2.heap.size + 1, 0, none⟩ = some (.slice A3 es.length c3) ∧ V.cell? ⟨w2.heap.size + 1, 1, none⟩ = some (.int .i64 (nx + 1)) ∧ V.cell? ⟨w.heap.size, 1, none⟩ = some (.int .i64 nx)) 4 (by kernel_rfl) (by kernel_rfl) ⟨o0, o1, q1⟩ (fun hHeld => ?_)
          simp only [List.take, List.drop]
          refine wpAnyH_take (i := 0) (oi := _) (v := ?_) rfl (by kernel_rfl) (by kernel_rfl) (by kernel_rfl) (fun _ _ _ h => h) (Or.inl ⟨by rfl, ?_⟩) (by assumption) ?_
          rotate_left 1
          · (intro w9 hS9; (try dsimp only at hS9); go_simp <;> with_reducible rfl)
          try simp only [List.getElem_toArray, List.getElem_cons_succ, List.getElem_cons_zero, Act.put, List.setIfInBounds_toArray, List.set_cons_zero, List.set_cons_succ]
          refine wpAnyH_take (i := 1) (oi := _) (v := ?_) rfl (by kernel_rfl) (by kernel_rfl) (by kernel_rfl) (fun _ _ _ h => h) (Or.inl ⟨by rfl, ?_⟩) (by assumption) ?_
          rotate_left 1
          · (intro w9 hS9; (try dsimp only at hS9); go_simp <;> with_reducible rfl)
          try simp only [List.getElem_toArray, List.getElem_cons_succ, List.getElem_cons_zero, Act.put, List.setIfInBounds_toArray, List.set_cons_zero, List.set_cons_succ]
          refine wpAnyH_take (i := 2) (oi := _) (v := ?_) rfl (by kernel_rfl) (by kernel_rfl) (by kernel_rfl) (fun _ _ _ h => h) (Or.inl ⟨by rfl, ?_⟩) (by assumption) ?_
          rotate_left 1
          · (intro w9 hS9; (try dsimp only at hS9); go_simp <;> with_reducible rfl)
          try simp only [List.getElem_toArray, List.getElem_cons_succ, List.getElem_cons_zero, Act.put, List.setIfInBounds_toArray, List.set_cons_zero, List.set_cons_succ]
          refine wpAnyH_ready (rs := [3]) (by kernel_rfl) (by simp) ?_
          refine AllReadyH.cons (o := _) rfl (fun K hK => ?_) AllReadyH.nil
          try simp only [List.getElem_toArray, List.getElem_cons_succ, List.getElem_cons_zero]
          rw [if_pos (show Region.wanted _ _ = true from rfl)]
          refine wp_store_row 24 _ _ (by rfl) (w.heap.size + 1) #[.slice A3 es.length c3, .int .i64 (nx + 1)] (by rfl) (by rfl) 24 _ HW.out.z.drew (by kernel_rfl) rfl (by simp [Value.oneCell']) ?_
          refine hK.out _ _ ⟨(World.cell?_of_block (setRow_other _ _ _ _ (by dsimp only; omega))).trans o0, (World.cell?_of_block (setRow_other _ _ _ _ (by dsimp only; omega))).trans o1, (World.cell?_of_block (setRow_other _ _ _ _ (by dsimp only; omega))).trans q1⟩ (fun hHeld => ?_)
          clear hK K
          try simp only [List.getElem_toArray, List.getElem_cons_succ, List.getElem_cons_zero, Act.put, List.setIfInBounds_toArray, List.set_cons_zero, List.set_cons_succ]
          refine wpAnyH_done (by kernel_rfl) ?_ _
          refine tailQ_step rfl ?_
          go_wp2_with fail
          refine tailQ_step rfl ?_
          go_wp2_with fail
          refine tailQ_nil (panQ_normal ?_)
          go_wp2_with fail
          refine bodyPost_ret (results_cell_tmp2 (t := 24) rfl _ _ (w.heap.size + 1) _ _ rfl (HW.out.z.drew.setRow _) Try.underlying24 rfl (by kernel_rfl)) rfl ?_
          rw [HQ.out.1]
          have h1 := HW.out
          obtain ⟨hev, _, hc4, _⟩ := h1.own.evs
          have hA4 := own_addr h1.own.own
          have h4 := (hev.drew).row (g := w.heap.size + 1) (fun ad h0 hA9 => by have := hA4 ad h0 hA9; omega) (fun e he ad h0 hA9 => by have := h1.new e he ad h0 hA9; omega) #[.slice A3 es.length c3, .int .i64 (nx + 1)]
          have hv := QVal.of (nx + 1) h4 hc4
          rw [h1.em] at hv
          exact ⟨below_setRow h1.bel.drew (by omega) _, _, rfl, hv⟩
        · rw [decide_eq_false (by omega : ¬ at_ < i)]
          have HIE := Lib.hid hai
          clear hai
          go_upto_if 101 with (fail)
          go_cut [16] from 102 to 107 (fun _ wx => ∃ (v : Value) (es2 : List Ev), AdI w A m c w2.heap.size nx tm kd to_ Ax cx p ((l.map Ev.em).take at_ ++ ⟨tm, nx, kd, to_, p⟩ :: (l.map Ev.em).drop at_) wx v es2)
          case first =>
            have hxa : Below wr.heap.size wr (wr.alloc (.cells #[.int .i64 tm, .int .i64 nx, .int .i64 kd, .int .i64 to_, .slice Ax p.length cx] 32)) := (Below.refl _ wr).alloc (Nat.le_refl _) _
            have hEA := HW.out.own.below hxa
            have hRA : EvR (wr.alloc (.cells #[.int .i64 tm, .int .i64 nx, .int .i64 kd, .int .i64 to_, .slice Ax p.length cx] 32)) ⟨tm, nx, kd, to_, Ax, cx, p⟩ := Reads.up HW.out.pay hxa
            have hsa : (wr.alloc (.cells #[.int .i64 tm, .int .i64 nx, .int .i64 kd, .int .i64 to_, .slice Ax p.length cx] 32)).heap.size = wr.heap.size + 1 := by simp
            have HA := Lib.hid (And.intro hxa (And.intro hEA (And.intro hRA (elem_reads wr #[.int .i64 tm, .int .i64 nx, .int .i64 kd, .int .i64 to_, .slice Ax p.length cx] 32))))
            clear hxa hEA hRA
            go_wp2_with (at_builtin; go_must (refine wpList_append_any (wr.alloc (.cells #[.int .i64 tm, .int .i64 nx, .int .i64 kd, .int .i64 to_, .slice Ax p.length cx] 32)) rfl (.tmp 103) (.tmp 105) _ rfl (w2.heap.size + 2) 32 i2 _ 5 56 Try.underlying22 HI.out.1 HI.out.2.1 HI.out.2.2.1 HI.out.2.2.2 rfl (by omega) (.slice A3 es.length c3) es.length (es.flatMap encEv) rfl HA.out.2.1.own (wr.heap.size + 1) (some ⟨wr.heap.size, 0, none⟩) 1 1 (encEv ⟨tm, nx, kd, to_, Ax, cx, p⟩) rfl HA.out.2.2.2 (by simp [encEv, Value.oneCell']) (by simp only [maxLen]; omega) (by omega) (by omega) ?_; intro v3 w3 ho3 hg3 hv3; obtain ⟨A3', c3', rfl, _, _, _⟩ := own_slice ho3; have hb3 : Below (w2.heap.size + 2) wr w3 := (HA.out.1.mono hsr).grown hg3 (by omega) (own_block_ge HW.out.own.own); have o3 : w3.cell? ⟨w2.heap.size + 1, 0, none⟩ = some (.slice A3 es.length c3) := (HW.out.x.below hb3 (by omega)).cell 0; have z3 : w3.frozen? ⟨w2.heap.size + 1, 0, none⟩ = false := (HW.out.x.below hb3 (by omega)).frozen 0; have HG := Lib.hid (And.intro ho3 (And.intro hg3 (And.intro hv3 hb3))); clear ho3 hg3 hv3 hb3))
            go_meet
            have h1 := HW.out
            obtain ⟨ho3, hg3, hv3, hb3⟩ := HG.out
            obtain ⟨hxa, hEA, hRA, _⟩ := HA.out
            have hfar : ∀ ad, 0 < p.length → Ax = some ad → (Value.slice A3 es.length c3).ownBlock ≠ some ad.block := by
              intro ad h0 hA e9
              have h2 := own_block_ge h1.own.own _ e9
              have h3 := HXP.out ad h0 hA
              omega
            have hE3 := OwnE.push (x := ⟨tm, nx, kd, to_, Ax, cx, p⟩) hEA ho3 hg3 hv3 hRA hfar
            have hP3 := (evR_grown (e := ⟨tm, nx, kd, to_, Ax, cx, p⟩) hRA hfar hg3)
            have hoff : ∀ e ∈ es ++ [(⟨tm, nx, kd, to_, Ax, cx, p⟩ : Ev)], ∀ ad, 0 < e.p.length → e.A = some ad → ad.block ≠ w2.heap.size + 1 := by
              intro e he ad h0 hA
              rcases List.mem_append.1 he with he | he
              · exact h1.off e he ad h0 hA
              · rw [List.mem_singleton] at he
                subst he
                have h3 := HXP.out ad h0 hA
                omega
            have hnew : NewP (w.heap.size + 2) (es ++ [(⟨tm, nx, kd, to_, Ax, cx, p⟩ : Ev)]) := by
              intro e he ad h0 hA
              rcases List.mem_append.1 he with he | he
              · exact h1.new e he ad h0 hA
              · rw [List.mem_singleton] at he
                subst he
                have h3 := HXP.out ad h0 hA
                omega
            have hP4 := reads_far2 (g := w2.heap.size + 1) (i := 0) hP3 (fun ad h0 hA => by have h3 := HXP.out ad h0 hA; omega) (.slice A3' (es.length + 1) c3')
            exact ⟨_, es ++ [(⟨tm, nx, kd, to_, Ax, cx, p⟩ : Ev)], ⟨(h1.q.below hb3 (by omega)).far (by dsimp only; omega) _, (h1.z.below hb3 (by omega)).far (by dsimp only; omega) _, (h1.y.below hb3 (by omega)).far (by dsimp only; omega) _, (h1.x.below hb3 (by omega)).set_ 0 _, hE3.far2 (by dsimp only; omega) hoff _, hnew, hoff, by rw [List.map_append, h1.em, ← insP_last (by rw [HIE.out]; exact hll), HIE.out]; rfl, (h1.bel.trans (hb3.mono (by omega))).setCell (by dsimp only; omega) _, by have := hb3.size; simp; omega, hP4⟩⟩

          case rest =>
          obtain ⟨v, es, hW⟩ := hcut
          have HW := Lib.hid hW
          have hsr := hW.size
          obtain ⟨A3, c3, rfl⟩ := hW.own.form
          have o0 : wc.cell? ⟨w2.heap.size + 1, 0, none⟩ = some (.slice A3 es.length c3) := hW.x.cell 0
          have o1 : wc.cell? ⟨w2.heap.size + 1, 1, none⟩ = some (.int .i64 (nx + 1)) := hW.x.cell 1
          have q1 : wc.cell? ⟨w.heap.size, 1, none⟩ = some (.int .i64 nx) := hW.q.cell 1
          clear hW
          go_upto_region 24 with fail
          refine wp_pan (Pc := fun _ _ _ => False) (fun _ _ _ h => h.elim) ?_
          refine wp_region_tail_lit (S := fun V => V.cell? ⟨w2.heap.size + 1, 0, none⟩ = some (.slice A3 es.length c3) ∧ V.cell? ⟨w2.heap.size + 1, 1, none⟩ = some (.int .i64 (nx + 1)) ∧ V.cell? ⟨w.heap.size, 1, none⟩ = some (.int .i64 nx)) 4 (by kernel_rfl) (by kernel_rfl) ⟨o0, o1, q1⟩ (fun hHeld => ?_)
          simp only [List.take, List.drop]
          refine wpAnyH_take (i := 0) (oi := _) (v := ?_) rfl (by kernel_rfl) (by kernel_rfl) (by kernel_rfl) (fun _ _ _ h => h) (Or.inl ⟨by rfl, ?_⟩) (by assumption) ?_
          rotate_left 1
          · (intro w9 hS9; (try dsimp only at hS9); go_simp <;> with_reducible rfl)
          try simp only [List.getElem_toArray, List.getElem_cons_succ, List.getElem_cons_zero, Act.put, List.setIfInBounds_toArray, List.set_cons_zero, List.set_cons_succ]
          refine wpAnyH_take (i := 1) (oi := _) (v := ?_) rfl (by kernel_rfl) (by kernel_rfl) (by kernel_rfl) (fun _ _ _ h => h) (Or.inl ⟨by rfl, ?_⟩) (by assumption) ?_
          rotate_left 1
          · (intro w9 hS9; (try dsimp only at hS9); go_simp <;> with_reducible rfl)
          try simp only [List.getElem_toArray, List.getElem_cons_succ, List.getElem_cons_zero, Act.put, List.setIfInBounds_toArray, List.set_cons_zero, List.set_cons_succ]
          refine wpAnyH_take (i := 2) (oi := _) (v := ?_) rfl (by kernel_rfl) (by kernel_rfl) (by kernel_rfl) (fun _ _ _ h => h) (Or.inl ⟨by rfl, ?_⟩) (by assumption) ?_
          rotate_left 1
          · (intro w9 hS9; (try dsimp only at hS9); go_simp <;> with_reducible rfl)
          try simp only [List.getElem_toArray, List.getElem_cons_succ, List.getElem_cons_zero, Act.put, List.setIfInBounds_toArray, List.set_cons_zero, List.set_cons_succ]
          refine wpAnyH_ready (rs := [3]) (by kernel_rfl) (by simp) ?_
          refine AllReadyH.cons (o := _) rfl (fun K hK => ?_) AllReadyH.nil
          try simp only [List.getElem_toArray, List.getElem_cons_succ, List.getElem_cons_zero]
          rw [if_pos (show Region.wanted _ _ = true from rfl)]
          refine wp_store_row 24 _ _ (by rfl) (w.heap.size + 1) #[.slice A3 es.length c3, .int .i64 (nx + 1)] (by rfl) (by rfl) 24 _ HW.out.z.drew (by kernel_rfl) rfl (by simp [Value.oneCell']) ?_
          refine hK.out _ _ ⟨(World.cell?_of_block (setRow_other _ _ _ _ (by dsimp only; omega))).trans o0, (World.cell?_of_block (setRow_other _ _ _ _ (by dsimp only; omega))).trans o1, (World.cell?_of_block (setRow_other _ _ _ _ (by dsimp only; omega))).trans q1⟩ (fun hHeld => ?_)
          clear hK K
          try simp only [List.getElem_toArray, List.getElem_cons_succ, List.getElem_cons_zero, Act.put, List.setIfInBounds_toArray, List.set_cons_zero, List.set_cons_succ]
          refine wpAnyH_done (by kernel_rfl) ?_ _
          refine tailQ_step rfl ?_
          go_wp2_with fail
          refine tailQ_step rfl ?_
          go_wp2_with fail
          refine tailQ_nil (panQ_normal ?_)
          go_wp2_with fail
          refine bodyPost_ret (results_cell_tmp2 (t := 24) rfl _ _ (w.heap.size + 1) _ _ rfl (HW.out.z.drew.setRow _) Try.underlying24 rfl (by kernel_rfl)) rfl ?_
          rw [HQ.out.1]
          have h1 := HW.out
          obtain ⟨hev, _, hc4, _⟩ := h1.own.evs
          have hA4 := own_addr h1.own.own
          have h4 := (hev.drew).row (g := w.heap.size + 1) (fun ad h0 hA9 => by have := hA4 ad h0 hA9; omega) (fun e he ad h0 hA9 => by have := h1.new e he ad h0 hA9; omega) #[.slice A3 es.length c3, .int .i64 (nx + 1)]
          have hv := QVal.of (nx + 1) h4 hc4
          rw [h1.em] at hv
          exact ⟨below_setRow h1.bel.drew (by omega) _, _, rfl, hv⟩
  · have hr1 : ((r : Int) != 0) = true := by rw [bne_iff_ne]; omega
    have HR0 := Lib.hid hr0
    clear hr0
    go_wp2_with (refine wpList_store_row rfl _ _ _ rfl (w.heap.size + 1) _ rfl rfl 24 _ H1.out.2.2.1 (by kernel_rfl) rfl (by simp [Value.oneCell']) ?_)
    refine bodyPost_ret (results_cell_tmp2 (t := 24) rfl _ _ (w.heap.size + 1) _ _ rfl (H1.out.2.2.1.setRow _) Try.underlying24 rfl (by kernel_rfl)) rfl ?_
    have hq : addQ (l.map Ev.em) nx tm kd to_ p = ⟨[], 0, 0, r⟩ := by
      unfold addQ
      rw [HRR.out, if_pos HR0.out]
    rw [hq]
    exact ⟨below_setRow H1.out.1 (by omega) _, _, rfl, QVal.nil _ _⟩
end Go.Proofs.Ytknedclejhiegaa
