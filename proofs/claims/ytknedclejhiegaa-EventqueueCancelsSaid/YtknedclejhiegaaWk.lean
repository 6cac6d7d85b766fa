/- What the operations answer; the walks of First, of the code and of the reference. Condition: at most 4096 events, bodies of at most 100000 bytes. -/
import Derived.Test.YtknedclejhiegaaWg
namespace Go.Proofs.Ytknedclejhiegaa
open Go.RowKit
structure QVal (W : World) (l : List Em) (nx : Int) (v : Value) : Prop where
  val : ∃ A c es, v = .agg #[.slice A (List.length es) c, .int .i64 nx] ∧ Evs W A es.length es ∧ es.map Ev.em = l ∧ es.length ≤ c
structure EVal (W : World) (m : Em) (v : Value) : Prop where
  val : ∃ A c, v = .agg (evC m.t m.n m.k m.o A m.p.length c) ∧ Reads W W.heap.size 1 A m.p.length (u8s m.p)
theorem QVal.up {W W' : World} {l : List Em} {nx : Int} {v : Value} (h : QVal W l nx v) (hb : Below W.heap.size W W') : QVal W' l nx v := by
  obtain ⟨A, c, es, h1, h2, h3⟩ := h.val
  exact ⟨A, c, es, h1, h2.up hb, h3⟩
theorem EVal.up {W W' : World} {m : Em} {v : Value} (h : EVal W m v) (hb : Below W.heap.size W W') : EVal W' m v := by
  obtain ⟨A, c, h1, h2⟩ := h.val
  exact ⟨A, c, h1, h2.up hb⟩
theorem EVal.zero (W : World) : EVal W zeroE (.agg #[.int .i64 0, .int .i64 0, .int .i64 0, .int .i64 0, .slice none 0 0]) := ⟨none, 0, rfl, Reads.none_⟩
theorem QVal.nil (W : World) (nx : Int) : QVal W [] nx (.agg #[.slice none 0 0, .int .i64 nx]) := ⟨none, 0, [], rfl, ⟨Reads.none_, nofun⟩, rfl, Nat.le_refl _⟩
structure FirstR (w : World) (r : Em × Bool) (e : Ending) (w' : World) : Prop where
  bel : Below w.heap.size w w'
  val : ∃ v, e = .returned (.tuple #[v, .bool r.2]) ∧ EVal w' r.1 v
structure PopR (w : World) (r : PopA) (e : Ending) (w' : World) : Prop where
  bel : Below w.heap.size w w'
  val : ∃ v x, e = .returned (.tuple #[v, x, .int .i64 (r.e : Nat)]) ∧ QVal w' r.l r.nx v ∧ EVal w' r.x x
structure CancelR (w : World) (nx : Int) (r : List Em × Bool) (e : Ending) (w' : World) : Prop where
  bel : Below w.heap.size w w'
  val : ∃ v, e = .returned (.tuple #[v, .bool r.2]) ∧ QVal w' r.1 nx v
structure DueR (w : World) (nx : Int) (r : List Em × List Em) (e : Ending) (w' : World) : Prop where
  bel : Below w.heap.size w w'
  val : ∃ v A c es, e = .returned (.tuple #[v, .slice A (List.length es) c]) ∧ QVal w' r.1 nx v ∧ Evs w' A es.length es ∧ es.map Ev.em = r.2
structure AddR (w : World) (r : AddA) (e : Ending) (w' : World) : Prop where
  bel : Below w.heap.size w w'
  val : ∃ v, e = .returned (.tuple #[v, .int .i64 r.num, .int .i64 (r.e : Nat)]) ∧ QVal w' r.l r.nx v
theorem results_cell_cell {P : Program} {fn : Func} {p p2 q : Tmp} {ty ty2 : TypeId} (h : fn.results = #[.cell p ty, .cell p2 ty2, .tmp q]) (tmps : Array Value) (w : World) (g g2 : Nat) (t t2 : TypeId) (cs cs2 : Array Value) (d d2 : TypeDesc)
    (hp : tmps.getD p undef = .pointer (some ⟨g, 0, none⟩)) (hp2 : tmps.getD p2 undef = .pointer (some ⟨g2, 0, none⟩)) (hg : Blk w g t cs) (hg2 : Blk w g2 t2 cs2)
    (hu : P.underlying ty = some d) (hd : (match d with | .struct _ | .array _ _ => true | _ => false) = true) (hi : (P.info? ty).map (·.size) = some cs.size)
    (hu2 : P.underlying ty2 = some d2) (hd2 : (match d2 with | .struct _ | .array _ _ => true | _ => false) = true) (hi2 : (P.info? ty2).map (·.size) = some cs2.size) :
    (results fn tmps).run P w = .ok (.tuple #[.agg cs, .agg cs2, tmps.getD q undef]) w := by
  have hp' : tmps[p]?.getD undef = .pointer (some ⟨g, 0, none⟩) := by simpa using hp
  have hp2' : tmps[p2]?.getD undef = .pointer (some ⟨g2, 0, none⟩) := by simpa using hp2
  simp [results, h, hp', hp2', asAddr, run_loadVar_row w g t ty cs (0, 0) d hg hu hd hi, run_loadVar_row w g2 t2 ty2 cs2 (0, 0) d2 hg2 hu2 hd2 hi2]
theorem results_cell_tmp2 {P : Program} {fn : Func} {p q r : Tmp} {ty : TypeId} (h : fn.results = #[.cell p ty, .tmp q, .tmp r]) (tmps : Array Value) (w : World) (g : Nat) (t : TypeId) (cs : Array Value) (d : TypeDesc)
    (hp : tmps.getD p undef = .pointer (some ⟨g, 0, none⟩)) (hg : Blk w g t cs)
    (hu : P.underlying ty = some d) (hd : (match d with | .struct _ | .array _ _ => true | _ => false) = true) (hi : (P.info? ty).map (·.size) = some cs.size) :
    (results fn tmps).run P w = .ok (.tuple #[.agg cs, tmps.getD q undef, tmps.getD r undef]) w := by
  have hp' : tmps[p]?.getD undef = .pointer (some ⟨g, 0, none⟩) := by simpa using hp
  simp [results, h, hp', asAddr, run_loadVar_row w g t ty cs (0, 0) d hg hu hd hi]
theorem QVal.of {W : World} {A : Option Addr} {m c : Nat} {l : List Ev} (nx : Int) (h : Evs W A m l) (hc : m ≤ c) : QVal W (l.map Ev.em) nx (.agg #[.slice A m c, .int .i64 nx]) := by
  have hl := h.count
  subst hl
  exact ⟨A, c, l, rfl, h, rfl, hc⟩
set_option maxRecDepth 100000 in
set_option maxHeartbeats 2000000 in
theorem First_any (A : Option Addr) (m c : Nat) (l : List Ev) (nx : Int) (w : World) (hR : Evs w A m l) (hm : m ≤ 4096) (hmc : m ≤ c) (hp : ∀ e ∈ l, e.p.length ≤ 100000) :
    Calls Try.prog 23 #[.agg #[.slice A m c, .int .i64 nx]] w (FirstR w (firstQ (l.map Ev.em) nx)) := by
  have hlen := hR.count
  have hb0 : Below w.heap.size w ((w.alloc (.cells #[.slice A m c, .int .i64 nx] 24)).alloc (.cells #[.int .i64 0, .int .i64 0, .int .i64 0, .int .i64 0, .slice none 0 0] 32)) := ((Below.refl _ _).alloc (Nat.le_refl _) _).alloc (by simp) _
  have g0 : Blk ((w.alloc (.cells #[.slice A m c, .int .i64 nx] 24)).alloc (.cells #[.int .i64 0, .int .i64 0, .int .i64 0, .int .i64 0, .slice none 0 0] 32)) w.heap.size 24 _ := (Blk.new w 24 #[.slice A m c, .int .i64 nx]).alloc _
  have g1 := Blk.new (w.alloc (.cells #[.slice A m c, .int .i64 nx] 24)) 32 #[.int .i64 0, .int .i64 0, .int .i64 0, .int .i64 0, .slice none 0 0]
  rw [World.size_alloc] at g1
  have hs0 : ((w.alloc (.cells #[.slice A m c, .int .i64 nx] 24)).alloc (.cells #[.int .i64 0, .int .i64 0, .int .i64 0, .int .i64 0, .slice none 0 0] 32)).heap.size = w.heap.size + 2 := by simp
  have HX := Lib.hid (And.intro (hR.up hb0) (And.intro hlen (And.intro hp hb0)))
  clear hR hlen hp hb0
  go_enter Try.func23, Try.ntmps23
  go_upto_region 1 with fail
  generalize ((w.alloc (.cells #[.slice A m c, .int .i64 nx] 24)).alloc (.cells #[.int .i64 0, .int .i64 0, .int .i64 0, .int .i64 0, .slice none 0 0] 32)) = W at *
  have q0 : W.cell? ⟨w.heap.size, 0, none⟩ = some (.slice A m c) := g0.cell 0
  have q1 : W.cell? ⟨w.heap.size, 1, none⟩ = some (.int .i64 nx) := g0.cell 1
  go_wp2_with fail
  refine (Check_any A m c l nx W HX.out.1 hm hmc).mono ?_
  rintro e w1 ⟨rfl, hb1⟩
  have hbw : Below w.heap.size w w1 := HX.out.2.2.2.trans (hb1.mono HX.out.2.2.2.size)
  have G0 := g0.below hb1 (by omega)
  have G1 := g1.below hb1 (by omega)
  have hs1 := hb1.size
  have H1 := Lib.hid (And.intro (HX.out.1.up hb1) (And.intro hbw (And.intro G0 G1)))
  clear hb1 hbw g0 g1 q0 q1 G0 G1
  have q0 : w1.cell? ⟨w.heap.size, 0, none⟩ = some (.slice A m c) := H1.out.2.2.1.cell 0
  obtain ⟨r, hr⟩ : ∃ r, chkQ nx (l.map Ev.em) = r := ⟨_, rfl⟩
  rw [hr]
  have HRR := Lib.hid hr
  clear hr
  by_cases hr0 : r = 0
  · subst hr0
    by_cases hm0 : m = 0
    · have hm0' : decide ((m : Int) = 0) = true := by rw [decide_eq_true]; omega
      have HM0 := Lib.hid hm0
      have hmb : ((m : Int) == 0) = true := by rw [beq_iff_eq]; omega
      obtain rfl := HM0.out
      clear hm0' hmb
      go_wp2_with (refine wpList_store_row rfl _ _ _ rfl (w.heap.size + 1) _ rfl rfl 32 _ H1.out.2.2.2 (by kernel_rfl) rfl (by simp [Value.oneCell']) ?_)
      refine bodyPost_ret (results_cell_tmp (t := 32) rfl _ _ (w.heap.size + 1) _ _ rfl (H1.out.2.2.2.setRow _) Try.underlying32 rfl (by kernel_rfl)) rfl ?_
      have hl0 : l = [] := List.eq_nil_of_length_eq_zero HX.out.2.1
      have hq : firstQ (l.map Ev.em) nx = (zeroE, false) := by
        unfold firstQ
        rw [HRR.out, if_neg (by simp), hl0]
        rfl
      rw [hq]
      exact ⟨below_setRow H1.out.2.1 (by omega) _, _, rfl, EVal.zero _⟩
    · have hmb : ((m : Int) == 0) = false := by rw [beq_eq_false_iff_ne]; omega
      have hmp : 0 < m := by omega
      have hmp' : (0 : Int) < m := by omega
      obtain ⟨b, off, rfl, hbw, hc⟩ := H1.out.1.cells hmp
      have hl1 : 0 < l.length := by have := HX.out.2.1; omega
      obtain ⟨d0, d1, d2, d3, d4⟩ := hc 0 _ (List.getElem?_eq_getElem hl1)
      simp only [Nat.zero_mul, Nat.add_zero] at d0 d1 d2 d3 d4
      have hxr := H1.out.1.ev _ (List.getElem_mem hl1)
      have hxp := HX.out.2.2.1 _ (List.getElem_mem hl1)
      have hq : firstQ (l.map Ev.em) nx = (l[0].em, true) := by
        unfold firstQ
        rw [HRR.out, if_neg (by simp)]
        cases l with
        | nil => simp at hl1
        | cons x l => rfl
      generalize l[0] = ev at *
      obtain ⟨et, en, ek, eo, eA, ec, ep⟩ := ev
      dsimp only at d0 d1 d2 d3 d4 hxp
      have HQ := Lib.hid (And.intro hq hxr)
      clear hc hq hxr hl1 hm0
      go_wp2_with fail
      refine (copied_any et en ek eo eA ec ep w1 HQ.out.2 hxp).mono ?_
      rintro e w2 ⟨hb2, A2, c2, rfl, hr2, _, _, hf2⟩
      unfold evC
      dsimp only
      have H2 := Lib.hid (And.intro hb2 (And.intro hr2 (And.intro (H1.out.2.2.2.below hb2 (by omega)) hf2)))
      clear hb2 hr2 hf2 d0 d1 d2 d3 d4 q0
      go_wp2_with (refine wpList_store_row rfl _ _ _ rfl (w.heap.size + 1) _ rfl rfl 32 _ H2.out.2.2.1 (by kernel_rfl) rfl (by simp [Value.oneCell']) ?_)
      refine bodyPost_ret (results_cell_tmp (t := 32) rfl _ _ (w.heap.size + 1) _ _ rfl (H2.out.2.2.1.setRow _) Try.underlying32 rfl (by kernel_rfl)) rfl ?_
      rw [HQ.out.1]
      refine ⟨below_setRow (H1.out.2.1.trans (H2.out.1.mono H1.out.2.1.size)) (by omega) _, _, rfl, A2, c2, rfl, ?_⟩
      exact (H2.out.2.1.row (g := w.heap.size + 1) (fun ad h0 hA => by have := H2.out.2.2.2 ad h0 hA; omega) _).more (by simp)
  · have hr1 : ((r : Int) != 0) = true := by rw [bne_iff_ne]; omega
    have HR0 := Lib.hid hr0
    clear hr0
    go_wp2_with (refine wpList_store_row rfl _ _ _ rfl (w.heap.size + 1) _ rfl rfl 32 _ H1.out.2.2.2 (by kernel_rfl) rfl (by simp [Value.oneCell']) ?_)
    refine bodyPost_ret (results_cell_tmp (t := 32) rfl _ _ (w.heap.size + 1) _ _ rfl (H1.out.2.2.2.setRow _) Try.underlying32 rfl (by kernel_rfl)) rfl ?_
    have hq : firstQ (l.map Ev.em) nx = (zeroE, false) := by
      unfold firstQ
      rw [HRR.out, if_pos HR0.out]
    rw [hq]
    exact ⟨below_setRow H1.out.2.1 (by omega) _, _, rfl, EVal.zero _⟩
set_option maxRecDepth 100000 in
set_option maxHeartbeats 2000000 in
theorem refFirst_any (A : Option Addr) (m c : Nat) (l : List Ev) (nx : Int) (w : World) (hR : Evs w A m l) (hm : m ≤ 4096) (hp : ∀ e ∈ l, e.p.length ≤ 100000) :
    Calls Try.prog 24 #[.agg #[.slice A m c, .int .i64 nx]] w (FirstR w (firstQ (l.map Ev.em) nx)) := by
  have hlen := hR.count
  have hb0 : Below w.heap.size w ((w.alloc (.cells #[.slice A m c, .int .i64 nx] 24)).alloc (.cells #[.int .i64 0, .int .i64 0, .int .i64 0, .int .i64 0, .slice none 0 0] 32)) := ((Below.refl _ _).alloc (Nat.le_refl _) _).alloc (by simp) _
  have g0 : Blk ((w.alloc (.cells #[.slice A m c, .int .i64 nx] 24)).alloc (.cells #[.int .i64 0, .int .i64 0, .int .i64 0, .int .i64 0, .slice none 0 0] 32)) w.heap.size 24 _ := (Blk.new w 24 #[.slice A m c, .int .i64 nx]).alloc _
  have g1 := Blk.new (w.alloc (.cells #[.slice A m c, .int .i64 nx] 24)) 32 #[.int .i64 0, .int .i64 0, .int .i64 0, .int .i64 0, .slice none 0 0]
  rw [World.size_alloc] at g1
  have hs0 : ((w.alloc (.cells #[.slice A m c, .int .i64 nx] 24)).alloc (.cells #[.int .i64 0, .int .i64 0, .int .i64 0, .int .i64 0, .slice none 0 0] 32)).heap.size = w.heap.size + 2 := by simp
  have HX := Lib.hid (And.intro (hR.up hb0) (And.intro hlen (And.intro hp hb0)))
  clear hR hlen hp hb0
  go_enter Try.func24, Try.ntmps24
  go_upto_region 1 with fail
  generalize ((w.alloc (.cells #[.slice A m c, .int .i64 nx] 24)).alloc (.cells #[.int .i64 0, .int .i64 0, .int .i64 0, .int .i64 0, .slice none 0 0] 32)) = W at *
  have q0 : W.cell? ⟨w.heap.size, 0, none⟩ = some (.slice A m c) := g0.cell 0
  have q1 : W.cell? ⟨w.heap.size, 1, none⟩ = some (.int .i64 nx) := g0.cell 1
  go_wp2_with fail
  refine (refCheck_any A m c l nx W HX.out.1 hm).mono ?_
  rintro e w1 ⟨rfl, hb1⟩
  have hbw : Below w.heap.size w w1 := HX.out.2.2.2.trans (hb1.mono HX.out.2.2.2.size)
  have G0 := g0.below hb1 (by omega)
  have G1 := g1.below hb1 (by omega)
  have hs1 := hb1.size
  have H1 := Lib.hid (And.intro (HX.out.1.up hb1) (And.intro hbw (And.intro G0 G1)))
  clear hb1 hbw g0 g1 q0 q1 G0 G1
  have q0 : w1.cell? ⟨w.heap.size, 0, none⟩ = some (.slice A m c) := H1.out.2.2.1.cell 0
  obtain ⟨r, hr⟩ : ∃ r, chkQ nx (l.map Ev.em) = r := ⟨_, rfl⟩
  rw [hr]
  have HRR := Lib.hid hr
  clear hr
  by_cases hr0 : r = 0
  · subst hr0
    by_cases hm0 : m = 0
    · have hm0' : decide ((m : Int) = 0) = true := by rw [decide_eq_true]; omega
      have HM0 := Lib.hid hm0
      have hmb : ((m : Int) == 0) = true := by rw [beq_iff_eq]; omega
      obtain rfl := HM0.out
      clear hm0' hmb
      go_wp2_with (refine wpList_store_row rfl _ _ _ rfl (w.heap.size + 1) _ rfl rfl 32 _ H1.out.2.2.2 (by kernel_rfl) rfl (by simp [Value.oneCell']) ?_)
      refine bodyPost_ret (results_cell_tmp (t := 32) rfl _ _ (w.heap.size + 1) _ _ rfl (H1.out.2.2.2.setRow _) Try.underlying32 rfl (by kernel_rfl)) rfl ?_
      have hl0 : l = [] := List.eq_nil_of_length_eq_zero HX.out.2.1
      have hq : firstQ (l.map Ev.em) nx = (zeroE, false) := by
        unfold firstQ
        rw [HRR.out, if_neg (by simp), hl0]
        rfl
      rw [hq]
      exact ⟨below_setRow H1.out.2.1 (by omega) _, _, rfl, EVal.zero _⟩
    · have hmb : ((m : Int) == 0) = false := by rw [beq_eq_false_iff_ne]; omega
      have hmp : 0 < m := by omega
      have hmp' : (0 : Int) < m := by omega
      obtain ⟨b, off, rfl, hbw, hc⟩ := H1.out.1.cells hmp
      have hl1 : 0 < l.length := by have := HX.out.2.1; omega
      obtain ⟨d0, d1, d2, d3, d4⟩ := hc 0 _ (List.getElem?_eq_getElem hl1)
      simp only [Nat.zero_mul, Nat.add_zero] at d0 d1 d2 d3 d4
      have hxr := H1.out.1.ev _ (List.getElem_mem hl1)
      have hxp := HX.out.2.2.1 _ (List.getElem_mem hl1)
      have hq : firstQ (l.map Ev.em) nx = (l[0].em, true) := by
        unfold firstQ
        rw [HRR.out, if_neg (by simp)]
        cases l with
        | nil => simp at hl1
        | cons x l => rfl
      generalize l[0] = ev at *
      obtain ⟨et, en, ek, eo, eA, ec, ep⟩ := ev
      dsimp only at d0 d1 d2 d3 d4 hxp
      have HQ := Lib.hid (And.intro hq hxr)
      clear hc hq hxr hl1 hm0
      go_wp2_with fail
      refine (Copy_any et en ek eo eA ec ep w1 HQ.out.2 hxp).mono ?_
      rintro e w2 ⟨hb2, A2, c2, rfl, hr2, _, _, hf2⟩
      unfold evC
      dsimp only
      have H2 := Lib.hid (And.intro hb2 (And.intro hr2 (And.intro (H1.out.2.2.2.below hb2 (by omega)) hf2)))
      clear hb2 hr2 hf2 d0 d1 d2 d3 d4 q0
      go_wp2_with (refine wpList_store_row rfl _ _ _ rfl (w.heap.size + 1) _ rfl rfl 32 _ H2.out.2.2.1 (by kernel_rfl) rfl (by simp [Value.oneCell']) ?_)
      refine bodyPost_ret (results_cell_tmp (t := 32) rfl _ _ (w.heap.size + 1) _ _ rfl (H2.out.2.2.1.setRow _) Try.underlying32 rfl (by kernel_rfl)) rfl ?_
      rw [HQ.out.1]
      refine ⟨below_setRow (H1.out.2.1.trans (H2.out.1.mono H1.out.2.1.size)) (by omega) _, _, rfl, A2, c2, rfl, ?_⟩
      exact (H2.out.2.1.row (g := w.heap.size + 1) (fun ad h0 hA => by have := H2.out.2.2.2 ad h0 hA; omega) _).more (by simp)
  · have hr1 : ((r : Int) != 0) = true := by rw [bne_iff_ne]; omega
    have HR0 := Lib.hid hr0
    clear hr0
    go_wp2_with (refine wpList_store_row rfl _ _ _ rfl (w.heap.size + 1) _ rfl rfl 32 _ H1.out.2.2.2 (by kernel_rfl) rfl (by simp [Value.oneCell']) ?_)
    refine bodyPost_ret (results_cell_tmp (t := 32) rfl _ _ (w.heap.size + 1) _ _ rfl (H1.out.2.2.2.setRow _) Try.underlying32 rfl (by kernel_rfl)) rfl ?_
    have hq : firstQ (l.map Ev.em) nx = (zeroE, false) := by
      unfold firstQ
      rw [HRR.out, if_pos HR0.out]
    rw [hq]
    exact ⟨below_setRow H1.out.2.1 (by omega) _, _, rfl, EVal.zero _⟩
end Go.Proofs.Ytknedclejhiegaa
