/- The walk of EpochOf. Condition: at most 1000 spans. -/
import Derived.Test.YtnhemndpnjhbfaaWm
namespace Go.Proofs.Ytnhemndpnjhbfaa
open Go.RowKit Go.Shelf
attribute [local go_sem] Oper.semAt_some
/-- the epoch of a cycle among spans -/
def epochAt (c : Int) : List Span → Int × Bool
  | [] => (0, false)
  | s :: l => if s.f ≤ c ∧ c ≤ s.t then (s.e, true) else epochAt c l
def epochV (l : List Span) (c : Int) : Int × Bool := if lineageE l = 0 then epochAt c l else (0, false)
theorem epochAt_drop (c : Int) (l : List Span) (k : Nat) (h : k < l.length) : epochAt c (l.drop k) = if (atS l k).f ≤ c ∧ c ≤ (atS l k).t then ((atS l k).e, true) else epochAt c (l.drop (k + 1)) := by
  have ha : atS l k = l[k] := by simp [atS, h]
  rw [List.drop_eq_getElem_cons h, ha]
  rfl
/-- what a round of EpochOf finds -/
structure EpI (w : World) (B : Nat) (c : Int) (l : List Span) (pre : List Nat) (W : World) : Prop where
  size : B ≤ W.heap.size
  arg : Blk W w.heap.size 3 #[.int .i64 c]
  ra : Blk W (w.heap.size + 1) 3 #[.int .i64 0]
  rb : Blk W (w.heap.size + 1 + 1) 4 #[.bool false]
  below : Below w.heap.size w W
  sofar : ∃ k, pre = List.range k ∧ k ≤ l.length ∧ epochAt c l = epochAt c (l.drop k)
theorem EpI.keep {w : World} {B : Nat} {c : Int} {l : List Span} {pre : List Nat} {A C : World} (h : EpI w B c l pre A) (hB : w.heap.size + 3 ≤ B) (hk : Aside (three B) A C) : EpI w B c l pre C :=
  ⟨Nat.le_trans h.size hk.size, (hk.block _ h.arg.lt (fun q => by have := three_le q; omega)).trans h.arg, (hk.block _ h.ra.lt (fun q => by have := three_le q; omega)).trans h.ra, (hk.block _ h.rb.lt (fun q => by have := three_le q; omega)).trans h.rb, h.below.trans (hk.below (fun k hk => by have := three_le hk; omega) h.below.size), h.sofar⟩
/-- what a round that leaves has left -/
structure EpX (w : World) (B : Nat) (v : Int × Bool) (W : World) : Prop where
  size : B ≤ W.heap.size
  ra : Blk W (w.heap.size + 1) 3 #[.int .i64 v.1]
  rb : Blk W (w.heap.size + 1 + 1) 4 #[.bool v.2]
  below : Below w.heap.size w W
theorem EpX.keep {w : World} {B : Nat} {v : Int × Bool} {A C : World} (h : EpX w B v A) (hB : w.heap.size + 3 ≤ B) (hk : Aside (three B) A C) : EpX w B v C :=
  ⟨Nat.le_trans h.size hk.size, (hk.block _ h.ra.lt (fun q => by have := three_le q; omega)).trans h.ra, (hk.block _ h.rb.lt (fun q => by have := three_le q; omega)).trans h.rb, h.below.trans (hk.below (fun k hk => by have := three_le hk; omega) h.below.size)⟩
theorem EpI.put {w : World} {B : Nat} {c : Int} {l : List Span} {pre : List Nat} {A : World} (h : EpI w B c l pre A) (v : Int × Bool) : EpX w B v ((A.setCell ⟨w.heap.size + 1, 0, none⟩ (.int .i64 v.1)).setCell ⟨w.heap.size + 1 + 1, 0, none⟩ (.bool v.2)) :=
  ⟨by simpa [World.setCell] using h.size, (h.ra.set_ 0 (.int .i64 v.1)).far (by dsimp only; omega) _, (h.rb.far (p := ⟨w.heap.size + 1, 0, none⟩) (by dsimp only; omega) _).set_ 0 (.bool v.2), (h.below.setCell (p := ⟨w.heap.size + 1, 0, none⟩) (by dsimp only; omega) _).setCell (p := ⟨w.heap.size + 1 + 1, 0, none⟩) (by dsimp only; omega) _⟩
theorem ep_fin {B D : Nat} {w WZ : World} {v : Int × Bool} (hB : w.heap.size + 3 ≤ B) (hD : B ≤ D) (hK : WZ.heap[D]? = some (.deferred (some []))) (h : EpX w B v WZ) (tp : Array Value) (h4 : tp.getD 4 undef = .pointer (some ⟨w.heap.size + 1, 0, none⟩)) (h5 : tp.getD 5 undef = .pointer (some ⟨w.heap.size + 1 + 1, 0, none⟩)) :
    bodyPostM Fence.wide 4 Try.prog Try.f21 (fun e w' => e = .returned (.tuple #[.int .i64 v.1, .bool v.2]) ∧ Below w.heap.size w w') .ret { tmps := tp, defers := [{ target := .collected D, args := #[] }] } WZ := by
  have hbq : Below B WZ (WZ.putObj D (.deferred none)) := below_putD hD
  have h4' : tp[4]?.getD undef = .pointer (some ⟨w.heap.size + 1, 0, none⟩) := by simpa using h4
  have h5' : tp[5]?.getD undef = .pointer (some ⟨w.heap.size + 1 + 1, 0, none⟩) := by simpa using h5
  have hc4 : (WZ.putObj D (.deferred none)).cell? ⟨w.heap.size + 1, 0, none⟩ = some (.int .i64 v.1) := (h.ra.below hbq (by omega)).cell 0
  have hc5 : (WZ.putObj D (.deferred none)).cell? ⟨w.heap.size + 1 + 1, 0, none⟩ = some (.bool v.2) := (h.rb.below hbq (by omega)).cell 0
  exact fin_mark hK ⟨_, by simp [results, Try.results21, go_sem, h4', h5', hc4, hc5], rfl, h.below.trans (hbq.mono (by omega))⟩
set_option maxRecDepth 100000 in
set_option maxHeartbeats 1000000 in
theorem EpochOf_err (A : Option Addr) (n c : Nat) (y : Int) (l : List Span) (w : World) (hR : RdS w A n l) (hl : n ≤ 1000) (hz : lineageE l ≠ 0) :
    Calls Try.prog 21 #[.slice A n c, .int .i64 y] w fun e w' => e = .returned (.tuple #[.int .i64 0, .bool false]) ∧ Below w.heap.size w w' := by
  have hb : Below w.heap.size w (((w.alloc (.cells #[.int .i64 y] 3)).alloc (.cells #[.int .i64 0] 3)).alloc (.cells #[.bool false] 4)) := (((Below.refl _ w).alloc (Nat.le_refl _) _).alloc (by simp) _).alloc (by simp; omega) _
  have HB := Lib.hid hb
  have HC := Lib.hid (CheckLineage_any A n c l _ (hR.up hb) hl)
  obtain ⟨v, hvv⟩ : ∃ v, lineageE l = v := ⟨_, rfl⟩
  rw [hvv] at HC hz
  have hz' : (v != 0) = true := by simpa using hz
  clear hvv hb
  go_enter Try.func21, Try.ntmps21
  go_wp2_with fail
  refine HC.out.mono ?_
  rintro e w1 ⟨rfl, hb1⟩
  obtain ⟨hc, hfz⟩ := bcell hb1
  have hz3 : w.heap.size + 1 + 1 < w1.heap.size := by have := hb1.size; simp at this; omega
  have hbb := HB.out.trans (hb1.mono HB.out.size)
  go_wp2_with fail
  refine bodyPost_ret (v := .tuple #[.int .i64 0, .bool false]) (by simp [results, Try.results21, go_sem, hc]) rfl ⟨rfl, ?_⟩
  exact (hbb.setCell (p := ⟨w.heap.size + 1, 0, none⟩) (by dsimp only; omega) _).setCell (p := ⟨w.heap.size + 1 + 1, 0, none⟩) (by dsimp only; omega) _
set_option maxRecDepth 100000 in
set_option maxHeartbeats 1000000 in
theorem EpochOf_ok (A : Option Addr) (g off c : Nat) (y : Int) (l : List Span) (w : World) (hR : RdS w A l.length l) (hg : 0 < l.length → A = some ⟨g, off, none⟩ ∧ g < w.heap.size) (hl : l.length ≤ 1000) (hz : lineageE l = 0)
    (hcs : ∀ i, i < l.length → w.cell? ⟨g, off + i * 3, none⟩ = some (.int .i64 (atS l i).e) ∧ w.cell? ⟨g, off + i * 3 + 1, none⟩ = some (.int .i64 (atS l i).f) ∧ w.cell? ⟨g, off + i * 3 + 2, none⟩ = some (.int .i64 (atS l i).t)) :
    CallsIn Fence.wide 4 Try.prog 21 #[.slice A l.length c, .int .i64 y] w fun e w' => e = .returned (.tuple #[.int .i64 (epochAt y l).1, .bool (epochAt y l).2]) ∧ Below w.heap.size w w' := by
  have HC := Lib.hid hcs
  have hb : Below w.heap.size w (((w.alloc (.cells #[.int .i64 y] 3)).alloc (.cells #[.int .i64 0] 3)).alloc (.cells #[.bool false] 4)) := (((Below.refl _ w).alloc (Nat.le_refl _) _).alloc (by simp) _).alloc (by simp; omega) _
  have HB := Lib.hid hb
  have HCL := Lib.hid (CheckLineage_any A l.length c l _ (hR.up hb) hl)
  rw [hz] at HCL
  have h1 := ((Blk.new w 3 #[.int .i64 y]).alloc (.cells #[.int .i64 0] 3)).alloc (.cells #[.bool false] 4)
  have h2 := (Blk.new (w.alloc (.cells #[.int .i64 y] 3)) 3 #[.int .i64 0]).alloc (.cells #[.bool false] 4)
  have h3 := Blk.new ((w.alloc (.cells #[.int .i64 y] 3)).alloc (.cells #[.int .i64 0] 3)) 4 #[.bool false]
  simp only [World.size_alloc] at h2 h3
  have H := Lib.hid (And.intro h1 (And.intro h2 h3))
  clear h1 h2 h3 hcs hR hb hz
  refine callsIn_of_wp_marks Try.func21 rfl trivial ?_ rfl
  simp only [Try.ntmps21, List.size_toArray, List.length_cons, List.length_nil, Nat.reduceAdd, Nat.reduceSub, Array.replicate_succ, Array.replicate_zero, List.push_toArray, List.append_toArray, List.nil_append, List.cons_append]
  refine wpIn_wide.2 ?_
  go_wp2_with fail
  refine HCL.out.mono ?_
  rintro e w1 ⟨rfl, hb1⟩
  have hz3 : w.heap.size + 3 ≤ w1.heap.size := by have := hb1.size; simp at this; omega
  have HB1 := Lib.hid hb1
  clear hb1
  go_wp2_with fail
  refine (begins_any _ _ _ _).mono ?_
  rintro e w7 ⟨rfl, hb7, hk7⟩
  have hl7 := hk7.lt
  have hbw : Below w.heap.size w w7 := (HB.out.trans (HB1.out.mono HB.out.size)).trans (hb7.mono (by omega))
  have lift : ∀ {g9 : Nat} {t9 : TypeId} {cs : Array Value}, g9 < w.heap.size + 3 → Blk (((w.alloc (.cells #[.int .i64 y] 3)).alloc (.cells #[.int .i64 0] 3)).alloc (.cells #[.bool false] 4)) g9 t9 cs → Blk w7 g9 t9 cs := fun hl h => (h.below HB1.out (by simp; omega)).below hb7 (by omega)
  have hI0 : EpI w w7.heap.size y l [] w7 := ⟨Nat.le_refl _, lift (by omega) H.out.1, lift (by omega) H.out.2.1, lift (by omega) H.out.2.2, hbw, 0, rfl, by omega, rfl⟩
  have HS := Lib.hid (begins1_stops 3 (by omega) A w1.heap.size g off c w.heap.size l w7 hl7 hg hbw.size hl hk7 (fun i hi => ⟨(hbw.cell (p := ⟨g, off + i * 3, none⟩) (hg (by omega)).2).trans (HC.out i hi).1, (hbw.cell (p := ⟨g, off + i * 3 + 1, none⟩) (hg (by omega)).2).trans (HC.out i hi).2.1, (hbw.cell (p := ⟨g, off + i * 3 + 2, none⟩) (hg (by omega)).2).trans (HC.out i hi).2.2⟩))
  have HI0 := Lib.hid hI0
  clear hI0 hk7 hg lift
  go_wp2_with fail
  refine (wpIn_wide (n := 4)).1 ?_
  refine wpIn_rangeFunc_O (w0 := w7) rfl (by omega) (gf := 57) (lb := #[.pointer (some ⟨w1.heap.size, 0, none⟩)]) rfl trivial enters57 HS.out BKeep.trans (fun W l o o' hl _ _ _ => BKeep.put W l o' (by omega) (by omega)) (Below.refl _ _) (fun _ => rfl)
    (EpI w w7.heap.size y l) (fun cd pre W => cd = .ret ∧ EpX w w7.heap.size (epochAt y l) W)
    (fun s A C h hk => h.keep (by omega) hk) (fun cd s A C h hk => ⟨h.1, h.2.keep (by omega) hk⟩) HI0.out
    ?round ?done ?stop
  case round =>
    rintro lf pre x W0 W hI0' hI hA hW0 hsW ⟨j, hj, hpre⟩
    obtain ⟨k, hk, hkl, hlin⟩ := hI.sofar
    obtain ⟨rfl, rfl⟩ := range_snoc hk hpre
    have hsz1 := hI.size
    have hsW' : W0.heap.size + 1 ≤ W.heap.size := by omega
    clear hsW
    have HL := Lib.hid hlin
    have HD := Lib.hid (epochAt_drop y l j hj)
    have HPRE := Lib.hid hpre
    have HI := Lib.hid hI
    clear hI hI0' hlin hk hpre hA
    generalize hxs : atS l j = s at *
    have HXS := Lib.hid hxs
    clear hxs
    simp only [spanV]
    have hbW : Below W.heap.size W (W.alloc (.cells #[.int .i64 s.e, .int .i64 s.f, .int .i64 s.t] 68)) := (Below.refl _ W).alloc (Nat.le_refl _) _
    have HB := Lib.hid hbW
    have H4 := Lib.hid (Blk.new W 68 #[.int .i64 s.e, .int .i64 s.f, .int .i64 s.t])
    clear hbW
    gi_wp2
    refine ⟨HB.out, BKeep.of_below HB.out (by omega) (by omega), ?_⟩
    intro V hAV hsV
    have hk4 : Blk V W.heap.size 68 #[.int .i64 s.e, .int .i64 s.f, .int .i64 s.t] := (hAV.block _ (by simp) (by omega)).trans H4.out
    have hIV : EpI w w7.heap.size y l pre V := (HI.out.keep (by omega) ⟨HB.out.os, HB.out.tape, HB.out.output, HB.out.size, fun i hi _ => HB.out.block i hi⟩).keep (by omega) (hAV.mono (fun i hi => ⟨by omega, by omega⟩))
    have ka : V.cell? ⟨w.heap.size, 0, none⟩ = some (.int .i64 y) := hIV.arg.cell 0
    have kra : V.cell? ⟨w.heap.size + 1, 0, none⟩ = some (.int .i64 0) := hIV.ra.cell 0
    have kraf : V.frozen? ⟨w.heap.size + 1, 0, none⟩ = false := hIV.ra.frozen 0
    have krb : V.cell? ⟨w.heap.size + 1 + 1, 0, none⟩ = some (.bool false) := hIV.rb.cell 0
    have krbf : V.frozen? ⟨w.heap.size + 1 + 1, 0, none⟩ = false := hIV.rb.frozen 0
    have HIV := Lib.hid hIV
    have c40 := hk4.cell 0
    have c41 := hk4.cell 1
    have c42 := hk4.cell 2
    have hsV' : W.heap.size + 1 ≤ V.heap.size := by rw [hsV]; simp
    simp only [List.getElem?_toArray, List.getElem?_cons_zero, List.getElem?_cons_succ] at c40 c41 c42
    clear hk4 hIV hsV hAV H4
    by_cases c0 : s.f ≤ y ∧ y ≤ s.t
    · obtain ⟨c0, c1⟩ := c0
      gi_wp2
      have hE : epochAt y l = (s.e, true) := by rw [HL.out, HD.out, if_pos ⟨c0, c1⟩]
      refine ⟨(KeepsOthers.setCell _ _ _).trans (KeepsOthers.setCell _ _ _), rfl, ?_⟩
      rw [hE]
      exact HIV.out.put (s.e, true)
    · have fin : ∀ a, oPost (BKeep w.heap.size w1.heap.size) w7.heap.size W0.heap.size (EpI w w7.heap.size y l) (fun cd pre W => cd = Code.ret ∧ EpX w w7.heap.size (epochAt y l) W) (pre ++ [j]) V Exit.normal a V := fun a => by
        refine oPost_new (Below.refl _ _) (by omega) (by omega) (by omega) (by omega) ?_
        refine ⟨HIV.out.size, HIV.out.arg, HIV.out.ra, HIV.out.rb, HIV.out.below, j + 1, HPRE.out, by omega, ?_⟩
        rw [HL.out, HD.out, if_neg c0]
      have FIN := Lib.hid fin
      clear fin
      by_cases c2 : s.f ≤ y
      · have c3 : ¬ y ≤ s.t := fun h => c0 ⟨c2, h⟩
        clear c0
        gi_wp2
        exact FIN.out _
      · clear c0
        by_cases c4 : y ≤ s.t
        all_goals
          gi_wp2
          exact FIN.out _
  case done =>
    rintro D ys W hD hS hI hK
    obtain ⟨k, hk, hkl, hlin⟩ := hI.sofar
    have hkl : k = l.length := by
      rw [hS] at hk
      simpa using (congrArg List.length hk).symm
    rw [hkl, List.drop_length] at hlin
    have HL := Lib.hid hlin
    have kra : W.cell? ⟨w.heap.size + 1, 0, none⟩ = some (.int .i64 0) := hI.ra.cell 0
    have kraf : W.frozen? ⟨w.heap.size + 1, 0, none⟩ = false := hI.ra.frozen 0
    have krb : W.cell? ⟨w.heap.size + 1 + 1, 0, none⟩ = some (.bool false) := hI.rb.cell 0
    have krbf : W.frozen? ⟨w.heap.size + 1 + 1, 0, none⟩ = false := hI.rb.frozen 0
    have HI := Lib.hid hI
    clear hI hlin hkl hk hS
    gi_wp2
    go_wp2
    have hz := HI.out.size
    rw [HL.out]
    exact ep_fin (B := w7.heap.size) (by omega) hD (((KeepsOthers.setCell W ⟨w.heap.size + 1, 0, none⟩ (.int .i64 0)).trans (KeepsOthers.setCell _ ⟨w.heap.size + 1 + 1, 0, none⟩ (.bool false))).same D _ hK rfl) (HI.out.put (0, false)) _ rfl rfl
  case stop =>
    rintro D c pre W hD hS ⟨rfl, hX⟩ hK
    gi_wp2
    exact ep_fin (B := w7.heap.size) (by omega) hD hK hX _ rfl rfl
theorem EpochOf_any (A : Option Addr) (n c : Nat) (y : Int) (l : List Span) (w : World) (hR : RdS w A n l) (hl : n ≤ 1000) :
    Calls Try.prog 21 #[.slice A n c, .int .i64 y] w fun e w' => e = .returned (.tuple #[.int .i64 (epochV l y).1, .bool (epochV l y).2]) ∧ Below w.heap.size w w' := by
  by_cases hz : lineageE l = 0
  · have hlen := hR.len
    subst hlen
    obtain ⟨g, off, hg, hc⟩ := hR.cells
    rw [show epochV l y = epochAt y l from if_pos hz]
    exact callsIn_wide.1 (EpochOf_ok A g off c y l w hR hg hl hz hc)
  · rw [show epochV l y = (0, false) from if_neg hz]
    exact EpochOf_err A n c y l w hR hl hz
end Go.Proofs.Ytnhemndpnjhbfaa
