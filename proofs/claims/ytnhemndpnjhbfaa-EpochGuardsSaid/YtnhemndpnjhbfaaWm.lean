/- The walk of CheckLineage. Condition: at most 1000 spans. -/
import Derived.Test.YtnhemndpnjhbfaaMath
namespace Go.Proofs.Ytnhemndpnjhbfaa
open Go.RowKit Go.Shelf
attribute [local go_sem] Oper.semAt_some
theorem Aside.below {S : Nat → Prop} {A C : World} {n : Nat} (h : Aside S A C) (hS : ∀ k, S k → n ≤ k) (hn : n ≤ A.heap.size) : Below n A C :=
  ⟨h.os, h.tape, h.output, h.size, fun k hk => h.block k (by omega) (fun q => by have := hS k q; omega)⟩
theorem three_le {n k : Nat} (h : three n k) : n ≤ k := h.1
theorem KeepsOthers.of_below {A C : World} (h : Below A.heap.size A C) : KeepsOthers A C :=
  ⟨h.size, fun k _ hk _ => (h.block k (Array.getElem?_eq_some_iff.1 hk).1).trans hk⟩
theorem BKeep.of_below {n₀ B1 : Nat} {A C : World} (h : Below A.heap.size A C) (hn : n₀ ≤ A.heap.size) (hB : B1 < A.heap.size) : BKeep n₀ B1 A C :=
  ⟨h.mono hn, h.block B1 hB⟩
theorem BKeep.trans {n₀ B1 : Nat} {A B C : World} (h : BKeep n₀ B1 A B) (k : BKeep n₀ B1 B C) : BKeep n₀ B1 A C := ⟨h.1.trans k.1, k.2.trans h.2⟩
theorem BKeep.put {n₀ B1 : Nat} (W : World) (l : Nat) (o' : Obj) (h : n₀ ≤ l) (h1 : B1 ≠ l) : BKeep n₀ B1 W (W.putObj l o') :=
  ⟨⟨rfl, rfl, rfl, by simp, fun k hk => World.putObj_heap_other (by omega)⟩, World.putObj_heap_other h1⟩
/-- a round that made nothing but new memory goes on -/
theorem oPost_new {α : Type} {n₀ B1 n1 m : Nat} {I : List α → World → Prop} {Ix : Code → List α → World → Prop} {xs : List α} {W W' : World} {a : Act} (h : Below W.heap.size W W') (hn : n₀ ≤ W.heap.size) (hB : B1 < W.heap.size) (h1 : n1 + 2 < W.heap.size) (h2 : m < W.heap.size) (hI : I xs W') :
    oPost (BKeep n₀ B1) n1 m I Ix xs W .normal a W' :=
  ⟨KeepsOthers.of_below h, ⟨h.block _ h1, h.block _ h2, BKeep.of_below h hn hB⟩, hI⟩
/-- what a round of CheckLineage finds -/
structure LinI (w : World) (B : Nat) (l : List Span) (pre : List Nat) (W : World) : Prop where
  size : B ≤ W.heap.size
  res : Blk W w.heap.size 24 #[.int .i64 0]
  below : Below w.heap.size w W
  sofar : ∃ k, pre = List.range k ∧ k ≤ l.length ∧ lineageE l = linE (prevS l k) (l.drop k) ∧ 0 ≤ (prevS l k).t ∧ (prevS l k).t ≤ 1073741824
theorem LinI.keep {w : World} {B : Nat} {l : List Span} {pre : List Nat} {A C : World} (h : LinI w B l pre A) (hB : w.heap.size < B) (hk : Aside (three B) A C) : LinI w B l pre C :=
  ⟨Nat.le_trans h.size hk.size, (hk.block _ h.res.lt (fun q => by have := three_le q; omega)).trans h.res, h.below.trans (hk.below (fun k hk => by have := three_le hk; omega) h.below.size), h.sofar⟩
/-- what a round that leaves has left -/
structure LinX (w : World) (B : Nat) (l : List Span) (W : World) : Prop where
  size : B ≤ W.heap.size
  res : Blk W w.heap.size 24 #[.int .i64 (lineageE l)]
  below : Below w.heap.size w W
theorem LinX.keep {w : World} {B : Nat} {l : List Span} {A C : World} (h : LinX w B l A) (hB : w.heap.size < B) (hk : Aside (three B) A C) : LinX w B l C :=
  ⟨Nat.le_trans h.size hk.size, (hk.block _ h.res.lt (fun q => by have := three_le q; omega)).trans h.res, h.below.trans (hk.below (fun k hk => by have := three_le hk; omega) h.below.size)⟩
theorem range_snoc {pre : List Nat} {k j x : Nat} (h1 : pre = List.range k) (h2 : pre ++ [x] = List.range (j + 1)) : x = k ∧ j = k := by
  subst h1
  rw [List.range_succ] at h2
  obtain ⟨a, b⟩ := List.append_inj' h2 rfl
  have hk : k = j := by simpa using congrArg List.length a
  exact ⟨by simpa [hk] using b, hk.symm⟩
theorem RdS.len {w : World} {A : Option Addr} {n : Nat} {l : List Span} (h : RdS w A n l) : l.length = n := Reads.count h (fun _ => rfl) (by omega)
theorem RdS.up {w w' : World} {A : Option Addr} {n : Nat} {l : List Span} (h : RdS w A n l) (hb : Below w.heap.size w w') : RdS w' A n l := Reads.up h hb
theorem RdS.cells {w : World} {A : Option Addr} {n : Nat} {l : List Span} (h : RdS w A n l) : ∃ g off, (0 < l.length → A = some ⟨g, off, none⟩ ∧ g < w.heap.size) ∧
    ∀ i, i < l.length → w.cell? ⟨g, off + i * 3, none⟩ = some (.int .i64 (atS l i).e) ∧ w.cell? ⟨g, off + i * 3 + 1, none⟩ = some (.int .i64 (atS l i).f) ∧ w.cell? ⟨g, off + i * 3 + 2, none⟩ = some (.int .i64 (atS l i).t) := by
  have hl := h.len
  rcases Nat.eq_zero_or_pos l.length with h0 | h0
  · exact ⟨0, 0, fun h => by omega, fun i hi => by omega⟩
  · obtain ⟨g, off, hA, hg, hc⟩ := Reads.elems3 h (fun _ => rfl) (by omega)
    refine ⟨g, off, fun _ => ⟨hA, hg⟩, fun i hi => ?_⟩
    have := hc i hi _ _ _ rfl
    have ha : atS l i = l[i] := by simp [atS, hi]
    rw [ha]
    exact this
theorem firstV_lin (a b c d : Array Value) (p s : Span) : firstV [⟨46, a, inB s.e 1 && inB s.f 1 && inB s.t 1, 2⟩, ⟨47, b, decide (s.f ≤ s.t), 3⟩, ⟨48, c, decide (s.f = p.t + 1), 15⟩, ⟨49, d, decide (p.e < s.e), 13⟩] = chkS p s := by
  simp only [firstV, chkS, decide_eq_true_eq]
/-- a function leaves behind a loop's deferred block -/
theorem fin_mark {fn : Func} {R : Ending → World → Prop} {D : Nat} {W : World} {tp : Array Value} (hK : W.heap[D]? = some (.deferred (some []))) (h : ∃ v, (results fn tp).run Try.prog (W.putObj D (.deferred none)) = .ok v (W.putObj D (.deferred none)) ∧ R (.returned v) (W.putObj D (.deferred none))) :
    bodyPostM Fence.wide 4 Try.prog fn R .ret { tmps := tp, defers := [{ target := .collected D, args := #[] }] } W :=
  ⟨by simp, .inl ⟨_, _, rfl, run_takeDeferred hK, h⟩⟩
theorem below_putD {B D : Nat} {W : World} {o : Obj} (hB : B ≤ D) : Below B W (W.putObj D o) := ⟨rfl, rfl, rfl, by simp, fun k hk => World.putObj_heap_other (by omega)⟩
theorem lin_fin {B D : Nat} {w WZ : World} {v : Int} (hB : w.heap.size < B) (hD : B ≤ D) (hK : WZ.heap[D]? = some (.deferred (some []))) (ra : Blk WZ w.heap.size 24 #[.int .i64 v])
    (hb : Below w.heap.size w WZ) (tp : Array Value) (h2 : tp.getD 2 undef = .pointer (some ⟨w.heap.size, 0, none⟩)) :
    bodyPostM Fence.wide 4 Try.prog Try.f23 (fun e w' => e = .returned (.int .i64 v) ∧ Below w.heap.size w w') .ret { tmps := tp, defers := [{ target := .collected D, args := #[] }] } WZ := by
  have hbq : Below B WZ (WZ.putObj D (.deferred none)) := below_putD hD
  have hp' : tp[2]?.getD undef = .pointer (some ⟨w.heap.size, 0, none⟩) := by simpa using h2
  have hc : (WZ.putObj D (.deferred none)).cell? ⟨w.heap.size, 0, none⟩ = some (.int .i64 v) := (ra.below hbq (by omega)).cell 0
  exact fin_mark hK ⟨_, by simp [results, Try.results23, go_sem, hp', hc], rfl, hb.trans (hbq.mono (by omega))⟩
set_option maxRecDepth 100000 in
set_option maxHeartbeats 1000000 in
theorem CheckLineage_ok (A : Option Addr) (g off c : Nat) (l : List Span) (w : World) (hg : 0 < l.length → A = some ⟨g, off, none⟩ ∧ g < w.heap.size) (hl : l.length ≤ 1000)
    (hcs : ∀ i, i < l.length → w.cell? ⟨g, off + i * 3, none⟩ = some (.int .i64 (atS l i).e) ∧ w.cell? ⟨g, off + i * 3 + 1, none⟩ = some (.int .i64 (atS l i).f) ∧ w.cell? ⟨g, off + i * 3 + 2, none⟩ = some (.int .i64 (atS l i).t)) :
    CallsIn Fence.wide 4 Try.prog 23 #[.slice A l.length c] w fun e w' => e = .returned (.int .i64 (lineageE l)) ∧ Below w.heap.size w w' := by
  have HC := Lib.hid hcs
  have hb : Below w.heap.size w (w.alloc (.cells #[.int .i64 0] 24)) := (Below.refl _ w).alloc (Nat.le_refl _) _
  have h1 := Blk.new w 24 #[.int .i64 0]
  have H1 := Lib.hid h1
  clear h1 hcs
  refine callsIn_of_wp_marks Try.func23 rfl trivial ?_ rfl
  simp only [Try.ntmps23, List.size_toArray, List.length_cons, List.length_nil, Nat.reduceAdd, Nat.reduceSub, Array.replicate_succ, Array.replicate_zero, List.push_toArray, List.append_toArray, List.nil_append, List.cons_append]
  refine wpIn_wide.2 ?_
  go_wp2_with fail
  refine (begins_any _ _ _ _).mono ?_
  rintro e w7 ⟨rfl, hb7, hk7⟩
  have hsz : (w.alloc (.cells #[.int .i64 0] 24)).heap.size = w.heap.size + 1 := by simp
  rw [hsz] at hb7 hk7
  have hl7 := hk7.lt
  have hbw : Below w.heap.size w w7 := hb.trans (hb7.mono (by omega))
  have hI0 : LinI w w7.heap.size l [] w7 := ⟨Nat.le_refl _, H1.out.below hb7 (by omega), hbw, 0, rfl, by omega, rfl, (by show (0:Int) ≤ 0; omega), (by show (0:Int) ≤ 1073741824; omega)⟩
  have HS := Lib.hid (begins1_stops 3 (by omega) A (w.heap.size + 1) g off c w.heap.size l w7 hl7 hg hbw.size hl hk7 (fun i hi => ⟨(hbw.cell (p := ⟨g, off + i * 3, none⟩) (hg (by omega)).2).trans (HC.out i hi).1, (hbw.cell (p := ⟨g, off + i * 3 + 1, none⟩) (hg (by omega)).2).trans (HC.out i hi).2.1, (hbw.cell (p := ⟨g, off + i * 3 + 2, none⟩) (hg (by omega)).2).trans (HC.out i hi).2.2⟩))
  have HI0 := Lib.hid hI0
  clear hI0 hk7 hg
  go_wp2_with fail
  refine (wpIn_wide (n := 4)).1 ?_
  refine wpIn_rangeFunc_O (w0 := w7) rfl (by omega) (gf := 57) (lb := #[.pointer (some ⟨w.heap.size + 1, 0, none⟩)]) rfl trivial enters57 HS.out BKeep.trans (fun W l o o' hl _ _ _ => BKeep.put W l o' (by omega) (by omega)) (Below.refl _ _) (fun _ => rfl)
    (LinI w w7.heap.size l) (fun cd pre W => cd = .ret ∧ LinX w w7.heap.size l W)
    (fun s A C h hk => h.keep (by omega) hk) (fun cd s A C h hk => ⟨h.1, h.2.keep (by omega) hk⟩) HI0.out
    ?round ?done ?stop
  case round =>
    rintro lf pre x W0 W hI0' hI hA hW0 hsW ⟨j, hj, hpre⟩
    obtain ⟨k, hk, hkl, hlin, ht0, ht1⟩ := hI.sofar
    obtain ⟨rfl, rfl⟩ := range_snoc hk hpre
    have hsz1 := hI.size
    have hsW' : W0.heap.size + 1 ≤ W.heap.size := by omega
    clear hsW
    have HL := Lib.hid hlin
    have HD := Lib.hid (linE_drop l j hj)
    have HZ := Lib.hid (fun hz => chkS_zero (p := prevS l j) (s := atS l j) hz)
    have HP := Lib.hid (prevS_succ l j)
    have HPRE := Lib.hid hpre
    have HI := Lib.hid hI
    clear hI hI0' hlin hk hpre hA
    generalize hps : prevS l j = p at *
    generalize hxs : atS l j = s at *
    have HPS := Lib.hid hps
    have HXS := Lib.hid hxs
    clear hps hxs
    simp only [spanV]
    have hbW : Below W.heap.size W ((W.alloc (.cells #[.int .i64 p.e, .int .i64 p.f, .int .i64 p.t] 68)).alloc (.cells #[.int .i64 s.e, .int .i64 s.f, .int .i64 s.t] 68)) := ((Below.refl _ W).alloc (Nat.le_refl _) _).alloc (by simp) _
    have HB := Lib.hid hbW
    have hk3 := (Blk.new W 68 #[.int .i64 p.e, .int .i64 p.f, .int .i64 p.t]).alloc (.cells #[.int .i64 s.e, .int .i64 s.f, .int .i64 s.t] 68)
    have hk4 := Blk.new (W.alloc (.cells #[.int .i64 p.e, .int .i64 p.f, .int .i64 p.t] 68)) 68 #[.int .i64 s.e, .int .i64 s.f, .int .i64 s.t]
    rw [World.size_alloc] at hk4
    have H34 := Lib.hid (And.intro hk3 hk4)
    clear hk3 hk4 hbW
    gi_wp2
    refine ⟨HB.out, BKeep.of_below HB.out (by omega) (by omega), ?_⟩
    intro V hAV hsV
    have hV : ∀ i, i ≠ w7.heap.size + 1 → i < W.heap.size + 2 → V.heap[i]? = ((W.alloc (.cells #[.int .i64 p.e, .int .i64 p.f, .int .i64 p.t] 68)).alloc (.cells #[.int .i64 s.e, .int .i64 s.f, .int .i64 s.t] 68)).heap[i]? := fun i hi hl => hAV.block i (by simp; omega) hi
    have hk3 : Blk V W.heap.size 68 #[.int .i64 p.e, .int .i64 p.f, .int .i64 p.t] := (hV _ (by omega) (by omega)).trans H34.out.1
    have hk4 : Blk V (W.heap.size + 1) 68 #[.int .i64 s.e, .int .i64 s.f, .int .i64 s.t] := (hV _ (by omega) (by omega)).trans H34.out.2
    have hIV : LinI w w7.heap.size l pre V := (HI.out.keep (by omega) ⟨HB.out.os, HB.out.tape, HB.out.output, HB.out.size, fun i hi _ => HB.out.block i hi⟩).keep (by omega) (hAV.mono (fun i hi => ⟨by omega, by omega⟩))
    have kra : V.cell? ⟨w.heap.size, 0, none⟩ = some (.int .i64 0) := hIV.res.cell 0
    have kraf : V.frozen? ⟨w.heap.size, 0, none⟩ = false := hIV.res.frozen 0
    have HIV := Lib.hid hIV
    have c30 := hk3.cell 0
    have c32 := hk3.cell 2
    have c40 := hk4.cell 0
    have c41 := hk4.cell 1
    have c42 := hk4.cell 2
    have hsV' : W.heap.size + 2 ≤ V.heap.size := by rw [hsV]; simp
    simp only [List.getElem?_toArray, List.getElem?_cons_zero, List.getElem?_cons_succ] at c30 c32 c40 c41 c42
    have HF := Lib.hid (first_new [⟨46, #[.pointer (some ⟨W.heap.size + 1, 0, none⟩)], inB s.e 1 && inB s.f 1 && inB s.t 1, 2⟩, ⟨47, #[.pointer (some ⟨W.heap.size + 1, 0, none⟩)], decide (s.f ≤ s.t), 3⟩, ⟨48, #[.pointer (some ⟨W.heap.size + 1, 0, none⟩), .pointer (some ⟨W.heap.size, 0, none⟩)], decide (s.f = p.t + 1), 15⟩, ⟨49, #[.pointer (some ⟨W.heap.size + 1, 0, none⟩), .pointer (some ⟨W.heap.size, 0, none⟩)], decide (p.e < s.e), 13⟩] 4 V _ rfl 4 rfl (by decide) (by
      intro r hr
      simp only [List.mem_cons, List.not_mem_nil, or_false] at hr
      rcases hr with rfl | rfl | rfl | rfl
      · exact lin1_ok _ s.e s.f s.t V (by omega) (by omega) (by omega) c40 c41 c42
      · exact lin2_ok _ s.f s.t V (by omega) (by omega) c41 c42
      · exact lin3_ok _ _ s.f p.t ht0 ht1 V (by omega) (by omega) c41 c32
      · exact lin4_ok _ _ s.e p.e V (by omega) (by omega) c40 c30))
    rw [firstV_lin] at HF
    obtain ⟨v, hvv⟩ : ∃ v, chkS p s = v := ⟨_, rfl⟩
    rw [hvv] at HF
    have HVV := Lib.hid hvv
    clear hvv hk3 hk4 hIV hV hsV hAV H34 c30 c32 c40 c41 c42
    by_cases c0 : v = 0
    · subst c0
      gi_wp2
      refine ⟨trivial, ?_⟩
      refine (CallsIn.inRound lf (callsIn_wide.2 HF.out)).mono ?_
      rintro e w8 ⟨rfl, hb8⟩
      gi_wp2
      refine oPost_new hb8 (by omega) (by omega) (by omega) (by omega) ?_
      obtain ⟨z1, z2, z3, z4, z5, z6, z7⟩ := HZ.out HVV.out
      refine ⟨Nat.le_trans HIV.out.size hb8.size, HIV.out.res.below hb8 (by omega), HIV.out.below.trans (hb8.mono (by omega)), j + 1, HPRE.out, by omega, ?_, ?_, ?_⟩
      · rw [HL.out, HD.out, if_pos HVV.out]
      · rw [HP.out]; omega
      · rw [HP.out]; omega
    · have c0' : (v != 0) = true := by simpa using c0
      gi_wp2
      refine ⟨trivial, ?_⟩
      refine (CallsIn.inRound lf (callsIn_wide.2 HF.out)).mono ?_
      rintro e w8 ⟨rfl, hb8⟩
      have kra8 := (hb8.cell (p := ⟨w.heap.size, 0, none⟩) (by dsimp only; omega)).trans kra
      have kraf8 := (hb8.frozen (p := ⟨w.heap.size, 0, none⟩) (by dsimp only; omega)).trans kraf
      clear kra kraf
      gi_wp2
      have hE : lineageE l = v := by rw [HL.out, HD.out, HVV.out, if_neg c0]
      refine ⟨(KeepsOthers.of_below hb8).trans (KeepsOthers.setCell _ _ _), rfl, Nat.le_trans HIV.out.size (by have := hb8.size; simpa [World.setCell] using this), ?_, (HIV.out.below.trans (hb8.mono (by omega))).setCell (by dsimp only; omega) _⟩
      rw [hE]
      exact (HIV.out.res.below hb8 (by omega)).set_ 0 (.int .i64 v)
  case done =>
    rintro D ys W hD hS hI hK
    obtain ⟨k, hk, hkl, hlin, -, -⟩ := hI.sofar
    have hkl : k = l.length := by
      rw [hS] at hk
      simpa using (congrArg List.length hk).symm
    rw [hkl, List.drop_length] at hlin
    have HL := Lib.hid hlin
    have kra : W.cell? ⟨w.heap.size, 0, none⟩ = some (.int .i64 0) := hI.res.cell 0
    have kraf : W.frozen? ⟨w.heap.size, 0, none⟩ = false := hI.res.frozen 0
    have HI := Lib.hid hI
    clear hI hlin hkl hk hS
    gi_wp2
    go_wp2
    have hz := HI.out.size
    refine lin_fin (B := w7.heap.size) (by omega) hD ((KeepsOthers.setCell W ⟨w.heap.size, 0, none⟩ (.int .i64 0)).same D _ hK rfl) (HL.out ▸ HI.out.res.set_ 0 (.int .i64 0)) (HI.out.below.setCell (by dsimp only; omega) _) _ rfl
  case stop =>
    rintro D c pre W hD hS ⟨rfl, hX⟩ hK
    gi_wp2
    exact lin_fin (B := w7.heap.size) (by omega) hD hK hX.res hX.below _ rfl
theorem CheckLineage_any (A : Option Addr) (n c : Nat) (l : List Span) (w : World) (hR : RdS w A n l) (hl : n ≤ 1000) :
    Calls Try.prog 23 #[.slice A n c] w fun e w' => e = .returned (.int .i64 (lineageE l)) ∧ Below w.heap.size w w' := by
  have hlen := hR.len
  subst hlen
  obtain ⟨g, off, hg, hc⟩ := hR.cells
  exact callsIn_wide.1 (CheckLineage_ok A g off c l w hg hl hc)
end Go.Proofs.Ytnhemndpnjhbfaa
