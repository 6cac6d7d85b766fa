/- The walk of Truncate. Condition: at most 1000 spans. -/
import Derived.Test.YtnhemndpnjhbfaaWn
namespace Go.Proofs.Ytnhemndpnjhbfaa
open Go.RowKit Go.Shelf
attribute [local go_sem] Oper.semAt_some
/-- the spans up to a cycle -/
def truncL (c : Int) : List Span → List Span
  | [] => []
  | s :: l => if s.f ≤ c then ⟨s.e, s.f, if c < s.t then c else s.t⟩ :: truncL c l else truncL c l
def truncV (l : List Span) (c : Int) : List Span := if lineageE l = 0 then truncL c l else []
theorem truncL_append (c : Int) (l l' : List Span) : truncL c (l ++ l') = truncL c l ++ truncL c l' := by
  induction l with
  | nil => rfl
  | cons s l ih =>
    simp only [List.cons_append, truncL]
    split
    · rw [ih]; rfl
    · exact ih
theorem truncL_take (c : Int) (l : List Span) (k : Nat) (h : k < l.length) : truncL c (l.take (k + 1)) = truncL c (l.take k) ++ (if (atS l k).f ≤ c then [⟨(atS l k).e, (atS l k).f, if c < (atS l k).t then c else (atS l k).t⟩] else []) := by
  have ha : atS l k = l[k] := by simp [atS, h]
  rw [List.take_succ_eq_append_getElem h, truncL_append, ha]
  rfl
theorem truncL_len (c : Int) (l : List Span) : (truncL c l).length ≤ l.length := by
  induction l with
  | nil => simp [truncL]
  | cons s l ih =>
    simp only [truncL]
    split <;> simp <;> omega
theorem own_aside {S : Nat → Prop} {A C : World} {base size n : Nat} {e : TypeId} {v : Value} {xs : List Value} (h : A.ownsRow base e size v n xs) (hk : Aside S A C) (hS : ∀ k, S k → k < base) : C.ownsRow base e size v n xs := by
  refine ⟨h.1, h.2.imp id ?_⟩
  rintro ⟨g, cap, cur, hv, hb, hg, hr⟩
  exact ⟨g, cap, cur, hv, hb, (hk.block g (Array.getElem?_eq_some_iff.1 hg).1 (fun q => by have := hS g q; omega)).trans hg, hr⟩
theorem encS_len (l : List Span) : (l.flatMap encS).length = l.length * 3 := flatMap_len (E := encS) (sz := 3) (fun _ => rfl) l
/-- what a round of Truncate finds -/
structure TrI (w : World) (B : Nat) (c : Int) (l : List Span) (pre : List Nat) (W : World) : Prop where
  size : B ≤ W.heap.size
  arg : Blk W w.heap.size 3 #[.int .i64 c]
  below : Below w.heap.size w W
  sofar : ∃ k u, pre = List.range k ∧ k ≤ l.length ∧ Blk W (w.heap.size + 1) 39 #[u] ∧ W.ownsRow (B + 3) 68 3 u (truncL c (l.take k)).length ((truncL c (l.take k)).flatMap encS)
theorem TrI.keep {w : World} {B : Nat} {c : Int} {l : List Span} {pre : List Nat} {A C : World} (h : TrI w B c l pre A) (hB : w.heap.size + 2 ≤ B) (hk : Aside (three B) A C) : TrI w B c l pre C :=
  ⟨Nat.le_trans h.size hk.size, (hk.block _ h.arg.lt (fun q => by have := three_le q; omega)).trans h.arg, h.below.trans (hk.below (fun k hk => by have := three_le hk; omega) h.below.size), by
    obtain ⟨k, u, h1, h2, h3, h4⟩ := h.sofar
    exact ⟨k, u, h1, h2, (hk.block _ h3.lt (fun q => by have := three_le q; omega)).trans h3, own_aside h4 hk (fun k hk => by have := hk.2; omega)⟩⟩
theorem info68 : (Try.prog.info? 68).map (fun i => (i.zero, i.size, i.bytes)) = some (some (.agg #[.int .i64 0, .int .i64 0, .int .i64 0]), 3, 24) := by kernel_rfl
theorem elem_cells {w : World} {g : Nat} (us : Array Value) (e : TypeId) (h : g = w.heap.size) : ∀ j u, us.toList[j]? = some u → (w.alloc (.cells us e)).cell? ((⟨g, 0, none⟩ : Addr).add j) = some u := by
  subst h
  obtain ⟨ad, h, _, hc⟩ := (elem_reads w us e).2 (by omega)
  injection h with h
  subst h
  exact hc
theorem keepsOthers_grown {w w' : World} {base size n : Nat} {e : TypeId} {v : Value} {xs : List Value} (h : w.ownsRow base e size v n xs) (hg : w.grownBy w' v.ownBlock) : KeepsOthers w w' := by
  refine ⟨hg.size, fun k o hk ho => (hg.block k (Array.getElem?_eq_some_iff.1 hk).1 (fun q => ?_)).trans hk⟩
  rcases h.2 with ⟨rfl, _⟩ | ⟨g, cap, cur, rfl, hb, hgc, _⟩
  · simp [Value.ownBlock] at q
  · simp [Value.ownBlock] at q
    subst q
    rw [hgc] at hk
    injection hk with hk
    subst hk
    simp [Obj.isCells] at ho
theorem one3 (a b c : Int) : ∀ u ∈ [Value.int .i64 a, .int .i64 b, .int .i64 c], u.oneCell' = true := by simp [Value.oneCell']
theorem tr_keep {V w2 : World} {g b : Nat} {us : Array Value} {mn u u2 : Value} (hgr : ((V.setCell ⟨g, 2, none⟩ mn).alloc (.cells us 68)).grownBy w2 u.ownBlock) (k : Nat) (hk : k < V.heap.size) (h1 : k ≠ g) (h2 : k ≠ b) (h3 : u.ownBlock ≠ some k) :
    (w2.setCell ⟨b, 0, none⟩ u2).heap[k]? = V.heap[k]? :=
  (Below.heap_setCell w2 ⟨b, 0, none⟩ u2 k h2).trans ((hgr.block k (by simp [World.setCell]; omega) (fun q => h3 q.symm)).trans ((Below.heap_alloc _ _ k (by simp [World.setCell]; omega)).trans (Below.heap_setCell V ⟨g, 2, none⟩ mn k h1)))
theorem tr_fin {w V w2 : World} {B g m B1 j : Nat} {c : Int} {l : List Span} {pre : List Nat} {us : Array Value} {mn u u2 : Value} {a : Act} {t : List Span} {x : Span}
    (hI : TrI w B c l pre V) (hown2 : w2.ownsRow (B + 3) 68 3 u2 (t.length + 1) (t.flatMap encS ++ encS x)) (hgr : ((V.setCell ⟨g, 2, none⟩ mn).alloc (.cells us 68)).grownBy w2 u.ownBlock) (hkw : Blk w2 (w.heap.size + 1) 39 #[u]) (hown : V.ownsRow (B + 3) 68 3 u t.length (t.flatMap encS))
    (hu : ∀ q, u.ownBlock = some q → B + 3 ≤ q ∧ q < m) (hg : m < g) (hgV : g < V.heap.size) (hB : w.heap.size + 2 ≤ B1) (hB2 : B1 < B) (hm : B + 3 ≤ m) (hpre : pre ++ [j] = List.range (j + 1)) (hj : j < l.length) (ht : truncL c (l.take (j + 1)) = t ++ [x]) :
    oPost (BKeep w.heap.size B1) B m (TrI w B c l) (fun _ _ _ => False) (pre ++ [j]) V .normal a (w2.setCell ⟨w.heap.size + 1, 0, none⟩ u2) := by
  have hk := tr_keep (b := w.heap.size + 1) (u2 := u2) hgr
  have hs2 := hgr.size
  simp only [World.size_alloc, World.size_setCell] at hs2
  have hbV : Below w.heap.size V (w2.setCell ⟨w.heap.size + 1, 0, none⟩ u2) :=
    ⟨hgr.os, hgr.tape, hgr.output, by simp only [World.size_setCell]; omega, fun k h => hk k (by omega) (by omega) (by omega) (fun q => by have := hu k q; omega)⟩
  refine ⟨?_, ⟨hk _ (by omega) (by omega) (by omega) (fun q => by have := hu _ q; omega), hk _ (by omega) (by omega) (by omega) (fun q => by have := hu _ q; omega), hbV, hk _ (by omega) (by omega) (by omega) (fun q => by have := hu _ q; omega)⟩, ?_⟩
  · exact ((KeepsOthers.setCell V _ _).trans ((KeepsOthers.alloc _ _).trans (keepsOthers_grown (own_alloc (own_far (p := ⟨g, 2, none⟩) hown (fun q => by have := (hu g q).2; omega) _) _) hgr))).trans (KeepsOthers.setCell _ _ _)
  · refine ⟨?_, ?_, hI.below.trans hbV, j + 1, u2, hpre, by omega, hkw.set_ 0 u2, ?_⟩
    · have := hI.size
      simp only [World.size_setCell]; omega
    · exact (hk _ (by omega) (by omega) (by omega) (fun q => by have := hu _ q; omega)).trans hI.arg
    · rw [ht]
      have h9 : (t ++ [x]).flatMap encS = t.flatMap encS ++ encS x := by simp
      rw [h9, List.length_append]
      exact own_far (p := ⟨w.heap.size + 1, 0, none⟩) hown2 (fun q => by have := own_block_ge hown2 (w.heap.size + 1) q; omega) _
set_option maxRecDepth 100000 in
set_option maxHeartbeats 1000000 in
theorem Truncate_err (A : Option Addr) (n c : Nat) (y : Int) (l : List Span) (w : World) (hR : RdS w A n l) (hl : n ≤ 1000) (hz : lineageE l ≠ 0) :
    Calls Try.prog 26 #[.slice A n c, .int .i64 y] w fun e w' => e = .returned (.slice none 0 0) ∧ Below w.heap.size w w' := by
  have hb : Below w.heap.size w ((w.alloc (.cells #[.int .i64 y] 3)).alloc (.cells #[.slice none 0 0] 39)) := ((Below.refl _ w).alloc (Nat.le_refl _) _).alloc (by simp) _
  have HB := Lib.hid hb
  have HC := Lib.hid (CheckLineage_any A n c l _ (hR.up hb) hl)
  obtain ⟨v, hvv⟩ : ∃ v, lineageE l = v := ⟨_, rfl⟩
  rw [hvv] at HC hz
  have hz' : (v != 0) = true := by simpa using hz
  clear hvv hb
  go_enter Try.func26, Try.ntmps26
  go_wp2_with fail
  refine HC.out.mono ?_
  rintro e w1 ⟨rfl, hb1⟩
  have hbb := HB.out.trans (hb1.mono HB.out.size)
  go_wp2_with fail
  go_ret
  exact ⟨rfl, hbb⟩
set_option maxRecDepth 100000 in
set_option maxHeartbeats 1000000 in
theorem Truncate_ok (A : Option Addr) (g off c : Nat) (y : Int) (l : List Span) (w : World) (hR : RdS w A l.length l) (hg : 0 < l.length → A = some ⟨g, off, none⟩ ∧ g < w.heap.size) (hl : l.length ≤ 1000) (hz : lineageE l = 0)
    (hcs : ∀ i, i < l.length → w.cell? ⟨g, off + i * 3, none⟩ = some (.int .i64 (atS l i).e) ∧ w.cell? ⟨g, off + i * 3 + 1, none⟩ = some (.int .i64 (atS l i).f) ∧ w.cell? ⟨g, off + i * 3 + 2, none⟩ = some (.int .i64 (atS l i).t)) :
    CallsIn Fence.wide 4 Try.prog 26 #[.slice A l.length c, .int .i64 y] w fun e w' => (∃ A' n' c', e = .returned (.slice A' n' c') ∧ RdS w' A' n' (truncL y l)) ∧ Below w.heap.size w w' := by
  have HC := Lib.hid hcs
  have hb : Below w.heap.size w ((w.alloc (.cells #[.int .i64 y] 3)).alloc (.cells #[.slice none 0 0] 39)) := ((Below.refl _ w).alloc (Nat.le_refl _) _).alloc (by simp) _
  have HB := Lib.hid hb
  have HCL := Lib.hid (CheckLineage_any A l.length c l _ (hR.up hb) hl)
  rw [hz] at HCL
  have h1 := (Blk.new w 3 #[.int .i64 y]).alloc (.cells #[.slice none 0 0] 39)
  have h2 := Blk.new (w.alloc (.cells #[.int .i64 y] 3)) 39 #[.slice none 0 0]
  simp only [World.size_alloc] at h2
  have H := Lib.hid (And.intro h1 h2)
  clear h1 h2 hcs hR hb hz
  obtain ⟨i0, hi0, hz0, hz1, hz2⟩ := info_parts info68
  have HI6 := Lib.hid (And.intro hi0 (And.intro hz0 (And.intro hz1 hz2)))
  clear hi0 hz0 hz1 hz2
  refine callsIn_of_wp_marks Try.func26 rfl trivial ?_ rfl
  simp only [Try.ntmps26, List.size_toArray, List.length_cons, List.length_nil, Nat.reduceAdd, Nat.reduceSub, Array.replicate_succ, Array.replicate_zero, List.push_toArray, List.append_toArray, List.nil_append, List.cons_append]
  refine wpIn_wide.2 ?_
  go_wp2_with fail
  refine HCL.out.mono ?_
  rintro e w1 ⟨rfl, hb1⟩
  have hz3 : w.heap.size + 2 ≤ w1.heap.size := by have := hb1.size; simp at this; omega
  have HB1 := Lib.hid hb1
  clear hb1
  go_wp2_with fail
  refine (begins_any _ _ _ _).mono ?_
  rintro e w7 ⟨rfl, hb7, hk7⟩
  have hl7 := hk7.lt
  have hbw : Below w.heap.size w w7 := (HB.out.trans (HB1.out.mono HB.out.size)).trans (hb7.mono (by omega))
  have lift : ∀ {g9 : Nat} {t9 : TypeId} {cs : Array Value}, g9 < w.heap.size + 2 → Blk ((w.alloc (.cells #[.int .i64 y] 3)).alloc (.cells #[.slice none 0 0] 39)) g9 t9 cs → Blk w7 g9 t9 cs := fun hl h => (h.below HB1.out (by simp; omega)).below hb7 (by omega)
  have hI0 : TrI w w7.heap.size y l [] w7 := ⟨Nat.le_refl _, lift (by omega) H.out.1, hbw, 0, _, rfl, by omega, lift (by omega) H.out.2, World.ownsRow_nil _ _ 68 3⟩
  have HS := Lib.hid (begins1_stops 3 (by omega) A w1.heap.size g off c w.heap.size l w7 hl7 hg hbw.size hl hk7 (fun i hi => ⟨(hbw.cell (p := ⟨g, off + i * 3, none⟩) (hg (by omega)).2).trans (HC.out i hi).1, (hbw.cell (p := ⟨g, off + i * 3 + 1, none⟩) (hg (by omega)).2).trans (HC.out i hi).2.1, (hbw.cell (p := ⟨g, off + i * 3 + 2, none⟩) (hg (by omega)).2).trans (HC.out i hi).2.2⟩))
  have HI0 := Lib.hid hI0
  clear hI0 hk7 hg lift
  go_wp2_with fail
  refine (wpIn_wide (n := 4)).1 ?_
  refine wpIn_rangeFunc_O (w0 := w7) rfl (by omega) (gf := 57) (lb := #[.pointer (some ⟨w1.heap.size, 0, none⟩)]) rfl trivial enters57 HS.out BKeep.trans (fun W l o o' hl _ _ _ => BKeep.put W l o' (by omega) (by omega)) (Below.refl _ _) (fun _ => rfl)
    (TrI w w7.heap.size y l) (fun _ _ _ => False)
    (fun s A C h hk => h.keep (by omega) hk) (fun cd s A C h hk => h) HI0.out
    ?round ?done ?stop
  case round =>
    rintro lf pre x W0 W hI0' hI hA hW0 hsW ⟨j, hj, hpre⟩
    obtain ⟨k, u, hk, hkl, hku, hown⟩ := hI0'.sofar
    obtain ⟨rfl, rfl⟩ := range_snoc hk hpre
    have hsz1 := hI.size
    have hsW' : W0.heap.size + 1 ≤ W.heap.size := by omega
    clear hsW
    have HD := Lib.hid (truncL_take y l j hj)
    have HPRE := Lib.hid hpre
    have HUL := Lib.hid (fun (q : Nat) (hq : u.ownBlock = some q) => (And.intro (own_block_ge hown q hq) (own_lt hown q hq)))
    have HLN := Lib.hid (truncL_len y (l.take j))
    have HLT : (l.take j).length = j := by simp; omega
    have hkw : Blk W (w.heap.size + 1) 39 #[u] := (hA.block _ hku.lt (fun q => by have := three_le q; omega)).trans hku
    have hoW := own_aside hown hA (fun k hk => by have := hk.2; omega)
    have HI := Lib.hid (And.intro hI (And.intro hkw hoW))
    clear hI hI0' hk hpre hA hku hown hkw hoW
    generalize hxs : atS l j = s at *
    clear hxs
    generalize hts : truncL y (l.take j) = t at *
    clear hts
    have hln : t.length ≤ 1000 := by have := HLN.out; omega
    simp only [spanV]
    have hbW : Below W.heap.size W (W.alloc (.cells #[.int .i64 s.e, .int .i64 s.f, .int .i64 s.t] 68)) := (Below.refl _ W).alloc (Nat.le_refl _) _
    have HB := Lib.hid hbW
    have H4 := Lib.hid (Blk.new W 68 #[.int .i64 s.e, .int .i64 s.f, .int .i64 s.t])
    clear hbW
    gi_wp2
    refine ⟨HB.out, BKeep.of_below HB.out (by omega) (by omega), ?_⟩
    intro V hAV hsV
    have hAw : Aside (three w7.heap.size) W V := Aside.trans ⟨HB.out.os, HB.out.tape, HB.out.output, HB.out.size, fun i hi _ => HB.out.block i hi⟩ (hAV.mono (fun i hi => ⟨by omega, by omega⟩))
    have hk4 : Blk V W.heap.size 68 #[.int .i64 s.e, .int .i64 s.f, .int .i64 s.t] := (hAV.block _ (by simp) (by omega)).trans H4.out
    have hIV : TrI w w7.heap.size y l pre V := HI.out.1.keep (by omega) hAw
    have hku : Blk V (w.heap.size + 1) 39 #[u] := (hAw.block _ HI.out.2.1.lt (fun q => by have := three_le q; omega)).trans HI.out.2.1
    have hoV := own_aside HI.out.2.2 hAw (fun k hk => by have := hk.2; omega)
    have ka : V.cell? ⟨w.heap.size, 0, none⟩ = some (.int .i64 y) := hIV.arg.cell 0
    have kra : V.cell? ⟨w.heap.size + 1, 0, none⟩ = some u := hku.cell 0
    have kraf : V.frozen? ⟨w.heap.size + 1, 0, none⟩ = false := hku.frozen 0
    have HIV := Lib.hid (And.intro hIV (And.intro hku hoV))
    have HK4 := Lib.hid hk4
    have c40 := hk4.cell 0
    have c41 := hk4.cell 1
    have c42 := hk4.cell 2
    have f42 := hk4.frozen 2
    have hsV' : W.heap.size + 1 ≤ V.heap.size := by rw [hsV]; simp
    simp only [List.getElem?_toArray, List.getElem?_cons_zero, List.getElem?_cons_succ] at c40 c41 c42
    clear hk4 hIV hsV hAV H4 hku hoV hAw
    by_cases c0 : s.f ≤ y
    · by_cases c1 : y < s.t
      · gi_wp2_with (gi_at_builtin; go_must (refine wpListIn_append_own _ rfl (.tmp 24) (.tmp 26) _ rfl (w7.heap.size + 3) 68 i0 _ 3 24 Try.underlying39 HI6.out.1 HI6.out.2.1 HI6.out.2.2.1 HI6.out.2.2.2 rfl (by omega) u t.length (t.flatMap encS) rfl (own_alloc (own_far (p := ⟨W.heap.size, 2, none⟩) HIV.out.2.2 (fun q => by have h9 := (HUL.out W.heap.size q).2; omega) _) _) ⟨V.heap.size, 0, none⟩ 1 1 [.int .i64 s.e, .int .i64 s.f, .int .i64 y] rfl rfl (elem_cells #[.int .i64 s.e, .int .i64 s.f, .int .i64 y] 68 (World.size_setCell _ _ _).symm) (one3 _ _ _) (by unfold maxLen; omega) (by omega) (by rw [World.size_alloc, World.size_setCell]; omega) ?_; intro u2 w2 hown2 hgr2 _; obtain ⟨A2, c2, rfl, _, _, _⟩ := own_slice hown2; have hs2 := hgr2.size; rw [World.size_alloc] at hs2; have hkw := ((HIV.out.2.1.far (p := ⟨W.heap.size, 2, none⟩) (by dsimp only; omega) (.int .i64 y)).alloc (.cells #[.int .i64 s.e, .int .i64 s.f, .int .i64 y] 68)).grown hgr2 (fun q => by have h9 := (HUL.out (w.heap.size + 1) q.symm).1; omega); have k0 : w2.cell? ⟨w.heap.size + 1, 0, none⟩ = some u := hkw.cell 0; have k1 : w2.frozen? ⟨w.heap.size + 1, 0, none⟩ = false := hkw.frozen 0; have H2 := Lib.hid (And.intro hown2 (And.intro hgr2 hkw)); clear hown2 hgr2 hkw kra kraf))
        refine tr_fin (V := V) (mn := .int .i64 y) (x := ⟨s.e, s.f, y⟩) HIV.out.1 H2.out.1 H2.out.2.1 H2.out.2.2 HIV.out.2.2 HUL.out (by omega) (by omega) (by omega) (by omega) (by omega) HPRE.out (by omega) ?_
        rw [HD.out, if_pos c0, if_pos c1]
      · gi_wp2_with (gi_at_builtin; go_must (refine wpListIn_append_own _ rfl (.tmp 24) (.tmp 26) _ rfl (w7.heap.size + 3) 68 i0 _ 3 24 Try.underlying39 HI6.out.1 HI6.out.2.1 HI6.out.2.2.1 HI6.out.2.2.2 rfl (by omega) u t.length (t.flatMap encS) rfl (own_alloc (own_far (p := ⟨W.heap.size, 2, none⟩) HIV.out.2.2 (fun q => by have h9 := (HUL.out W.heap.size q).2; omega) _) _) ⟨V.heap.size, 0, none⟩ 1 1 [.int .i64 s.e, .int .i64 s.f, .int .i64 s.t] rfl rfl (elem_cells #[.int .i64 s.e, .int .i64 s.f, .int .i64 s.t] 68 (World.size_setCell _ _ _).symm) (one3 _ _ _) (by unfold maxLen; omega) (by omega) (by rw [World.size_alloc, World.size_setCell]; omega) ?_; intro u2 w2 hown2 hgr2 _; obtain ⟨A2, c2, rfl, _, _, _⟩ := own_slice hown2; have hs2 := hgr2.size; rw [World.size_alloc] at hs2; have hkw := ((HIV.out.2.1.far (p := ⟨W.heap.size, 2, none⟩) (by dsimp only; omega) (.int .i64 s.t)).alloc (.cells #[.int .i64 s.e, .int .i64 s.f, .int .i64 s.t] 68)).grown hgr2 (fun q => by have h9 := (HUL.out (w.heap.size + 1) q.symm).1; omega); have k0 : w2.cell? ⟨w.heap.size + 1, 0, none⟩ = some u := hkw.cell 0; have k1 : w2.frozen? ⟨w.heap.size + 1, 0, none⟩ = false := hkw.frozen 0; have H2 := Lib.hid (And.intro hown2 (And.intro hgr2 hkw)); clear hown2 hgr2 hkw kra kraf))
        refine tr_fin (V := V) (mn := .int .i64 s.t) (x := ⟨s.e, s.f, s.t⟩) HIV.out.1 H2.out.1 H2.out.2.1 H2.out.2.2 HIV.out.2.2 HUL.out (by omega) (by omega) (by omega) (by omega) (by omega) HPRE.out (by omega) ?_
        rw [HD.out, if_pos c0, if_neg (by omega)]
    · gi_wp2
      refine oPost_new (Below.refl _ _) (by omega) (by omega) (by omega) (by omega) ?_
      refine ⟨HIV.out.1.size, HIV.out.1.arg, HIV.out.1.below, j + 1, u, HPRE.out, by omega, HIV.out.2.1, ?_⟩
      rw [HD.out, if_neg (by omega), List.append_nil]
      exact HIV.out.2.2
  case done =>
    rintro D ys W hD hS hI hK
    obtain ⟨k, u, hk, hkl, hu, hown⟩ := hI.sofar
    have hkl : k = l.length := by
      rw [hS] at hk
      simpa using (congrArg List.length hk).symm
    rw [hkl, List.take_length] at hown
    have kra : W.cell? ⟨w.heap.size + 1, 0, none⟩ = some u := hu.cell 0
    have HI := Lib.hid (And.intro hI hown)
    clear hI hkl hk hS hown hu
    gi_wp2
    go_wp2
    have hz := HI.out.1.size
    have hbq : Below w7.heap.size W (W.putObj D (.deferred none)) := below_putD hD
    obtain ⟨A2, c2, rfl, _, _, hr⟩ := own_slice (ownsRow_putObj HI.out.2 (.deferred none) hK rfl)
    exact fin_mark hK ⟨.slice A2 _ c2, by simp [results, Try.results26, go_sem], ⟨_, _, _, rfl, hr⟩, HI.out.1.below.trans (hbq.mono (by omega))⟩
  case stop =>
    rintro D c pre W hD hS hX hK
    exact hX.elim
theorem Truncate_any (A : Option Addr) (n c : Nat) (y : Int) (l : List Span) (w : World) (hR : RdS w A n l) (hl : n ≤ 1000) :
    Calls Try.prog 26 #[.slice A n c, .int .i64 y] w fun e w' => (∃ A' n' c', e = .returned (.slice A' n' c') ∧ RdS w' A' n' (truncV l y)) ∧ Below w.heap.size w w' := by
  by_cases hz : lineageE l = 0
  · have hlen := hR.len
    subst hlen
    obtain ⟨g, off, hg, hc⟩ := hR.cells
    rw [show truncV l y = truncL y l from if_pos hz]
    exact callsIn_wide.1 (Truncate_ok A g off c y l w hR hg hl hz hc)
  · rw [show truncV l y = [] from if_neg hz]
    refine (Truncate_err A n c y l w hR hl hz).mono ?_
    rintro e w1 ⟨rfl, hb⟩
    exact ⟨⟨_, _, _, rfl, Reads.none_⟩, hb⟩
end Go.Proofs.Ytnhemndpnjhbfaa
