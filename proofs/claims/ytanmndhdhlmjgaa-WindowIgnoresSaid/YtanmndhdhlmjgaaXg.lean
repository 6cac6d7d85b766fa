/- The walk of pushed, at the one string that the law gives it. No condition. -/
import Derived.Test.YtanmndhdhlmjgaaXe
import Derived.Test.YtanmndhdhlmjgaaWu
import Derived.Laws.IdiomStrings
import Derived.Test.YtanmndhdhlmjgaaWq
namespace Go.Proofs.Ytanmndhdhlmjgaa
open Go.RowKit
def abcL : List (List Nat) := [[97], [98], [99]]
def PS (k : Nat) : Sm := { ses := 7, lim := 2, tmo := 10, base := 0, next := 0, cred := 2, out := [], q := abcL.take k }
theorem ps_push : pushS (PS 0) [97] = (PS 1, 0) ∧ pushS (PS 1) [98] = (PS 2, 0) ∧ pushS (PS 2) [99] = (PS 3, 0) := ⟨by rfl, by rfl, by rfl⟩
structure PuR (w : World) (base : Nat) (e : Ending) (w' : World) : Prop where
  ret : ∃ sv, e = .returned sv ∧ SnV w' base (PS 3) sv
  bel : Below w.heap.size w w'
/-- the bytes of the string, in their block -/
def AbcO (o : Obj) : Prop := ∃ cs fr, o = .cells cs 5 fr ∧ cs[0]? = some (.int .u8 97) ∧ cs[1]? = some (.int .u8 98) ∧ cs[2]? = some (.int .u8 99)
theorem conv_abc (w : World) : ∃ c o V, (convert 9 42 (.string { data := #[97, 98, 99] })).run Try.prog w = .ok (.slice (some ⟨w.heap.size, 0, none⟩) 3 c) V ∧ Below w.heap.size w V ∧ V.heap[w.heap.size]? = some o ∧ AbcO o := by
  refine ⟨_, _, _, run_bytes_of_string w 9 42 5 _ Try.underlying9 Try.underlying42 Try.underlying5, ((Below.refl _ w).drew).alloc (Nat.le_refl _) _, World.alloc_heap_new w.drew _, _, _, rfl, ?_, ?_, ?_⟩ <;> simp [bytesRow, Array.getElem?_append] <;> rfl
/-- the loop's state -/
structure PuI (w : World) (base A : Nat) (oC : Obj) (C k : Nat) (W : World) : Prop where
  box : ∃ vo vq, Blk W A 25 (snC (PS k) vo vq) ∧ OsV W base [] vo ∧ QsV W base (PS k).q vq
  res : Blk W w.heap.size 25 #[.int .i64 0, .int .i64 0, .int .i64 0, .int .i64 0, .int .i64 0, .int .i64 0, .slice none 0 0, .slice none 0 0]
  str : W.heap[C]? = some oC
  bel : Below w.heap.size w W
theorem cell_obj {W : World} {C i : Nat} {cs : Array Value} {t : TypeId} {fr : Nat × Nat} (h : W.heap[C]? = some (.cells cs t fr)) : W.cell? ⟨C, i, none⟩ = cs[i]? := cell_of_row W C i cs t fr h
set_option maxRecDepth 100000 in
set_option maxHeartbeats 2000000 in
set_option linter.unusedSimpArgs false in
theorem pushed_any (base : Nat) (w : World) (hbw : base ≤ w.heap.size) :
    Calls Try.prog 47 #[.string { data := #[97, 98, 99] }] w (PuR w base) := by
  have hkO := Blk.new w 25 #[.int .i64 0, .int .i64 0, .int .i64 0, .int .i64 0, .int .i64 0, .int .i64 0, .slice none 0 0, .slice none 0 0]
  have hbO : Below w.heap.size w (w.alloc (.cells #[.int .i64 0, .int .i64 0, .int .i64 0, .int .i64 0, .int .i64 0, .int .i64 0, .slice none 0 0, .slice none 0 0] 25)) := (Below.refl _ w).alloc (Nat.le_refl _) _
  have HO := Lib.hid (And.intro hkO hbO)
  clear hkO hbO
  go_enter Try.func47, Try.ntmps47
  go_wp2_with fail
  refine (NewSender_any 7 2 10 _).mono ?_
  rintro e w1 ⟨⟨sv, k0, rfl, hk0, hsv⟩, hb1⟩
  rw [show newS 7 2 10 = (PS 0, 0) from rfl] at hk0 hsv
  obtain rfl : k0 = 0 := by simpa using hk0
  clear hk0
  have hsv := hsv base (by rw [World.size_alloc]; omega)
  obtain ⟨vo, vq, rfl, hO, hQ⟩ := hsv
  obtain ⟨Ao, co, rfl, -, -⟩ := hO.form
  obtain ⟨Aq, cq, rfl, -, -⟩ := hQ.form
  have hkO1 := HO.out.1.below hb1 HO.out.1.lt
  have hbO1 := HO.out.2.trans (hb1.mono HO.out.2.size)
  have hOl : w.heap.size < w1.heap.size := hkO1.lt
  clear hb1 HO
  dsimp only [snC, PS, abcL, List.take, List.length]
  go_upto_region 2 with fail
  have hbA : Below w1.heap.size w1 (w1.alloc (.cells #[.int .i64 7, .int .i64 2, .int .i64 10, .int .i64 0, .int .i64 0, .int .i64 2, .slice Ao 0 co, .slice Aq 0 cq] 25)) := (Below.refl _ w1).alloc (Nat.le_refl _) _
  have hkA := Blk.new w1 25 #[.int .i64 7, .int .i64 2, .int .i64 10, .int .i64 0, .int .i64 0, .int .i64 2, .slice Ao 0 co, .slice Aq 0 cq]
  have H1 := Lib.hid (And.intro hkA (And.intro (hO.up hbA) (And.intro (hQ.up hbA) (And.intro (hkO1.below hbA hkO1.lt) (hbO1.trans (hbA.mono hbO1.size))))))
  clear hbA hkA hO hQ hkO1 hbO1
  obtain ⟨A, hA⟩ : ∃ x, x = w1.heap.size := ⟨_, rfl⟩
  rw [← hA] at H1 hOl ⊢
  clear hA
  generalize (w1.alloc (.cells #[.int .i64 7, .int .i64 2, .int .i64 10, .int .i64 0, .int .i64 0, .int .i64 2, .slice Ao 0 co, .slice Aq 0 cq] 25)) = V1 at *
  obtain ⟨cc, oC, V2, hrun, hb2, hoC, habc⟩ := conv_abc V1
  have HI0 : Hid (PuI w base A oC V1.heap.size 0 V2) := ⟨⟨_, _, H1.out.1.below hb2 H1.out.1.lt, H1.out.2.1.up hb2, H1.out.2.2.1.up hb2⟩, H1.out.2.2.2.1.below hb2 H1.out.2.2.2.1.lt, hoC, H1.out.2.2.2.2.trans (hb2.mono H1.out.2.2.2.2.size)⟩
  have HAB := Lib.hid habc
  have hlA : A < V1.heap.size := H1.out.1.lt
  have HA : Hid (w.heap.size ≤ A) := Nat.le_of_lt hOl
  have HNE : Hid (w.heap.size < A) := hOl
  clear hb2 hoC habc H1
  go_wp2_with fail
  obtain ⟨C, hC⟩ : ∃ x, x = V1.heap.size := ⟨_, rfl⟩
  rw [← hC] at HI0 hlA ⊢
  clear hC hrun
  go_loopw [14] (fun v14 wr => ∃ k : Nat, k ≤ 3 ∧ v14 = .int .i64 k ∧ Hid (PuI w base A oC C k wr)) (fun v14 _ => 3 - (intOf v14).toNat)
  case atStart => exact ⟨0, by omega, rfl, HI0⟩
  case round =>
    obtain ⟨k, hk, rfl, HI⟩ := hrel
    clear HI0
    obtain ⟨vo, vq, hbx, hO, hQ⟩ := HI.out.box
    obtain ⟨Ao, co, rfl, -, -⟩ := hO.form
    obtain ⟨Aq, cq, rfl, -, -⟩ := hQ.form
    obtain ⟨cs, fr, hoc, c0, c1, c2⟩ := HAB.out
    have hst := HI.out.str
    rw [hoc] at hst
    have hCl : C < wr.heap.size := (Array.getElem?_eq_some_iff.1 hst).1
    have s0 : wr.cell? ⟨C, 0, none⟩ = some (.int .u8 97) := (cell_obj hst).trans c0
    have s1 : wr.cell? ⟨C, 1, none⟩ = some (.int .u8 98) := (cell_obj hst).trans c1
    have s2 : wr.cell? ⟨C, 2, none⟩ = some (.int .u8 99) := (cell_obj hst).trans c2
    clear hst hoc c0 c1 c2
    rcases (show k = 0 ∨ k = 1 ∨ k = 2 ∨ k = 3 by omega) with rfl | rfl | rfl | rfl
    · have hbxl : Blk wr A 25 #[.int .i64 7, .int .i64 2, .int .i64 10, .int .i64 0, .int .i64 0, .int .i64 2, .slice Ao 0 co, .slice Aq 0 cq] := hbx
      have xc0 : wr.cell? ⟨A, 0, none⟩ = some (.int .i64 7) := hbxl.cell 0
      have xc1 : wr.cell? ⟨A, 1, none⟩ = some (.int .i64 2) := hbxl.cell 1
      have xc2 : wr.cell? ⟨A, 2, none⟩ = some (.int .i64 10) := hbxl.cell 2
      have xc3 : wr.cell? ⟨A, 3, none⟩ = some (.int .i64 0) := hbxl.cell 3
      have xc4 : wr.cell? ⟨A, 4, none⟩ = some (.int .i64 0) := hbxl.cell 4
      have xc5 : wr.cell? ⟨A, 5, none⟩ = some (.int .i64 2) := hbxl.cell 5
      have xc6 : wr.cell? ⟨A, 6, none⟩ = some (.slice Ao 0 co) := hbxl.cell 6
      have xc7 : wr.cell? ⟨A, 7, none⟩ = some (.slice Aq 0 cq) := hbxl.cell 7
      have xz0 := hbxl.frozen 0
      have xz1 := hbxl.frozen 1
      have xz2 := hbxl.frozen 2
      have xz3 := hbxl.frozen 3
      have xz4 := hbxl.frozen 4
      have xz5 := hbxl.frozen 5
      have xz6 := hbxl.frozen 6
      have xz7 := hbxl.frozen 7
      have lA := hbxl.lt
      have hbn : Below wr.heap.size wr (wr.alloc (.cells #[.int .u8 97] 5)) := (Below.refl _ wr).alloc (Nat.le_refl _) _
      have hby : BsV (wr.alloc (.cells #[.int .u8 97] 5)) base [97] (.slice (some ⟨wr.heap.size, 0, none⟩) 1 1) := ⟨_, _, rfl, Rd.of_blk (n := 1) (Blk.new wr 5 #[.int .u8 97]) rfl⟩
      have hsn : SnV (wr.alloc (.cells #[.int .u8 97] 5)) base (PS 0) (.agg #[.int .i64 7, .int .i64 2, .int .i64 10, .int .i64 0, .int .i64 0, .int .i64 2, .slice Ao 0 co, .slice Aq 0 cq]) := ⟨_, _, rfl, hO.up hbn, hQ.up hbn⟩
      have hcall := Push_any (PS 0) _ base [97] _ (wr.alloc (.cells #[.int .u8 97] 5)) hsn ⟨by decide, by decide⟩ (by rw [World.size_alloc]; have := HI.out.bel.size; omega) hby (by decide)
      rw [ps_push.1] at hcall
      have HC := Lib.hid (And.intro hcall hbn)
      clear hcall hbn hby hsn hO hQ hbx
      go_wp2_with fail
      refine HC.out.1.mono ?_
      rintro e w2 ⟨⟨u, k1, rfl, hk1, hsn⟩, hb2⟩
      obtain ⟨vo2, vq2, rfl, hO2, hQ2⟩ := hsn
      obtain ⟨A2, c2, rfl, -, -⟩ := hO2.form
      obtain ⟨Aq2, cq2, rfl, -, -⟩ := hQ2.form
      have hb3 : Below wr.heap.size wr w2 := HC.out.2.trans (hb2.mono HC.out.2.size)
      have hk3 := hbxl.below hb3 lA
      have H3 := Lib.hid (And.intro hO2 (And.intro hQ2 (And.intro hb3 (And.intro hk3 hk1))))
      clear hk1 hO2 hQ2 hb2 hb3 hbxl xc0 xz0 xc1 xz1 xc2 xz2 xc3 xz3 xc4 xz4 xc5 xz5 xc6 xz6 xc7 xz7 lA
      have yc0 : w2.cell? ⟨A, 0, none⟩ = some (.int .i64 7) := hk3.cell 0
      have yc1 : w2.cell? ⟨A, 1, none⟩ = some (.int .i64 2) := hk3.cell 1
      have yc2 : w2.cell? ⟨A, 2, none⟩ = some (.int .i64 10) := hk3.cell 2
      have yc3 : w2.cell? ⟨A, 3, none⟩ = some (.int .i64 0) := hk3.cell 3
      have yc4 : w2.cell? ⟨A, 4, none⟩ = some (.int .i64 0) := hk3.cell 4
      have yc5 : w2.cell? ⟨A, 5, none⟩ = some (.int .i64 2) := hk3.cell 5
      have yc6 : w2.cell? ⟨A, 6, none⟩ = some (.slice Ao 0 co) := hk3.cell 6
      have yc7 : w2.cell? ⟨A, 7, none⟩ = some (.slice Aq 0 cq) := hk3.cell 7
      have yz0 := hk3.frozen 0
      have yz1 := hk3.frozen 1
      have yz2 := hk3.frozen 2
      have yz3 := hk3.frozen 3
      have yz4 := hk3.frozen 4
      have yz5 := hk3.frozen 5
      have yz6 := hk3.frozen 6
      have yz7 := hk3.frozen 7
      have lA2 := hk3.lt
      have hkS := set25_blk hk3 (.int .i64 7) (.int .i64 2) (.int .i64 10) (.int .i64 0) (.int .i64 0) (.int .i64 2) (.slice A2 0 c2) (.slice Aq2 1 cq2)
      have hTS := set25_turn hk3 (base := w.heap.size) HA.out (.int .i64 7) (.int .i64 2) (.int .i64 10) (.int .i64 0) (.int .i64 0) (.int .i64 2) (.slice A2 0 c2) (.slice Aq2 1 cq2)
      have hbS := set25_below (HI.out.bel.trans (H3.out.2.2.1.mono HI.out.bel.size)) (g := A) HA.out (.int .i64 7) (.int .i64 2) (.int .i64 10) (.int .i64 0) (.int .i64 0) (.int .i64 2) (.slice A2 0 c2) (.slice Aq2 1 cq2)
      have hrS := set25_other (HI.out.res.below H3.out.2.2.1 HI.out.res.lt) (g := A) (by have := HNE.out; omega) (.int .i64 7) (.int .i64 2) (.int .i64 10) (.int .i64 0) (.int .i64 0) (.int .i64 2) (.slice A2 0 c2) (.slice Aq2 1 cq2)
      have hsC : w2.heap[C]? = some oC := (H3.out.2.2.1.block C hCl).trans HI.out.str
      have hsS := hTS.block C oC hsC (fun t cs2 hm e => by
        obtain ⟨cs9, fr9, h9, _⟩ := HAB.out
        rw [h9] at e
        injection e with _ e2
        rw [List.mem_singleton] at hm
        rw [hm] at e2
        exact absurd e2 (by decide))
      have HN : Hid (PuI w base A oC C 1 _) := ⟨⟨_, _, hkS, H3.out.1.turn (hTS.base hbw) (by simp) (by simp), H3.out.2.1.turn (hTS.base hbw) (by simp) (by simp)⟩, hrS, hsS, hbS⟩
      clear hkS hTS hbS hrS hsC hsS hk3
      dsimp only [snC, PS, abcL, List.take, List.length]
      go_wp2_with fail
      go_roundw
      case rel => exact ⟨1, by omega, by go_num, HN⟩
      case measure => simp [intOf]
    · have hbxl : Blk wr A 25 #[.int .i64 7, .int .i64 2, .int .i64 10, .int .i64 0, .int .i64 0, .int .i64 2, .slice Ao 0 co, .slice Aq 1 cq] := hbx
      have xc0 : wr.cell? ⟨A, 0, none⟩ = some (.int .i64 7) := hbxl.cell 0
      have xc1 : wr.cell? ⟨A, 1, none⟩ = some (.int .i64 2) := hbxl.cell 1
      have xc2 : wr.cell? ⟨A, 2, none⟩ = some (.int .i64 10) := hbxl.cell 2
      have xc3 : wr.cell? ⟨A, 3, none⟩ = some (.int .i64 0) := hbxl.cell 3
      have xc4 : wr.cell? ⟨A, 4, none⟩ = some (.int .i64 0) := hbxl.cell 4
      have xc5 : wr.cell? ⟨A, 5, none⟩ = some (.int .i64 2) := hbxl.cell 5
      have xc6 : wr.cell? ⟨A, 6, none⟩ = some (.slice Ao 0 co) := hbxl.cell 6
      have xc7 : wr.cell? ⟨A, 7, none⟩ = some (.slice Aq 1 cq) := hbxl.cell 7
      have xz0 := hbxl.frozen 0
      have xz1 := hbxl.frozen 1
      have xz2 := hbxl.frozen 2
      have xz3 := hbxl.frozen 3
      have xz4 := hbxl.frozen 4
      have xz5 := hbxl.frozen 5
      have xz6 := hbxl.frozen 6
      have xz7 := hbxl.frozen 7
      have lA := hbxl.lt
      have hbn : Below wr.heap.size wr (wr.alloc (.cells #[.int .u8 98] 5)) := (Below.refl _ wr).alloc (Nat.le_refl _) _
      have hby : BsV (wr.alloc (.cells #[.int .u8 98] 5)) base [98] (.slice (some ⟨wr.heap.size, 0, none⟩) 1 1) := ⟨_, _, rfl, Rd.of_blk (n := 1) (Blk.new wr 5 #[.int .u8 98]) rfl⟩
      have hsn : SnV (wr.alloc (.cells #[.int .u8 98] 5)) base (PS 1) (.agg #[.int .i64 7, .int .i64 2, .int .i64 10, .int .i64 0, .int .i64 0, .int .i64 2, .slice Ao 0 co, .slice Aq 1 cq]) := ⟨_, _, rfl, hO.up hbn, hQ.up hbn⟩
      have hcall := Push_any (PS 1) _ base [98] _ (wr.alloc (.cells #[.int .u8 98] 5)) hsn ⟨by decide, by decide⟩ (by rw [World.size_alloc]; have := HI.out.bel.size; omega) hby (by decide)
      rw [ps_push.2.1] at hcall
      have HC := Lib.hid (And.intro hcall hbn)
      clear hcall hbn hby hsn hO hQ hbx
      go_wp2_with fail
      refine HC.out.1.mono ?_
      rintro e w2 ⟨⟨u, k1, rfl, hk1, hsn⟩, hb2⟩
      obtain ⟨vo2, vq2, rfl, hO2, hQ2⟩ := hsn
      obtain ⟨A2, c2, rfl, -, -⟩ := hO2.form
      obtain ⟨Aq2, cq2, rfl, -, -⟩ := hQ2.form
      have hb3 : Below wr.heap.size wr w2 := HC.out.2.trans (hb2.mono HC.out.2.size)
      have hk3 := hbxl.below hb3 lA
      have H3 := Lib.hid (And.intro hO2 (And.intro hQ2 (And.intro hb3 (And.intro hk3 hk1))))
      clear hk1 hO2 hQ2 hb2 hb3 hbxl xc0 xz0 xc1 xz1 xc2 xz2 xc3 xz3 xc4 xz4 xc5 xz5 xc6 xz6 xc7 xz7 lA
      have yc0 : w2.cell? ⟨A, 0, none⟩ = some (.int .i64 7) := hk3.cell 0
      have yc1 : w2.cell? ⟨A, 1, none⟩ = some (.int .i64 2) := hk3.cell 1
      have yc2 : w2.cell? ⟨A, 2, none⟩ = some (.int .i64 10) := hk3.cell 2
      have yc3 : w2.cell? ⟨A, 3, none⟩ = some (.int .i64 0) := hk3.cell 3
      have yc4 : w2.cell? ⟨A, 4, none⟩ = some (.int .i64 0) := hk3.cell 4
      have yc5 : w2.cell? ⟨A, 5, none⟩ = some (.int .i64 2) := hk3.cell 5
      have yc6 : w2.cell? ⟨A, 6, none⟩ = some (.slice Ao 0 co) := hk3.cell 6
      have yc7 : w2.cell? ⟨A, 7, none⟩ = some (.slice Aq 1 cq) := hk3.cell 7
      have yz0 := hk3.frozen 0
      have yz1 := hk3.frozen 1
      have yz2 := hk3.frozen 2
      have yz3 := hk3.frozen 3
      have yz4 := hk3.frozen 4
      have yz5 := hk3.frozen 5
      have yz6 := hk3.frozen 6
      have yz7 := hk3.frozen 7
      have lA2 := hk3.lt
      have hkS := set25_blk hk3 (.int .i64 7) (.int .i64 2) (.int .i64 10) (.int .i64 0) (.int .i64 0) (.int .i64 2) (.slice A2 0 c2) (.slice Aq2 2 cq2)
      have hTS := set25_turn hk3 (base := w.heap.size) HA.out (.int .i64 7) (.int .i64 2) (.int .i64 10) (.int .i64 0) (.int .i64 0) (.int .i64 2) (.slice A2 0 c2) (.slice Aq2 2 cq2)
      have hbS := set25_below (HI.out.bel.trans (H3.out.2.2.1.mono HI.out.bel.size)) (g := A) HA.out (.int .i64 7) (.int .i64 2) (.int .i64 10) (.int .i64 0) (.int .i64 0) (.int .i64 2) (.slice A2 0 c2) (.slice Aq2 2 cq2)
      have hrS := set25_other (HI.out.res.below H3.out.2.2.1 HI.out.res.lt) (g := A) (by have := HNE.out; omega) (.int .i64 7) (.int .i64 2) (.int .i64 10) (.int .i64 0) (.int .i64 0) (.int .i64 2) (.slice A2 0 c2) (.slice Aq2 2 cq2)
      have hsC : w2.heap[C]? = some oC := (H3.out.2.2.1.block C hCl).trans HI.out.str
      have hsS := hTS.block C oC hsC (fun t cs2 hm e => by
        obtain ⟨cs9, fr9, h9, _⟩ := HAB.out
        rw [h9] at e
        injection e with _ e2
        rw [List.mem_singleton] at hm
        rw [hm] at e2
        exact absurd e2 (by decide))
      have HN : Hid (PuI w base A oC C 2 _) := ⟨⟨_, _, hkS, H3.out.1.turn (hTS.base hbw) (by simp) (by simp), H3.out.2.1.turn (hTS.base hbw) (by simp) (by simp)⟩, hrS, hsS, hbS⟩
      clear hkS hTS hbS hrS hsC hsS hk3
      dsimp only [snC, PS, abcL, List.take, List.length]
      go_wp2_with fail
      go_roundw
      case rel => exact ⟨2, by omega, by go_num, HN⟩
      case measure => simp [intOf]
    · have hbxl : Blk wr A 25 #[.int .i64 7, .int .i64 2, .int .i64 10, .int .i64 0, .int .i64 0, .int .i64 2, .slice Ao 0 co, .slice Aq 2 cq] := hbx
      have xc0 : wr.cell? ⟨A, 0, none⟩ = some (.int .i64 7) := hbxl.cell 0
      have xc1 : wr.cell? ⟨A, 1, none⟩ = some (.int .i64 2) := hbxl.cell 1
      have xc2 : wr.cell? ⟨A, 2, none⟩ = some (.int .i64 10) := hbxl.cell 2
      have xc3 : wr.cell? ⟨A, 3, none⟩ = some (.int .i64 0) := hbxl.cell 3
      have xc4 : wr.cell? ⟨A, 4, none⟩ = some (.int .i64 0) := hbxl.cell 4
      have xc5 : wr.cell? ⟨A, 5, none⟩ = some (.int .i64 2) := hbxl.cell 5
      have xc6 : wr.cell? ⟨A, 6, none⟩ = some (.slice Ao 0 co) := hbxl.cell 6
      have xc7 : wr.cell? ⟨A, 7, none⟩ = some (.slice Aq 2 cq) := hbxl.cell 7
      have xz0 := hbxl.frozen 0
      have xz1 := hbxl.frozen 1
      have xz2 := hbxl.frozen 2
      have xz3 := hbxl.frozen 3
      have xz4 := hbxl.frozen 4
      have xz5 := hbxl.frozen 5
      have xz6 := hbxl.frozen 6
      have xz7 := hbxl.frozen 7
      have lA := hbxl.lt
      have hbn : Below wr.heap.size wr (wr.alloc (.cells #[.int .u8 99] 5)) := (Below.refl _ wr).alloc (Nat.le_refl _) _
      have hby : BsV (wr.alloc (.cells #[.int .u8 99] 5)) base [99] (.slice (some ⟨wr.heap.size, 0, none⟩) 1 1) := ⟨_, _, rfl, Rd.of_blk (n := 1) (Blk.new wr 5 #[.int .u8 99]) rfl⟩
      have hsn : SnV (wr.alloc (.cells #[.int .u8 99] 5)) base (PS 2) (.agg #[.int .i64 7, .int .i64 2, .int .i64 10, .int .i64 0, .int .i64 0, .int .i64 2, .slice Ao 0 co, .slice Aq 2 cq]) := ⟨_, _, rfl, hO.up hbn, hQ.up hbn⟩
      have hcall := Push_any (PS 2) _ base [99] _ (wr.alloc (.cells #[.int .u8 99] 5)) hsn ⟨by decide, by decide⟩ (by rw [World.size_alloc]; have := HI.out.bel.size; omega) hby (by decide)
      rw [ps_push.2.2] at hcall
      have HC := Lib.hid (And.intro hcall hbn)
      clear hcall hbn hby hsn hO hQ hbx
      go_wp2_with fail
      refine HC.out.1.mono ?_
      rintro e w2 ⟨⟨u, k1, rfl, hk1, hsn⟩, hb2⟩
      obtain ⟨vo2, vq2, rfl, hO2, hQ2⟩ := hsn
      obtain ⟨A2, c2, rfl, -, -⟩ := hO2.form
      obtain ⟨Aq2, cq2, rfl, -, -⟩ := hQ2.form
      have hb3 : Below wr.heap.size wr w2 := HC.out.2.trans (hb2.mono HC.out.2.size)
      have hk3 := hbxl.below hb3 lA
      have H3 := Lib.hid (And.intro hO2 (And.intro hQ2 (And.intro hb3 (And.intro hk3 hk1))))
      clear hk1 hO2 hQ2 hb2 hb3 hbxl xc0 xz0 xc1 xz1 xc2 xz2 xc3 xz3 xc4 xz4 xc5 xz5 xc6 xz6 xc7 xz7 lA
      have yc0 : w2.cell? ⟨A, 0, none⟩ = some (.int .i64 7) := hk3.cell 0
      have yc1 : w2.cell? ⟨A, 1, none⟩ = some (.int .i64 2) := hk3.cell 1
      have yc2 : w2.cell? ⟨A, 2, none⟩ = some (.int .i64 10) := hk3.cell 2
      have yc3 : w2.cell? ⟨A, 3, none⟩ = some (.int .i64 0) := hk3.cell 3
      have yc4 : w2.cell? ⟨A, 4, none⟩ = some (.int .i64 0) := hk3.cell 4
      have yc5 : w2.cell? ⟨A, 5, none⟩ = some (.int .i64 2) := hk3.cell 5
      have yc6 : w2.cell? ⟨A, 6, none⟩ = some (.slice Ao 0 co) := hk3.cell 6
      have yc7 : w2.cell? ⟨A, 7, none⟩ = some (.slice Aq 2 cq) := hk3.cell 7
      have yz0 := hk3.frozen 0
      have yz1 := hk3.frozen 1
      have yz2 := hk3.frozen 2
      have yz3 := hk3.frozen 3
      have yz4 := hk3.frozen 4
      have yz5 := hk3.frozen 5
      have yz6 := hk3.frozen 6
      have yz7 := hk3.frozen 7
      have lA2 := hk3.lt
      have hkS := set25_blk hk3 (.int .i64 7) (.int .i64 2) (.int .i64 10) (.int .i64 0) (.int .i64 0) (.int .i64 2) (.slice A2 0 c2) (.slice Aq2 3 cq2)
      have hTS := set25_turn hk3 (base := w.heap.size) HA.out (.int .i64 7) (.int .i64 2) (.int .i64 10) (.int .i64 0) (.int .i64 0) (.int .i64 2) (.slice A2 0 c2) (.slice Aq2 3 cq2)
      have hbS := set25_below (HI.out.bel.trans (H3.out.2.2.1.mono HI.out.bel.size)) (g := A) HA.out (.int .i64 7) (.int .i64 2) (.int .i64 10) (.int .i64 0) (.int .i64 0) (.int .i64 2) (.slice A2 0 c2) (.slice Aq2 3 cq2)
      have hrS := set25_other (HI.out.res.below H3.out.2.2.1 HI.out.res.lt) (g := A) (by have := HNE.out; omega) (.int .i64 7) (.int .i64 2) (.int .i64 10) (.int .i64 0) (.int .i64 0) (.int .i64 2) (.slice A2 0 c2) (.slice Aq2 3 cq2)
      have hsC : w2.heap[C]? = some oC := (H3.out.2.2.1.block C hCl).trans HI.out.str
      have hsS := hTS.block C oC hsC (fun t cs2 hm e => by
        obtain ⟨cs9, fr9, h9, _⟩ := HAB.out
        rw [h9] at e
        injection e with _ e2
        rw [List.mem_singleton] at hm
        rw [hm] at e2
        exact absurd e2 (by decide))
      have HN : Hid (PuI w base A oC C 3 _) := ⟨⟨_, _, hkS, H3.out.1.turn (hTS.base hbw) (by simp) (by simp), H3.out.2.1.turn (hTS.base hbw) (by simp) (by simp)⟩, hrS, hsS, hbS⟩
      clear hkS hTS hbS hrS hsC hsS hk3
      dsimp only [snC, PS, abcL, List.take, List.length]
      go_wp2_with fail
      go_roundw
      case rel => exact ⟨3, by omega, by go_num, HN⟩
      case measure => simp [intOf]
    · have hbxl : Blk wr A 25 #[.int .i64 7, .int .i64 2, .int .i64 10, .int .i64 0, .int .i64 0, .int .i64 2, .slice Ao 0 co, .slice Aq 3 cq] := hbx
      have xc0 : wr.cell? ⟨A, 0, none⟩ = some (.int .i64 7) := hbxl.cell 0
      have xc1 : wr.cell? ⟨A, 1, none⟩ = some (.int .i64 2) := hbxl.cell 1
      have xc2 : wr.cell? ⟨A, 2, none⟩ = some (.int .i64 10) := hbxl.cell 2
      have xc3 : wr.cell? ⟨A, 3, none⟩ = some (.int .i64 0) := hbxl.cell 3
      have xc4 : wr.cell? ⟨A, 4, none⟩ = some (.int .i64 0) := hbxl.cell 4
      have xc5 : wr.cell? ⟨A, 5, none⟩ = some (.int .i64 2) := hbxl.cell 5
      have xc6 : wr.cell? ⟨A, 6, none⟩ = some (.slice Ao 0 co) := hbxl.cell 6
      have xc7 : wr.cell? ⟨A, 7, none⟩ = some (.slice Aq 3 cq) := hbxl.cell 7
      have lA := hbxl.lt
      have xd0 : wr.cell? ⟨w.heap.size, 0, none⟩ = some (.int .i64 0) := HI.out.res.cell 0
      have xd1 : wr.cell? ⟨w.heap.size, 1, none⟩ = some (.int .i64 0) := HI.out.res.cell 1
      have xd2 : wr.cell? ⟨w.heap.size, 2, none⟩ = some (.int .i64 0) := HI.out.res.cell 2
      have xd3 : wr.cell? ⟨w.heap.size, 3, none⟩ = some (.int .i64 0) := HI.out.res.cell 3
      have xd4 : wr.cell? ⟨w.heap.size, 4, none⟩ = some (.int .i64 0) := HI.out.res.cell 4
      have xd5 : wr.cell? ⟨w.heap.size, 5, none⟩ = some (.int .i64 0) := HI.out.res.cell 5
      have xd6 : wr.cell? ⟨w.heap.size, 6, none⟩ = some (.slice none 0 0) := HI.out.res.cell 6
      have xd7 : wr.cell? ⟨w.heap.size, 7, none⟩ = some (.slice none 0 0) := HI.out.res.cell 7
      have xy0 := HI.out.res.frozen 0
      have xy1 := HI.out.res.frozen 1
      have xy2 := HI.out.res.frozen 2
      have xy3 := HI.out.res.frozen 3
      have xy4 := HI.out.res.frozen 4
      have xy5 := HI.out.res.frozen 5
      have xy6 := HI.out.res.frozen 6
      have xy7 := HI.out.res.frozen 7
      have lO := HI.out.res.lt
      have hkF := set25_blk HI.out.res (.int .i64 7) (.int .i64 2) (.int .i64 10) (.int .i64 0) (.int .i64 0) (.int .i64 2) (.slice Ao 0 co) (.slice Aq 3 cq)
      have hTF := set25_turn HI.out.res (base := w.heap.size) (Nat.le_refl _) (.int .i64 7) (.int .i64 2) (.int .i64 10) (.int .i64 0) (.int .i64 0) (.int .i64 2) (.slice Ao 0 co) (.slice Aq 3 cq)
      have hbF := set25_below HI.out.bel (g := w.heap.size) (Nat.le_refl _) (.int .i64 7) (.int .i64 2) (.int .i64 10) (.int .i64 0) (.int .i64 0) (.int .i64 2) (.slice Ao 0 co) (.slice Aq 3 cq)
      have HF := Lib.hid (And.intro hkF (And.intro hbF (And.intro (hO.turn (hTF.base hbw) (by simp) (by simp)) (hQ.turn (hTF.base hbw) (by simp) (by simp)))))
      clear hkF hTF hbF hO hQ hbx hbxl
      go_wp2_with fail
      refine bodyPost_ret (results_cell1 (t := 25) rfl _ _ (w.heap.size) _ _ rfl HF.out.1 Try.underlying25 rfl (by kernel_rfl)) rfl ?_
      exact ⟨⟨_, rfl, _, _, rfl, HF.out.2.2.1, HF.out.2.2.2⟩, HF.out.2.1⟩
end Go.Proofs.Ytanmndhdhlmjgaa

/- A list of packets read by elements; the example's states; the two boxes of the example. No condition. -/
namespace Go.Proofs.Ytanmndhdhlmjgaa
open Go.RowKit
/-- one packet of a list, in its cells -/
structure KAt (W : World) (base b off : Nat) (p : Pm) (vs vp : Value) : Prop where
  c0 : W.cell? ⟨b, off, none⟩ = some (.int .i64 p.kind)
  c1 : W.cell? ⟨b, off + 1, none⟩ = some (.int .i64 p.ses)
  c2 : W.cell? ⟨b, off + 2, none⟩ = some (.int .i64 p.seq)
  c3 : W.cell? ⟨b, off + 3, none⟩ = some (.int .i64 p.ack)
  c4 : W.cell? ⟨b, off + 4, none⟩ = some (.int .i64 p.cred)
  c5 : W.cell? ⟨b, off + 5, none⟩ = some vs
  c6 : W.cell? ⟨b, off + 6, none⟩ = some vp
  xs : XsV W base p.sel vs
  bs : BsV W base p.p vp
theorem KAt.pk {W : World} {base b off : Nat} {p : Pm} {vs vp : Value} (h : KAt W base b off p vs vp) : PkV W base p (.agg (pkC p vs vp)) := ⟨vs, vp, rfl, h.xs, h.bs⟩
theorem KsV.at_ {W : World} {base : Nat} {l : List Pm} {v : Value} (h : KsV W base l v) (hl : l.length ≤ 100000) (h0 : 0 < l.length) :
    ∃ b off c, v = .slice (some ⟨b, off, none⟩) l.length c ∧ b < W.heap.size ∧ ∀ i (hi : i < l.length), ∃ vs vp, KAt W base b (off + i * 7) l[i] vs vp := by
  obtain ⟨es, hV, rfl⟩ := h
  rw [List.length_map] at hl h0
  obtain ⟨b, off, c, hv, hlc, hcm, hb, hc⟩ := hV.at_ encK_len (by omega) h0
  refine ⟨b, off, c, by rw [List.length_map]; exact hv, hb, fun i hi => ?_⟩
  have hi := hi
  rw [List.length_map] at hi
  have hR := hV.el es[i] (List.getElem_mem hi)
  have hi2 := hc i hi
  refine ⟨es[i].vs, .slice es[i].A es[i].p.length es[i].c, ?_⟩
  rw [List.getElem_map]
  exact ⟨hi2 0 _ rfl, hi2 1 _ rfl, hi2 2 _ rfl, hi2 3 _ rfl, hi2 4 _ rfl, hi2 5 _ rfl, hi2 6 _ rfl, hR.1, ⟨_, _, rfl, hR.2⟩⟩
theorem KsV.cells {W : World} {base : Nat} {l : List Pm} {b off n c : Nat} (h : KsV W base l (.slice (some ⟨b, off, none⟩) n c)) (hl : l.length ≤ 100000) {i : Nat} (hi : i < l.length) :
    b < W.heap.size ∧ ∃ vs vp, KAt W base b (off + i * 7) l[i] vs vp := by
  obtain ⟨b2, off2, c2, hv, hb, hc⟩ := h.at_ hl (by omega)
  injection hv with hA hn hcc
  injection hA with hA
  injection hA with hA hO
  subst hA hO
  exact ⟨hb, hc i hi⟩
def eS1 : Sm := { PS 3 with next := 2, out := [⟨0, 0, 1, false, [97]⟩, ⟨1, 0, 1, false, [98]⟩], q := [[99]] }
def eS3 : Sm := { PS 3 with next := 2, out := [⟨0, 0, 1, false, [97]⟩, ⟨1, 0, 1, true, [98]⟩], q := [[99]] }
def eS4 : Sm := { PS 3 with next := 2, out := [⟨0, 10, 2, false, [97]⟩, ⟨1, 0, 1, true, [98]⟩], q := [[99]] }
def eS5 : Sm := { PS 3 with base := 2, next := 2, out := [], q := [[99]] }
def eS6 : Sm := { PS 3 with base := 2, next := 3, out := [⟨2, 13, 1, false, [99]⟩], q := [] }
def eP1 : List Pm := [⟨0, 7, 0, 0, 0, [], [97]⟩, ⟨0, 7, 1, 0, 0, [], [98]⟩]
def eP4 : List Pm := [⟨0, 7, 0, 0, 0, [], [97]⟩]
def eP6 : List Pm := [⟨0, 7, 2, 0, 0, [], [99]⟩]
def eX : Pm := ⟨1, 7, 0, 0, 2, [⟨1, 1⟩], []⟩
def eY : Pm := ⟨1, 7, 0, 2, 2, [], []⟩
def eR0 : Rm := ⟨7, 2, 0, []⟩
def eR1 : Rm := ⟨7, 2, 0, [⟨1, [98]⟩]⟩
def eR2 : Rm := ⟨7, 2, 2, []⟩
theorem ex1 : pollS (PS 3) 0 = (eS1, eP1) := by kernel_rfl
theorem ex2 : pollS eS1 5 = (eS1, []) := by kernel_rfl
theorem ex3 : recvR eR0 ⟨0, 7, 1, 0, 0, [], [98]⟩ = (eR1, [], [eX]) := by kernel_rfl
theorem ex4 : ackS eS1 8 eX = (eS3, 8) := by kernel_rfl
theorem ex5 : pollS eS3 10 = (eS4, eP4) := by kernel_rfl
theorem ex6 : recvR eR1 ⟨0, 7, 0, 0, 0, [], [97]⟩ = (eR2, [[97], [98]], [eY]) := by kernel_rfl
theorem ex7 : recvR eR2 ⟨0, 7, 0, 0, 0, [], [97]⟩ = (eR2, [], [eY]) := by kernel_rfl
theorem ex8 : ackS eS4 13 eY = (eS5, -1) := by kernel_rfl
theorem ex9 : pollS eS5 13 = (eS6, eP6) := by kernel_rfl
theorem ex10 : ackS eS6 14 eX = (eS6, -1) := by kernel_rfl
theorem ex11 : unackS eS6 = 1 := by kernel_rfl
theorem ex12 : newR 7 2 = (eR0, 0) := by kernel_rfl
/-- the example's two boxes, and the lists that it keeps -/
structure AwS (w : World) (A R : Nat) (s : Sm) (vo vq : Value) (r : Rm) (ve : Value) (K : List (List Pm × Value)) (W : World) : Prop where
  sb : Blk W A 25 (snC s vo vq)
  so : OsV W w.heap.size s.out vo
  sq : QsV W w.heap.size s.q vq
  rb : Blk W R 33 (rcC r ve)
  re : AsV W w.heap.size r.early ve
  ks : ∀ x ∈ K, KsV W w.heap.size x.1 x.2
  bel : Below w.heap.size w W
section
variable {w : World} {A R : Nat} {s : Sm} {vo vq : Value} {r : Rm} {ve : Value} {K : List (List Pm × Value)} {W W' : World}
theorem AwS.below (h : AwS w A R s vo vq r ve K W) (hb : Below W.heap.size W W') : AwS w A R s vo vq r ve K W' :=
  ⟨h.sb.below hb h.sb.lt, h.so.up hb, h.sq.up hb, h.rb.below hb h.rb.lt, h.re.up hb, fun x hx => (h.ks x hx).up hb, h.bel.trans (hb.mono h.bel.size)⟩
theorem AwS.sn (h : AwS w A R s vo vq r ve K W) : SnV W w.heap.size s (.agg (snC s vo vq)) := ⟨vo, vq, rfl, h.so, h.sq⟩
theorem AwS.rc (h : AwS w A R s vo vq r ve K W) : RcV W w.heap.size r (.agg (rcC r ve)) := ⟨ve, rfl, h.re⟩
theorem AwS.add (h : AwS w A R s vo vq r ve K W) {l : List Pm} {v : Value} (hk : KsV W w.heap.size l v) : AwS w A R s vo vq r ve ((l, v) :: K) W :=
  ⟨h.sb, h.so, h.sq, h.rb, h.re, fun x hx => by rcases List.mem_cons.1 hx with rfl | hx; exact hk; exact h.ks x hx, h.bel⟩
theorem AwS.setS (h : AwS w A R s vo vq r ve K W) (hA : w.heap.size ≤ A) (s' : Sm) {vo' vq' v0 v1 v2 v3 v4 v5 : Value} (ho : OsV W w.heap.size s'.out vo') (hq : QsV W w.heap.size s'.q vq') (hs : snC s' vo' vq' = #[v0, v1, v2, v3, v4, v5, vo', vq']) :
    AwS w A R s' vo' vq' r ve K ((((((((W.setCell ⟨A, 0, none⟩ v0).setCell ⟨A, 1, none⟩ v1).setCell ⟨A, 2, none⟩ v2).setCell ⟨A, 3, none⟩ v3).setCell ⟨A, 4, none⟩ v4).setCell ⟨A, 5, none⟩ v5).setCell ⟨A, 6, none⟩ vo').setCell ⟨A, 7, none⟩ vq') := by
  have hT := set25_turn h.sb hA v0 v1 v2 v3 v4 v5 vo' vq'
  exact ⟨by rw [hs]; exact set25_blk h.sb v0 v1 v2 v3 v4 v5 vo' vq', ho.turn hT (by simp) (by simp), hq.turn hT (by simp) (by simp), h.rb.turn hT (by simp), h.re.turn hT (by simp) (by simp), fun x hx => (h.ks x hx).turn hT (by simp) (by simp) (by simp), set25_below h.bel hA v0 v1 v2 v3 v4 v5 vo' vq'⟩
theorem AwS.setR (h : AwS w A R s vo vq r ve K W) (hR : w.heap.size ≤ R) (r' : Rm) {ve' v0 v1 v2 : Value} (he : AsV W w.heap.size r'.early ve') (hs : rcC r' ve' = #[v0, v1, v2, ve']) :
    AwS w A R s vo vq r' ve' K ((((W.setCell ⟨R, 0, none⟩ v0).setCell ⟨R, 1, none⟩ v1).setCell ⟨R, 2, none⟩ v2).setCell ⟨R, 3, none⟩ ve') := by
  have hT := set33_turn h.rb hR v0 v1 v2 ve'
  exact ⟨h.sb.turn hT (by simp), h.so.turn hT (by simp) (by simp), h.sq.turn hT (by simp) (by simp), by rw [hs]; exact set33_blk h.rb v0 v1 v2 ve', he.turn hT (by simp) (by simp), fun x hx => (h.ks x hx).turn hT (by simp) (by simp) (by simp), set33_below h.bel hR v0 v1 v2 ve'⟩
end
end Go.Proofs.Ytanmndhdhlmjgaa
