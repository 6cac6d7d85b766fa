/- The walks of sort.Search over Rate's closure, and of Rate. Condition: at most 40 cycles, each of at most 60 sectors. -/
import Derived.Test.YthkpkjigfaannaaXj
namespace Go.Proofs.Ythkpkjigfaannaa
open Go.RowKit
/-- what the search stands on -/
structure RtI (A : Option Addr) (m c gb go gk : Nat) (vc : Value) (o : Int) (ws : List Int) (W : World) : Prop where
  rd : RdI W A m ws
  t : Blk W gb 65 #[.slice A m c, vc, .int .i64 1, .int .i64 0, .int .i64 0]
  o : Blk W go 3 #[.int .i64 o]
  k : Blk W gk 82 #[.func (.func 45) #[] #[.pointer (some ⟨gb, 0, none⟩), .pointer (some ⟨go, 0, none⟩)]]
theorem RtI.up {A : Option Addr} {m c gb go gk : Nat} {vc : Value} {o : Int} {ws : List Int} {W W' : World} (h : RtI A m c gb go gk vc o ws W) (hb : Below W.heap.size W W') : RtI A m c gb go gk vc o ws W' :=
  ⟨h.rd.up hb, h.t.below hb h.t.lt, h.o.below hb h.o.lt, h.k.below hb h.k.lt⟩
set_option maxRecDepth 100000 in
set_option maxHeartbeats 2000000 in
theorem keeps2_any (A : Option Addr) (m c gb go gk : Nat) (vc : Value) (o i : Int) (ws : List Int) (W : World) (h : RtI A m c gb go gk vc o ws W) (hcm : m ≤ c) (hm : m ≤ 40) (hw : ∀ x ∈ ws, 0 ≤ x ∧ x ≤ 60) (hi : 0 ≤ i ∧ i < 4096) :
    Calls Try.prog 47 #[.int .i64 i, .pointer (some ⟨gk, 0, none⟩)] W fun e w' => e = .returned (.bool (decide (boundP ws (i + 1) m ≤ o))) ∧ Below W.heap.size W w' := by
  have HK := Lib.hid (keeps_any A m c gb go vc o (i + 1) ws W h.rd h.t h.o hcm hm hw (by omega))
  have k0 := h.k.cell 0
  clear h hw
  go_enter Try.func47, Try.ntmps47
  go_wp2_with fail
  refine HK.out.mono ?_
  rintro e w1 ⟨rfl, hb1⟩
  go_wp2_with fail
  go_ret
  exact ⟨rfl, hb1⟩
set_option maxRecDepth 100000 in
set_option maxHeartbeats 2000000 in
theorem search_any (A : Option Addr) (m c gb go gk : Nat) (vc : Value) (o : Int) (ws : List Int) (W : World) (h : RtI A m c gb go gk vc o ws W) (hcm : m ≤ c) (hm : m ≤ 40) (hw : ∀ x ∈ ws, 0 ≤ x ∧ x ≤ 60) :
    Calls Try.prog 46 #[.int .i64 4096, .func (.func 47) #[] #[.pointer (some ⟨gk, 0, none⟩)]] W fun e w' => (∃ i : Nat, i ≤ 4096 ∧ e = .returned (.int .i64 i) ∧ (i = 0 ∨ o < boundP ws i m) ∧ (i = 4096 ∨ boundP ws (i + 1) m ≤ o)) ∧ Below W.heap.size W w' := by
  have HK := Lib.hid (fun w9 (h9 : Below W.heap.size W w9) (i : Int) hi => keeps2_any A m c gb go gk vc o i ws w9 (h.up h9) hcm hm hw hi)
  clear h hw
  go_enter Try.func46, Try.ntmps46
  go_wp2_with fail
  go_loopw [5, 6, 7] (fun t5 t6 t7 wr => ∃ i j : Nat, t5 = .int .i64 i ∧ t6 = .int .i64 j ∧ i ≤ j ∧ j ≤ 4096 ∧ (i = 0 ∨ o < boundP ws i m) ∧ (j = 4096 ∨ boundP ws (j + 1) m ≤ o) ∧ Below W.heap.size W wr) (fun i j _ _ => (intOf j).toNat - (intOf i).toNat)
  case atStart => exact ⟨0, 4096, rfl, rfl, by omega, by omega, .inl rfl, .inl rfl, Below.refl _ _⟩
  case round =>
    obtain ⟨i, j, rfl, rfl, hij, hj, hi0, hj0, hb⟩ := hrel
    have HF := Lib.hid (And.intro hi0 (And.intro hj0 hb))
    clear hi0 hj0 hb
    by_cases hlt : i < j
    · have il : (i : Int) < j := by omega
      go_upto_region 4 with fail
      obtain ⟨q, hq⟩ : ∃ q : Nat, ((i : Int) + j) / 2 = q := ⟨(i + j) / 2, by omega⟩
      rw [hq]
      have q1 : i ≤ q := by omega
      have q2 : q < j := by omega
      clear hq
      have hk := HK.out _ HF.out.2.2 q (by omega)
      obtain ⟨B, hB⟩ : ∃ B, boundP ws ((q : Int) + 1) m = B := ⟨_, rfl⟩
      rw [hB] at hk
      have HB := Lib.hid hB
      obtain ⟨bb, hbb⟩ : ∃ bb, decide (B ≤ o) = bb := ⟨_, rfl⟩
      rw [hbb] at hk
      have HBB := Lib.hid hbb
      clear hB hbb
      go_wp2_with fail
      refine hk.mono ?_
      rintro e w1 ⟨rfl, hb1⟩
      have hb2 := HF.out.2.2.trans (hb1.mono HF.out.2.2.size)
      have HB2 := Lib.hid hb2
      clear hb1 hb2 hk
      cases bb with
      | true =>
        have HBo := Lib.hid (of_decide_eq_true HBB.out)
        go_wp2_with fail
        go_roundw
        case rel => exact ⟨i, q, rfl, rfl, q1, by omega, HF.out.1, .inr (by rw [HB.out]; exact HBo.out), HB2.out⟩
        case measure => simp [intOf]; omega
      | false =>
        have HBo := Lib.hid (of_decide_eq_false HBB.out)
        go_wp2_with fail
        go_roundw
        case rel => exact ⟨q + 1, j, by go_num, rfl, by omega, hj, .inr (by show o < boundP ws ((q : Int) + 1) m; rw [HB.out]; have := HBo.out; omega), HF.out.2.1, HB2.out⟩
        case measure => simp [intOf]; omega
    · have il : ¬ (i : Int) < j := by omega
      obtain rfl : i = j := by omega
      go_wp2_with fail
      go_ret
      exact ⟨⟨i, hj, rfl, HF.out.1, HF.out.2.1⟩, HF.out.2.2⟩
theorem bound_one {ws : List Int} {r : Int} (hw : ∀ k, 0 ≤ ws.getD k 0 ∧ ws.getD k 0 ≤ 60) (hr : 60 ≤ r) : ∀ k : Nat, endP ws r k ≤ k + 1 ∧ boundP ws r k ≤ 1
  | 0 => ⟨by show (0 : Int) ≤ _; omega, by show (0 : Int) ≤ 1; omega⟩
  | k + 1 => by
    obtain ⟨h1, h2⟩ := bound_one hw hr k
    obtain ⟨h3, h4⟩ := hw k
    have h5 : (ws.getD k 0 + r - 1) / r ≤ 1 := Int.le_of_lt_add_one (Int.ediv_lt_of_lt_mul (by omega) (by omega))
    have h6 : endP ws r (k + 1) ≤ k + 2 := by
      rw [endP]
      omega
    refine ⟨by omega, ?_⟩
    rw [boundP]
    split <;> omega
set_option maxRecDepth 100000 in
set_option maxHeartbeats 2000000 in
theorem Rate_any (A : Option Addr) (m c : Nat) (o : Int) (ws : List Int) (w : World) (hR : RdI w A m ws) (hcm : m ≤ c) (hm : m ≤ 40) (hw : ∀ x ∈ ws, 0 ≤ x ∧ x ≤ 60) (ho : 1 ≤ o ∧ o ≤ 30) :
    Calls Try.prog 28 #[.agg #[.slice A m c, .slice none 0 0, .int .i64 1, .int .i64 0, .int .i64 0], .int .i64 o] w fun e w' => (∃ r : Int, (1 ≤ r ∧ r ≤ 60) ∧ boundP ws r m ≤ o ∧ e = .returned (.tuple #[.int .i64 r, .int .i64 0])) ∧ Below w.heap.size w w' := by
  have HCh := Lib.hid (fun w9 A1 (h9 : Below w.heap.size w w9) hR1 => pcheck_any A A1 m c 1 1 ws w9 (hR.up h9) hR1 hm hw (by omega))
  have HSe := Lib.hid (fun gb go gk vc w9 h => search_any A m c gb go gk vc o ws w9 h hcm hm hw)
  have HOne := Lib.hid (fun r (h : 60 ≤ r) => (bound_one (getD_range hw) h m).2)
  have HR := Lib.hid (fun w9 (h9 : Below w.heap.size w w9) => hR.up h9)
  have HBo := Lib.hid (fun w9 => pbetween_any o 0 1073741824 w9)
  rw [show betwB o 0 1073741824 = true by simp [betwB]; omega] at HBo
  clear hR hw
  go_enter Try.func28, Try.ntmps28
  go_wp2_with fail
  refine (HBo.out _).mono ?_
  rintro e w1 ⟨rfl, rfl⟩
  go_upto_region 4 with fail
  obtain ⟨W, hW⟩ : ∃ W, ((w.alloc (.cells #[.slice A m c, .slice (some ⟨w.heap.size + 1 + 1, 0, none⟩) 1 1, .int .i64 1, .int .i64 0, .int .i64 0] 65)).alloc (.cells #[.int .i64 o] 3)).alloc (.cells #[.int .i64 1] 3) = W := ⟨_, rfl⟩
  have hb : Below w.heap.size w W := by rw [← hW]; exact (((Below.refl _ w).alloc (Nat.le_refl _) _).alloc (by simp) _).alloc (by simp; omega) _
  have hs : W.heap.size = w.heap.size + 3 := by rw [← hW]; simp
  have ht : Blk W w.heap.size 65 #[.slice A m c, .slice (some ⟨w.heap.size + 1 + 1, 0, none⟩) 1 1, .int .i64 1, .int .i64 0, .int .i64 0] := by rw [← hW]; exact ((Blk.new w 65 _).alloc _).alloc _
  have hO : Blk W (w.heap.size + 1) 3 #[.int .i64 o] := by rw [← hW]; exact (blk_new2 w _ _ 3).alloc _
  have hR1 : RdI W (some ⟨w.heap.size + 1 + 1, 0, none⟩) 1 [1] := by
    have h := rdI_new2 (w.alloc (.cells #[.slice A m c, .slice (some ⟨w.heap.size + 1 + 1, 0, none⟩) 1 1, .int .i64 1, .int .i64 0, .int .i64 0] 65)) (.cells #[.int .i64 o] 3) 1
    rw [World.size_alloc] at h
    rw [← hW]
    exact h
  rw [hW]
  obtain ⟨e0, e1, e2, e3, e4⟩ := tr5 ht
  have lt := ht.lt
  have HX := Lib.hid (And.intro ht (And.intro hO (And.intro hR1 hb)))
  have lo := hO.lt
  clear hW ht hO hR1 hb
  go_wp2_with fail
  refine (HCh.out _ _ HX.out.2.2.2 HX.out.2.2.1).mono ?_
  rintro e w1 ⟨rfl, hb1⟩
  have hb2 := HX.out.2.2.2.trans (hb1.mono HX.out.2.2.2.size)
  have ht1 := HX.out.1.below hb1 lt
  have hO1 := HX.out.2.1.below hb1 lo
  have HY := Lib.hid (And.intro ht1 (And.intro hO1 hb2))
  have lt1 := ht1.lt
  have lo1 := hO1.lt
  clear e0 e1 e2 e3 e4 hb1 hb2 ht1 hO1 HX hs lt lo HCh
  go_upto_region 8 with fail
  have hA := (Below.refl _ w1).alloc (Nat.le_refl _) (.cells #[.func (.func 45) #[] #[.pointer (some ⟨w.heap.size, 0, none⟩), .pointer (some ⟨w.heap.size + 1, 0, none⟩)]] 82)
  have HRt : Hid (RtI A m c w.heap.size (w.heap.size + 1) w1.heap.size _ o ws (w1.alloc (.cells #[.func (.func 45) #[] #[.pointer (some ⟨w.heap.size, 0, none⟩), .pointer (some ⟨w.heap.size + 1, 0, none⟩)]] 82))) :=
    Lib.hid ⟨HR.out _ (HY.out.2.2.alloc HY.out.2.2.size _), HY.out.1.below hA lt1, HY.out.2.1.below hA lo1, Blk.new _ _ _⟩
  clear hA
  go_wp2_with fail
  refine (HSe.out _ _ _ _ _ HRt.out).mono ?_
  rintro e w2 ⟨⟨i, hi, rfl, h0, h1⟩, hb3⟩
  have hb4 := (HY.out.2.2.alloc HY.out.2.2.size _).trans (hb3.mono (HY.out.2.2.alloc HY.out.2.2.size _).size)
  have hi2 : i < 60 := by
    rcases h0 with h0 | h0
    · omega
    · rcases Nat.lt_or_ge i 60 with h | h
      · exact h
      · have := HOne.out (i : Int) (by omega)
        omega
  have h2 : boundP ws ((i : Int) + 1) m ≤ o := by
    rcases h1 with h1 | h1
    · omega
    · exact h1
  have HZ := Lib.hid (And.intro h2 hb4)
  clear h0 h1 h2 hb3 hb4 HRt HY HSe HR HOne HBo
  go_wp2_with fail
  refine bodyPost_ret (v := .tuple #[.int .i64 (1 + (i : Int)), .int .i64 0]) (by simp [results, Try.results28, go_sem]) rfl ⟨⟨(i : Int) + 1, by omega, HZ.out.1, by rw [Int.add_comm]⟩, HZ.out.2⟩
end Go.Proofs.Ythkpkjigfaannaa
