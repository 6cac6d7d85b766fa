/- The walks of the closures, IndexFunc, ContainsFunc, Clone, copied, events, Copy. Conditions: sizes, as named. -/
import Derived.Test.YtknedclejhiegaaWb
import Derived.Deep.Cut
namespace Go.Proofs.Ytknedclejhiegaa
open Go.RowKit
theorem ret_bool {a b : Bool} (h : a = b) : Ending.returned (.bool a) = .returned (.bool b) := by rw [h]
set_option maxHeartbeats 400000 in
theorem clo33_any (t n k o : Int) (A : Option Addr) (c : Nat) (p : List Nat) (P : Nat) (x : Int) (w : World) (h0 : w.cell? ⟨P, 1, none⟩ = some (.int .i64 x)) (hP : P < w.heap.size) :
    Calls Try.prog 33 #[.agg (evC t n k o A p.length c), .pointer (some ⟨P, 0, none⟩)] w fun e w' => e = .returned (.bool (numB x ⟨t, n, k, o, p⟩)) ∧ Below w.heap.size w w' := by
  unfold evC
  go_enter Try.func33, Try.ntmps33
  go_wp2_with fail
  go_ret
  exact ⟨ret_bool (by simp [numB]), (Below.refl _ _).alloc (Nat.le_refl _) _⟩
set_option maxRecDepth 100000 in
set_option maxHeartbeats 1000000 in
theorem idx33_any (A : Option Addr) (m c : Nat) (l : List Ev) (P : Nat) (x : Int) (w : World) (hR : Evs w A m l) (hm : m ≤ 100000) (h0 : w.cell? ⟨P, 1, none⟩ = some (.int .i64 x)) (hP : P < w.heap.size) :
    Calls Try.prog 36 #[.slice A m c, .func (.func 33) #[] #[.pointer (some ⟨P, 0, none⟩)]] w fun e w' => e = .returned (.int .i64 (idxI (numB x) (l.map Ev.em))) ∧ Below w.heap.size w w' := by
  have hlen := hR.count
  have HL := Lib.hid hlen
  have HR := Lib.hid hR
  clear hlen hR
  go_enter Try.func36, Try.ntmps36
  go_wp2_with fail
  go_loopw [8] (fun i wr => ∃ k : Nat, k ≤ m ∧ i = .int .i64 k ∧ (∀ j y, j < k → (l.map Ev.em)[j]? = some y → (numB x) y = false) ∧ Below w.heap.size w wr) (fun i _ => m - (intOf i).toNat)
  case atStart => exact ⟨0, by omega, rfl, fun j y hj => by omega, Below.refl _ _⟩
  case round =>
    obtain ⟨k, hk, rfl, hf, hb⟩ := hrel
    have HF := Lib.hid hf
    clear hf
    by_cases hlt : k < m
    · have hkl : k < l.length := by rw [HL.out]; exact hlt
      obtain ⟨b, off, rfl, hbw, hc⟩ := HR.out.cells (by omega)
      obtain ⟨d0, d1, d2, d3, d4⟩ := hc k _ (List.getElem?_eq_getElem hkl)
      replace d0 := (hb.cell (p := ⟨b, off + k * 5, none⟩) hbw).trans d0
      replace d1 := (hb.cell (p := ⟨b, off + k * 5 + 1, none⟩) hbw).trans d1
      replace d2 := (hb.cell (p := ⟨b, off + k * 5 + 2, none⟩) hbw).trans d2
      replace d3 := (hb.cell (p := ⟨b, off + k * 5 + 3, none⟩) hbw).trans d3
      replace d4 := (hb.cell (p := ⟨b, off + k * 5 + 4, none⟩) hbw).trans d4
      have HS : Hid ((l.map Ev.em)[k]? = some l[k].em) := by
        show _ = _
        rw [List.getElem?_map, List.getElem?_eq_getElem hkl]
        rfl
      clear hc
      generalize l[k] = ev at *
      obtain ⟨et, en, ek, eo, eA, ec, ep⟩ := ev
      dsimp only at d0 d1 d2 d3 d4
      have ik : (k : Int) < m := by omega
      have HP : Hid (wr.cell? ⟨P, 1, none⟩ = some (.int .i64 x)) := (hb.cell (p := ⟨P, 1, none⟩) hP).trans h0
      have hPr : P < wr.heap.size := Nat.lt_of_lt_of_le hP hb.size
      have HB := Lib.hid hb
      clear hb
      go_wp2_with fail
      refine (clo33_any et en ek eo eA ec ep P x _ HP.out hPr).mono ?_
      rintro e w1 ⟨rfl, hb1⟩
      obtain ⟨b, hbx⟩ : ∃ b, numB x ⟨et, en, ek, eo, ep⟩ = b := ⟨_, rfl⟩
      rw [hbx]
      have HX := Lib.hid hbx
      clear hbx
      cases b with
      | true =>
        go_wp2_with fail
        go_ret
        refine ⟨ret_int ?_, HB.out.trans (hb1.mono HB.out.size)⟩
        unfold idxI
        rw [idxB_some HF.out HS.out HX.out]
      | false =>
        go_wp2_with fail
        go_roundw
        case rel =>
          refine ⟨k + 1, by omega, by go_num, fun j y hj hy => ?_, HB.out.trans (hb1.mono HB.out.size)⟩
          rcases Nat.lt_or_ge j k with h | h
          · exact HF.out j y h hy
          · obtain rfl : j = k := by omega
            rw [HS.out] at hy
            injection hy with hy
            rw [← hy]
            exact HX.out
        case measure => simp [intOf]; omega
    · go_wp2_with fail
      go_ret
      refine ⟨ret_int ?_, hb⟩
      unfold idxI
      rw [idxB_none]
      intro y hy
      obtain ⟨j, hj, rfl⟩ := List.getElem_of_mem hy
      rw [List.length_map, HL.out] at hj
      exact HF.out j _ (by omega) (List.getElem?_eq_getElem (by rw [List.length_map, HL.out]; exact hj))
set_option maxHeartbeats 400000 in
theorem clo37_any (t n k o : Int) (A : Option Addr) (c : Nat) (p : List Nat) (P : Nat) (x : Int) (w : World) (h0 : w.cell? ⟨P, 0, none⟩ = some (.int .i64 x)) (hP : P < w.heap.size) :
    Calls Try.prog 37 #[.agg (evC t n k o A p.length c), .pointer (some ⟨P, 0, none⟩)] w fun e w' => e = .returned (.bool (laterB x ⟨t, n, k, o, p⟩)) ∧ Below w.heap.size w w' := by
  unfold evC
  go_enter Try.func37, Try.ntmps37
  go_wp2_with fail
  go_ret
  exact ⟨ret_bool (by simp [laterB]), (Below.refl _ _).alloc (Nat.le_refl _) _⟩
set_option maxRecDepth 100000 in
set_option maxHeartbeats 1000000 in
theorem idx37_any (A : Option Addr) (m c : Nat) (l : List Ev) (P : Nat) (x : Int) (w : World) (hR : Evs w A m l) (hm : m ≤ 100000) (h0 : w.cell? ⟨P, 0, none⟩ = some (.int .i64 x)) (hP : P < w.heap.size) :
    Calls Try.prog 36 #[.slice A m c, .func (.func 37) #[] #[.pointer (some ⟨P, 0, none⟩)]] w fun e w' => e = .returned (.int .i64 (idxI (laterB x) (l.map Ev.em))) ∧ Below w.heap.size w w' := by
  have hlen := hR.count
  have HL := Lib.hid hlen
  have HR := Lib.hid hR
  clear hlen hR
  go_enter Try.func36, Try.ntmps36
  go_wp2_with fail
  go_loopw [8] (fun i wr => ∃ k : Nat, k ≤ m ∧ i = .int .i64 k ∧ (∀ j y, j < k → (l.map Ev.em)[j]? = some y → (laterB x) y = false) ∧ Below w.heap.size w wr) (fun i _ => m - (intOf i).toNat)
  case atStart => exact ⟨0, by omega, rfl, fun j y hj => by omega, Below.refl _ _⟩
  case round =>
    obtain ⟨k, hk, rfl, hf, hb⟩ := hrel
    have HF := Lib.hid hf
    clear hf
    by_cases hlt : k < m
    · have hkl : k < l.length := by rw [HL.out]; exact hlt
      obtain ⟨b, off, rfl, hbw, hc⟩ := HR.out.cells (by omega)
      obtain ⟨d0, d1, d2, d3, d4⟩ := hc k _ (List.getElem?_eq_getElem hkl)
      replace d0 := (hb.cell (p := ⟨b, off + k * 5, none⟩) hbw).trans d0
      replace d1 := (hb.cell (p := ⟨b, off + k * 5 + 1, none⟩) hbw).trans d1
      replace d2 := (hb.cell (p := ⟨b, off + k * 5 + 2, none⟩) hbw).trans d2
      replace d3 := (hb.cell (p := ⟨b, off + k * 5 + 3, none⟩) hbw).trans d3
      replace d4 := (hb.cell (p := ⟨b, off + k * 5 + 4, none⟩) hbw).trans d4
      have HS : Hid ((l.map Ev.em)[k]? = some l[k].em) := by
        show _ = _
        rw [List.getElem?_map, List.getElem?_eq_getElem hkl]
        rfl
      clear hc
      generalize l[k] = ev at *
      obtain ⟨et, en, ek, eo, eA, ec, ep⟩ := ev
      dsimp only at d0 d1 d2 d3 d4
      have ik : (k : Int) < m := by omega
      have HP : Hid (wr.cell? ⟨P, 0, none⟩ = some (.int .i64 x)) := (hb.cell (p := ⟨P, 0, none⟩) hP).trans h0
      have hPr : P < wr.heap.size := Nat.lt_of_lt_of_le hP hb.size
      have HB := Lib.hid hb
      clear hb
      go_wp2_with fail
      refine (clo37_any et en ek eo eA ec ep P x _ HP.out hPr).mono ?_
      rintro e w1 ⟨rfl, hb1⟩
      obtain ⟨b, hbx⟩ : ∃ b, laterB x ⟨et, en, ek, eo, ep⟩ = b := ⟨_, rfl⟩
      rw [hbx]
      have HX := Lib.hid hbx
      clear hbx
      cases b with
      | true =>
        go_wp2_with fail
        go_ret
        refine ⟨ret_int ?_, HB.out.trans (hb1.mono HB.out.size)⟩
        unfold idxI
        rw [idxB_some HF.out HS.out HX.out]
      | false =>
        go_wp2_with fail
        go_roundw
        case rel =>
          refine ⟨k + 1, by omega, by go_num, fun j y hj hy => ?_, HB.out.trans (hb1.mono HB.out.size)⟩
          rcases Nat.lt_or_ge j k with h | h
          · exact HF.out j y h hy
          · obtain rfl : j = k := by omega
            rw [HS.out] at hy
            injection hy with hy
            rw [← hy]
            exact HX.out
        case measure => simp [intOf]; omega
    · go_wp2_with fail
      go_ret
      refine ⟨ret_int ?_, hb⟩
      unfold idxI
      rw [idxB_none]
      intro y hy
      obtain ⟨j, hj, rfl⟩ := List.getElem_of_mem hy
      rw [List.length_map, HL.out] at hj
      exact HF.out j _ (by omega) (List.getElem?_eq_getElem (by rw [List.length_map, HL.out]; exact hj))
set_option maxHeartbeats 400000 in
theorem clo40_any (t n k o : Int) (A : Option Addr) (c : Nat) (p : List Nat) (P : Nat) (x : Int) (w : World) (h0 : w.cell? ⟨P, 0, none⟩ = some (.int .i64 x)) (hP : P < w.heap.size) :
    Calls Try.prog 40 #[.agg (evC t n k o A p.length c), .pointer (some ⟨P, 0, none⟩)] w fun e w' => e = .returned (.bool (numB x ⟨t, n, k, o, p⟩)) ∧ Below w.heap.size w w' := by
  unfold evC
  go_enter Try.func40, Try.ntmps40
  go_wp2_with fail
  go_ret
  exact ⟨ret_bool (by simp [numB]), (Below.refl _ _).alloc (Nat.le_refl _) _⟩
set_option maxRecDepth 100000 in
set_option maxHeartbeats 1000000 in
theorem idx40_any (A : Option Addr) (m c : Nat) (l : List Ev) (P : Nat) (x : Int) (w : World) (hR : Evs w A m l) (hm : m ≤ 100000) (h0 : w.cell? ⟨P, 0, none⟩ = some (.int .i64 x)) (hP : P < w.heap.size) :
    Calls Try.prog 36 #[.slice A m c, .func (.func 40) #[] #[.pointer (some ⟨P, 0, none⟩)]] w fun e w' => e = .returned (.int .i64 (idxI (numB x) (l.map Ev.em))) ∧ Below w.heap.size w w' := by
  have hlen := hR.count
  have HL := Lib.hid hlen
  have HR := Lib.hid hR
  clear hlen hR
  go_enter Try.func36, Try.ntmps36
  go_wp2_with fail
  go_loopw [8] (fun i wr => ∃ k : Nat, k ≤ m ∧ i = .int .i64 k ∧ (∀ j y, j < k → (l.map Ev.em)[j]? = some y → (numB x) y = false) ∧ Below w.heap.size w wr) (fun i _ => m - (intOf i).toNat)
  case atStart => exact ⟨0, by omega, rfl, fun j y hj => by omega, Below.refl _ _⟩
  case round =>
    obtain ⟨k, hk, rfl, hf, hb⟩ := hrel
    have HF := Lib.hid hf
    clear hf
    by_cases hlt : k < m
    · have hkl : k < l.length := by rw [HL.out]; exact hlt
      obtain ⟨b, off, rfl, hbw, hc⟩ := HR.out.cells (by omega)
      obtain ⟨d0, d1, d2, d3, d4⟩ := hc k _ (List.getElem?_eq_getElem hkl)
      replace d0 := (hb.cell (p := ⟨b, off + k * 5, none⟩) hbw).trans d0
      replace d1 := (hb.cell (p := ⟨b, off + k * 5 + 1, none⟩) hbw).trans d1
      replace d2 := (hb.cell (p := ⟨b, off + k * 5 + 2, none⟩) hbw).trans d2
      replace d3 := (hb.cell (p := ⟨b, off + k * 5 + 3, none⟩) hbw).trans d3
      replace d4 := (hb.cell (p := ⟨b, off + k * 5 + 4, none⟩) hbw).trans d4
      have HS : Hid ((l.map Ev.em)[k]? = some l[k].em) := by
        show _ = _
        rw [List.getElem?_map, List.getElem?_eq_getElem hkl]
        rfl
      clear hc
      generalize l[k] = ev at *
      obtain ⟨et, en, ek, eo, eA, ec, ep⟩ := ev
      dsimp only at d0 d1 d2 d3 d4
      have ik : (k : Int) < m := by omega
      have HP : Hid (wr.cell? ⟨P, 0, none⟩ = some (.int .i64 x)) := (hb.cell (p := ⟨P, 0, none⟩) hP).trans h0
      have hPr : P < wr.heap.size := Nat.lt_of_lt_of_le hP hb.size
      have HB := Lib.hid hb
      clear hb
      go_wp2_with fail
      refine (clo40_any et en ek eo eA ec ep P x _ HP.out hPr).mono ?_
      rintro e w1 ⟨rfl, hb1⟩
      obtain ⟨b, hbx⟩ : ∃ b, numB x ⟨et, en, ek, eo, ep⟩ = b := ⟨_, rfl⟩
      rw [hbx]
      have HX := Lib.hid hbx
      clear hbx
      cases b with
      | true =>
        go_wp2_with fail
        go_ret
        refine ⟨ret_int ?_, HB.out.trans (hb1.mono HB.out.size)⟩
        unfold idxI
        rw [idxB_some HF.out HS.out HX.out]
      | false =>
        go_wp2_with fail
        go_roundw
        case rel =>
          refine ⟨k + 1, by omega, by go_num, fun j y hj hy => ?_, HB.out.trans (hb1.mono HB.out.size)⟩
          rcases Nat.lt_or_ge j k with h | h
          · exact HF.out j y h hy
          · obtain rfl : j = k := by omega
            rw [HS.out] at hy
            injection hy with hy
            rw [← hy]
            exact HX.out
        case measure => simp [intOf]; omega
    · go_wp2_with fail
      go_ret
      refine ⟨ret_int ?_, hb⟩
      unfold idxI
      rw [idxB_none]
      intro y hy
      obtain ⟨j, hj, rfl⟩ := List.getElem_of_mem hy
      rw [List.length_map, HL.out] at hj
      exact HF.out j _ (by omega) (List.getElem?_eq_getElem (by rw [List.length_map, HL.out]; exact hj))
set_option maxHeartbeats 400000 in
theorem clo42_any (t n k o : Int) (A : Option Addr) (c : Nat) (p : List Nat) (P : Nat) (x : Int) (w : World) (h0 : w.cell? ⟨P, 0, none⟩ = some (.int .i64 x)) (hP : P < w.heap.size) :
    Calls Try.prog 42 #[.agg (evC t n k o A p.length c), .pointer (some ⟨P, 0, none⟩)] w fun e w' => e = .returned (.bool (laterB x ⟨t, n, k, o, p⟩)) ∧ Below w.heap.size w w' := by
  unfold evC
  go_enter Try.func42, Try.ntmps42
  go_wp2_with fail
  go_ret
  exact ⟨ret_bool (by simp [laterB]), (Below.refl _ _).alloc (Nat.le_refl _) _⟩
set_option maxRecDepth 100000 in
set_option maxHeartbeats 1000000 in
theorem idx42_any (A : Option Addr) (m c : Nat) (l : List Ev) (P : Nat) (x : Int) (w : World) (hR : Evs w A m l) (hm : m ≤ 100000) (h0 : w.cell? ⟨P, 0, none⟩ = some (.int .i64 x)) (hP : P < w.heap.size) :
    Calls Try.prog 36 #[.slice A m c, .func (.func 42) #[] #[.pointer (some ⟨P, 0, none⟩)]] w fun e w' => e = .returned (.int .i64 (idxI (laterB x) (l.map Ev.em))) ∧ Below w.heap.size w w' := by
  have hlen := hR.count
  have HL := Lib.hid hlen
  have HR := Lib.hid hR
  clear hlen hR
  go_enter Try.func36, Try.ntmps36
  go_wp2_with fail
  go_loopw [8] (fun i wr => ∃ k : Nat, k ≤ m ∧ i = .int .i64 k ∧ (∀ j y, j < k → (l.map Ev.em)[j]? = some y → (laterB x) y = false) ∧ Below w.heap.size w wr) (fun i _ => m - (intOf i).toNat)
  case atStart => exact ⟨0, by omega, rfl, fun j y hj => by omega, Below.refl _ _⟩
  case round =>
    obtain ⟨k, hk, rfl, hf, hb⟩ := hrel
    have HF := Lib.hid hf
    clear hf
    by_cases hlt : k < m
    · have hkl : k < l.length := by rw [HL.out]; exact hlt
      obtain ⟨b, off, rfl, hbw, hc⟩ := HR.out.cells (by omega)
      obtain ⟨d0, d1, d2, d3, d4⟩ := hc k _ (List.getElem?_eq_getElem hkl)
      replace d0 := (hb.cell (p := ⟨b, off + k * 5, none⟩) hbw).trans d0
      replace d1 := (hb.cell (p := ⟨b, off + k * 5 + 1, none⟩) hbw).trans d1
      replace d2 := (hb.cell (p := ⟨b, off + k * 5 + 2, none⟩) hbw).trans d2
      replace d3 := (hb.cell (p := ⟨b, off + k * 5 + 3, none⟩) hbw).trans d3
      replace d4 := (hb.cell (p := ⟨b, off + k * 5 + 4, none⟩) hbw).trans d4
      have HS : Hid ((l.map Ev.em)[k]? = some l[k].em) := by
        show _ = _
        rw [List.getElem?_map, List.getElem?_eq_getElem hkl]
        rfl
      clear hc
      generalize l[k] = ev at *
      obtain ⟨et, en, ek, eo, eA, ec, ep⟩ := ev
      dsimp only at d0 d1 d2 d3 d4
      have ik : (k : Int) < m := by omega
      have HP : Hid (wr.cell? ⟨P, 0, none⟩ = some (.int .i64 x)) := (hb.cell (p := ⟨P, 0, none⟩) hP).trans h0
      have hPr : P < wr.heap.size := Nat.lt_of_lt_of_le hP hb.size
      have HB := Lib.hid hb
      clear hb
      go_wp2_with fail
      refine (clo42_any et en ek eo eA ec ep P x _ HP.out hPr).mono ?_
      rintro e w1 ⟨rfl, hb1⟩
      obtain ⟨b, hbx⟩ : ∃ b, laterB x ⟨et, en, ek, eo, ep⟩ = b := ⟨_, rfl⟩
      rw [hbx]
      have HX := Lib.hid hbx
      clear hbx
      cases b with
      | true =>
        go_wp2_with fail
        go_ret
        refine ⟨ret_int ?_, HB.out.trans (hb1.mono HB.out.size)⟩
        unfold idxI
        rw [idxB_some HF.out HS.out HX.out]
      | false =>
        go_wp2_with fail
        go_roundw
        case rel =>
          refine ⟨k + 1, by omega, by go_num, fun j y hj hy => ?_, HB.out.trans (hb1.mono HB.out.size)⟩
          rcases Nat.lt_or_ge j k with h | h
          · exact HF.out j y h hy
          · obtain rfl : j = k := by omega
            rw [HS.out] at hy
            injection hy with hy
            rw [← hy]
            exact HX.out
        case measure => simp [intOf]; omega
    · go_wp2_with fail
      go_ret
      refine ⟨ret_int ?_, hb⟩
      unfold idxI
      rw [idxB_none]
      intro y hy
      obtain ⟨j, hj, rfl⟩ := List.getElem_of_mem hy
      rw [List.length_map, HL.out] at hj
      exact HF.out j _ (by omega) (List.getElem?_eq_getElem (by rw [List.length_map, HL.out]; exact hj))
theorem idxI_ge {α : Type} (f : α → Bool) (l : List α) : decide (0 ≤ idxI f l) = l.any f := by
  rw [← idxB_any]
  unfold idxI
  cases idxB f l with
  | none => rfl
  | some k => simp
theorem contains33_any (A : Option Addr) (m c : Nat) (l : List Ev) (P : Nat) (x : Int) (w : World) (hR : Evs w A m l) (hm : m ≤ 100000) (h0 : w.cell? ⟨P, 1, none⟩ = some (.int .i64 x)) (hP : P < w.heap.size) :
    Calls Try.prog 32 #[.slice A m c, .func (.func 33) #[] #[.pointer (some ⟨P, 0, none⟩)]] w fun e w' => e = .returned (.bool ((l.map Ev.em).any (numB x))) ∧ Below w.heap.size w w' := by
  go_enter Try.func32, Try.ntmps32
  go_wp2_with fail
  refine (idx33_any A m c l P x w hR hm h0 hP).mono ?_
  rintro e w1 ⟨rfl, hb⟩
  have hv := idxI_ge (numB x) (l.map Ev.em)
  obtain ⟨r, hr⟩ : ∃ r, (l.map Ev.em).any (numB x) = r := ⟨_, rfl⟩
  rw [hr] at hv
  have HR := Lib.hid hr
  clear hr
  generalize idxI (numB x) (l.map Ev.em) = v at *
  by_cases h1 : 0 ≤ v
  · rw [decide_eq_true h1] at hv
    subst hv
    go_wp2_with fail
    go_ret
    exact ⟨HR.out ▸ rfl, hb⟩
  · rw [decide_eq_false h1] at hv
    subst hv
    go_wp2_with fail
    go_ret
    exact ⟨ret_bool (by rw [HR.out]; simp [h1]), hb⟩
set_option maxRecDepth 100000 in
set_option maxHeartbeats 1000000 in
theorem Clone_any (A : Option Addr) (n c : Nat) (l : List Nat) (w : World) (hR : Reads w w.heap.size 1 A n (u8s l)) (hn : n ≤ 100000) :
    Calls Try.prog 46 #[.slice A n c] w fun e w' => (∃ v, e = .returned v ∧ w'.ownsRow w.heap.size 5 1 v n (u8s l)) ∧ Below w.heap.size w w' := by
  obtain ⟨i0, hi0, hz0, hz1, hz2⟩ := info_parts info5b
  have HI := Lib.hid (And.intro hi0 (And.intro hz0 (And.intro hz1 hz2)))
  have hlen : l.length = n := by have := hR.1; rw [u8s_len] at this; omega
  have HL := Lib.hid hlen
  clear hi0 hz0 hz1 hz2 hlen
  have hb0 : Below w.heap.size w (w.alloc (.cells #[] 5)) := (Below.refl _ w).alloc (Nat.le_refl _) _
  have hnil := fun (w : World) (a : Option Addr) (n c : Nat) => Lib.run_eql_slice_nil (P := Try.prog) w 30 5 a n c 0 0 Try.underlying30
  cases A with
  | none =>
    have h0 : n = 0 := by
      rcases Nat.eq_zero_or_pos n with h | h
      · exact h
      · obtain ⟨_, e, _⟩ := hR.2 h; cases e
    subst h0
    have hl : l = [] := List.eq_nil_of_length_eq_zero HL.out
    subst hl
    go_enter Try.func46, Try.ntmps46
    go_wp2
    go_ret
    exact ⟨⟨_, rfl, World.ownsRow_nil w _ 5 1⟩, Below.refl _ _⟩
  | some ad =>
    go_enter Try.func46, Try.ntmps46
    go_wp2_with (at_builtin; refine wpList_append_any _ rfl (.tmp 5) (.tmp 6) _ rfl w.heap.size 5 i0 _ 1 1 Try.underlying30 HI.out.1 HI.out.2.1 HI.out.2.2.1 HI.out.2.2.2 rfl (by omega) (.slice (some ⟨w.heap.size, 0, none⟩) 0 0) 0 [] rfl (own_empty _ _ _) w.heap.size (some ad) n c (u8s l) rfl (Reads.below hR hb0) (u8s_one _) (by simp only [maxLen]; omega) (by omega) (by simp) ?_; intro v1 w1 hown1 hg1 _; simp only [Nat.zero_add, List.nil_append] at hown1)
    go_ret
    exact ⟨⟨_, rfl, hown1⟩, hb0.grown hg1 (by simp) (by intro k hk; simp [Value.ownBlock] at hk; omega)⟩
/-- a copy of an event: new, and the same -/
structure CopyR (w : World) (m : Em) (e : Ending) (w' : World) : Prop where
  bel : Below w.heap.size w w'
  val : ∃ A c, e = .returned (.agg (evC m.t m.n m.k m.o A m.p.length c)) ∧ Reads w' w'.heap.size 1 A m.p.length (u8s m.p) ∧ m.p.length ≤ c ∧ c ≤ maxLen ∧ (∀ ad, 0 < m.p.length → A = some ad → w.heap.size ≤ ad.block)
theorem own_addr {w : World} {base : Nat} {e : TypeId} {size : Nat} {A : Option Addr} {n c : Nat} {xs : List Value} (h : w.ownsRow base e size (.slice A n c) n xs) : ∀ ad, 0 < n → A = some ad → base ≤ ad.block := by
  intro ad hn hA
  obtain ⟨g, cap, cur, hv, hb, _⟩ := own_blk h hn
  injection hv with hv
  rw [hA] at hv
  injection hv with hv
  rw [hv]
  exact hb
theorem results_cell1 {P : Program} {fn : Func} {p : Tmp} {ty : TypeId} (h : fn.results = #[.cell p ty]) (tmps : Array Value) (w : World) (g : Nat) (t : TypeId) (cs : Array Value) (d : TypeDesc)
    (hp : tmps.getD p undef = .pointer (some ⟨g, 0, none⟩)) (hg : Blk w g t cs)
    (hu : P.underlying ty = some d) (hd : (match d with | .struct _ | .array _ _ => true | _ => false) = true) (hi : (P.info? ty).map (·.size) = some cs.size) :
    (results fn tmps).run P w = .ok (.agg cs) w := by
  have hp' : tmps[p]?.getD undef = .pointer (some ⟨g, 0, none⟩) := by simpa using hp
  simp [results, h, hp', asAddr, run_loadVar_row w g t ty cs (0, 0) d hg hu hd hi]
theorem Reads.row {w : World} {B size n : Nat} {A : Option Addr} {xs : List Value} (h : Reads w B size A n xs) {g : Nat} (hne : ∀ ad, 0 < n → A = some ad → ad.block ≠ g) (cs : Array Value) : Reads (w.setRow g cs) B size A n xs := by
  refine ⟨h.1, fun hn => ?_⟩
  obtain ⟨ad, hA, hlt, hc⟩ := h.2 hn
  refine ⟨ad, hA, hlt, fun j u hu => ?_⟩
  refine (World.cell?_of_block ?_).trans (hc j u hu)
  rw [block_of_add]
  exact setRow_other _ _ _ _ (hne ad hn hA)
set_option maxRecDepth 100000 in
set_option maxHeartbeats 1000000 in
theorem copied_any (t n k o : Int) (A : Option Addr) (c : Nat) (p : List Nat) (w : World) (hR : Reads w w.heap.size 1 A p.length (u8s p)) (hp : p.length ≤ 100000) :
    Calls Try.prog 34 #[.agg (evC t n k o A p.length c)] w (CopyR w ⟨t, n, k, o, p⟩) := by
  unfold evC
  have hb : Below w.heap.size w ((w.alloc (.cells #[.int .i64 t, .int .i64 n, .int .i64 k, .int .i64 o, .slice A p.length c] 32)).alloc (.cells #[.int .i64 0, .int .i64 0, .int .i64 0, .int .i64 0, .slice none 0 0] 32)) := ((Below.refl _ _).alloc (Nat.le_refl _) _).alloc (by simp) _
  have g0 : Blk ((w.alloc (.cells #[.int .i64 t, .int .i64 n, .int .i64 k, .int .i64 o, .slice A p.length c] 32)).alloc (.cells #[.int .i64 0, .int .i64 0, .int .i64 0, .int .i64 0, .slice none 0 0] 32)) w.heap.size 32 _ := (Blk.new w 32 #[.int .i64 t, .int .i64 n, .int .i64 k, .int .i64 o, .slice A p.length c]).alloc _
  have g1 := Blk.new (w.alloc (.cells #[.int .i64 t, .int .i64 n, .int .i64 k, .int .i64 o, .slice A p.length c] 32)) 32 #[.int .i64 0, .int .i64 0, .int .i64 0, .int .i64 0, .slice none 0 0]
  rw [World.size_alloc] at g1
  have hsz : ((w.alloc (.cells #[.int .i64 t, .int .i64 n, .int .i64 k, .int .i64 o, .slice A p.length c] 32)).alloc (.cells #[.int .i64 0, .int .i64 0, .int .i64 0, .int .i64 0, .slice none 0 0] 32)).heap.size = w.heap.size + 2 := by simp
  have HX := Lib.hid (And.intro hR hb)
  clear hR hb
  go_enter Try.func34, Try.ntmps34
  go_wp2_with fail
  generalize ((w.alloc (.cells #[.int .i64 t, .int .i64 n, .int .i64 k, .int .i64 o, .slice A p.length c] 32)).alloc (.cells #[.int .i64 0, .int .i64 0, .int .i64 0, .int .i64 0, .slice none 0 0] 32)) = W at *
  refine (Clone_any A p.length c p W (HX.out.1.up HX.out.2) hp).mono ?_
  rintro e w1 ⟨⟨v, rfl, hv⟩, hb1⟩
  obtain ⟨A1, c1, rfl, hc1, hm1, hr1⟩ := own_slice hv
  have hfar := own_addr hv
  have G0 := g0.below hb1 (by omega)
  have G1 := g1.below hb1 (by omega)
  have a0 : w1.cell? ⟨w.heap.size, 0, none⟩ = some (.int .i64 t) := G0.cell 0
  have a1 : w1.cell? ⟨w.heap.size, 1, none⟩ = some (.int .i64 n) := G0.cell 1
  have a2 : w1.cell? ⟨w.heap.size, 2, none⟩ = some (.int .i64 k) := G0.cell 2
  have a3 : w1.cell? ⟨w.heap.size, 3, none⟩ = some (.int .i64 o) := G0.cell 3
  have a4 : w1.cell? ⟨w.heap.size, 4, none⟩ = some (.slice A p.length c) := G0.cell 4
  have f4 : w1.frozen? ⟨w.heap.size, 4, none⟩ = false := G0.frozen 4
  have H1 := Lib.hid (And.intro hr1 (And.intro hb1 (And.intro hfar (And.intro hc1 (And.intro hm1 hsz)))))
  have HG := Lib.hid (And.intro G0 G1)
  clear hr1 hb1 hfar hc1 hm1 hv g0 g1 hsz G0 G1
  go_upto_region 2 with fail
  clear a0 a1 a2 a3 a4 f4
  have G0 : Blk (w1.setCell ⟨w.heap.size, 4, none⟩ (.slice A1 p.length c1)) w.heap.size 32 #[.int .i64 t, .int .i64 n, .int .i64 k, .int .i64 o, .slice A1 p.length c1] := HG.out.1.set_ 4 _
  have G1 := HG.out.2.far (p := ⟨w.heap.size, 4, none⟩) (by simp) (.slice A1 p.length c1)
  have hb2 : Below W.heap.size W w1 := H1.out.2.1
  have hbw : Below w.heap.size w (w1.setCell ⟨w.heap.size, 4, none⟩ (.slice A1 p.length c1)) := (HX.out.2.trans (hb2.mono HX.out.2.size)).setCell (Nat.le_refl _) _
  have hr2 : Reads (w1.setCell ⟨w.heap.size, 4, none⟩ (.slice A1 p.length c1)) w1.heap.size 1 A1 p.length (u8s p) := by
    refine ⟨H1.out.1.1, fun hn => ?_⟩
    obtain ⟨ad, hA, hlt, hc⟩ := H1.out.1.2 hn
    refine ⟨ad, hA, hlt, fun j u hu => ?_⟩
    rw [World.cell?_setCell_other]
    · exact hc j u hu
    · intro e
      have h1 := H1.out.2.2.1 ad hn hA
      have h2 := congrArg Addr.block e
      rw [block_of_add] at h2
      have h3 := H1.out.2.2.2.2.2
      simp only at h2
      omega
  have hz2 : (w1.setCell ⟨w.heap.size, 4, none⟩ (.slice A1 p.length c1)).heap.size = w1.heap.size := by simp
  rw [← hz2] at hr2
  have HW := Lib.hid (And.intro hbw (And.intro hr2 hz2))
  clear hbw hr2 hz2 HG
  generalize w1.setCell ⟨w.heap.size, 4, none⟩ (.slice A1 p.length c1) = W2 at *
  have a0 : W2.cell? ⟨w.heap.size, 0, none⟩ = some (.int .i64 t) := G0.cell 0
  have a1 : W2.cell? ⟨w.heap.size, 1, none⟩ = some (.int .i64 n) := G0.cell 1
  have a2 : W2.cell? ⟨w.heap.size, 2, none⟩ = some (.int .i64 k) := G0.cell 2
  have a3 : W2.cell? ⟨w.heap.size, 3, none⟩ = some (.int .i64 o) := G0.cell 3
  have a4 : W2.cell? ⟨w.heap.size, 4, none⟩ = some (.slice A1 p.length c1) := G0.cell 4
  have HG := Lib.hid G1
  clear G0 G1
  go_wp2_with (refine wpList_store_row rfl _ _ _ rfl (w.heap.size + 1) _ rfl rfl 32 _ HG.out (by kernel_rfl) rfl (by simp [Value.oneCell']) ?_)
  have GR := HG.out.setRow #[.int .i64 t, .int .i64 n, .int .i64 k, .int .i64 o, .slice A1 p.length c1]
  have hne : ∀ ad, 0 < p.length → A1 = some ad → w.heap.size + 2 ≤ ad.block := by
    intro ad h0 hA
    have h1 := H1.out.2.2.1 ad h0 hA
    have h3 := H1.out.2.2.2.2.2
    omega
  refine bodyPost_ret (v := .agg (evC t n k o A1 p.length c1)) (results_cell1 (t := 32) rfl _ _ (w.heap.size + 1) _ _ rfl GR Try.underlying32 rfl (by kernel_rfl)) rfl ⟨below_setRow HW.out.1 (by omega) _, A1, c1, rfl, ?_, H1.out.2.2.2.1, H1.out.2.2.2.2.1, fun ad h0 hA => by have := hne ad h0 hA; omega⟩
  have hr := (HW.out.2.1.row (g := w.heap.size + 1) (fun ad h0 hA => by have := hne ad h0 hA; omega) #[.int .i64 t, .int .i64 n, .int .i64 k, .int .i64 o, .slice A1 p.length c1])
  exact hr.more (by simp)
end Go.Proofs.Ytknedclejhiegaa
