/- The walks of the closures given to IndexFunc and ContainsFunc, and of these. Conditions: at most 100000 elements, sums that do not wrap. -/
import Derived.Test.YtanmndhdhlmjgaaVf
namespace Go.Proofs.Ytanmndhdhlmjgaa
open Go.RowKit
def longB (e : Qe) : Bool := decide (4096 < e.p.length)
def farX (next : Int) (x : Xm) : Bool := decide (next < x.s + x.c)
def inX (n : Int) (x : Xm) : Bool := decide (x.s ≤ n ∧ n < x.s + x.c)
def freeO (e : Oe) : Bool := !e.ak
/-- extents whose sums do not wrap -/
def BdX (l : List Xm) : Prop := ∀ x ∈ l, (0 ≤ x.s ∧ x.s ≤ 4294967296) ∧ (0 ≤ x.c ∧ x.c ≤ 4294967296)
set_option maxHeartbeats 400000 in
theorem far_any (s c next : Int) (P : Nat) (w : World) (hs : 0 ≤ s ∧ s ≤ 4294967296) (hc : 0 ≤ c ∧ c ≤ 4294967296) (h0 : w.cell? ⟨P, 4, none⟩ = some (.int .i64 next)) (hP : P < w.heap.size) :
    Calls Try.prog 83 #[.agg #[.int .i64 s, .int .i64 c], .pointer (some ⟨P, 0, none⟩)] w fun e w' => e = .returned (.bool (farX next ⟨s, c⟩)) ∧ Below w.heap.size w w' := by
  go_enter Try.func83, Try.ntmps83
  go_wp2_with fail
  go_ret
  exact ⟨ret_bool (by simp [farX]), (Below.refl _ _).alloc (Nat.le_refl _) _⟩
set_option maxHeartbeats 400000 in
theorem inx_any (s c n : Int) (P : Nat) (w : World) (hs : 0 ≤ s ∧ s ≤ 4294967296) (hc : 0 ≤ c ∧ c ≤ 4294967296) (h0 : w.cell? ⟨P, 0, none⟩ = some (.int .i64 n)) (hP : P < w.heap.size) :
    Calls Try.prog 61 #[.agg #[.int .i64 s, .int .i64 c], .pointer (some ⟨P, 0, none⟩)] w fun e w' => e = .returned (.bool (inX n ⟨s, c⟩)) ∧ Below w.heap.size w w' := by
  by_cases h1 : s ≤ n
  · go_enter Try.func61, Try.ntmps61
    go_wp2_with fail
    go_ret
    exact ⟨ret_bool (by simp [inX, h1]), (Below.refl _ _).alloc (Nat.le_refl _) _⟩
  · go_enter Try.func61, Try.ntmps61
    go_wp2_with fail
    go_ret
    exact ⟨ret_bool (by simp [inX]; omega), (Below.refl _ _).alloc (Nat.le_refl _) _⟩
theorem free_any (e : Oe) (w : World) : Calls Try.prog 63 #[.agg #[.int .i64 e.seq, .int .i64 e.time, .int .i64 e.cnt, .bool e.ak, .slice e.A e.p.length e.c]] w fun z w' => z = .returned (.bool (freeO e)) ∧ Below w.heap.size w w' := by
  go_enter Try.func63, Try.ntmps63
  go_wp2_with fail
  go_ret
  exact ⟨ret_bool (by simp [freeO]), (Below.refl _ _).alloc (Nat.le_refl _) _⟩
theorem longq_any (e : Qe) (w : World) : Calls Try.prog 50 #[.slice e.A e.p.length e.c] w fun z w' => z = .returned (.bool (longB e)) ∧ Below w.heap.size w w' := by
  refine (long_any e.A e.p.length e.c (b := longB e) rfl w).mono ?_
  rintro z w' ⟨rfl, rfl⟩
  exact ⟨rfl, Below.refl _ _⟩
set_option maxRecDepth 100000 in
set_option maxHeartbeats 1000000 in
theorem idxLong_any (v : Value) (base : Nat) (l : List Qe) (w : World) (hV : Vec encQ QeR 42 1 w base v l) (hm : l.length ≤ 100000) :
    Calls Try.prog 75 #[v, .func (.func 50) #[] #[]] w fun e w' => e = .returned (.int .i64 (idxI (longB) l)) ∧ Below w.heap.size w w' := by
  obtain ⟨m, hlen⟩ : ∃ m, l.length = m := ⟨_, rfl⟩
  have HL := Lib.hid hlen
  have HV := Lib.hid hV
  obtain ⟨A, c, rfl, hlc, hcm, -⟩ := hV.val
  rw [hlen] at hm hlc ⊢
  clear hlen hV
  go_enter Try.func75, Try.ntmps75
  go_wp2_with fail
  go_loopw [8] (fun i wr => ∃ k : Nat, k ≤ m ∧ i = .int .i64 k ∧ (∀ j y, j < k → l[j]? = some y → (longB) y = false) ∧ Below w.heap.size w wr) (fun i _ => m - (intOf i).toNat)
  case atStart => exact ⟨0, by omega, rfl, fun j y hj => by omega, Below.refl _ _⟩
  case round =>
    obtain ⟨k, hk, rfl, hf, hb⟩ := hrel
    have HF := Lib.hid hf
    clear hf
    by_cases hlt : k < m
    · have hkl : k < l.length := by rw [HL.out]; exact hlt
      obtain ⟨b, off, c2, hv2, _, _, hbw, hc⟩ := HV.out.at_ (fun _ => rfl) (by omega) (by omega)
      injection hv2 with hA hn2 hc2
      subst hA hc2
      clear hn2
      have d0 : wr.cell? ⟨b, off + k, none⟩ = some (.slice l[k].A l[k].p.length l[k].c) := (hb.cell (p := ⟨b, off + k, none⟩) hbw).trans (by have h := hc k hkl 0 _ rfl; rw [Nat.mul_one] at h; exact h)
      have HS : Hid (l[k]? = some l[k]) := List.getElem?_eq_getElem hkl
      have HM : Hid (l[k] ∈ l) := List.getElem_mem hkl
      clear hc
      generalize l[k] = x at *
      have ik : (k : Int) < m := by omega
      have HB := Lib.hid hb
      clear hb
      go_wp2_with fail
      refine (longq_any x _).mono ?_
      rintro e w1 ⟨rfl, hb1⟩
      obtain ⟨b, hbx⟩ : ∃ b, (longB) x = b := ⟨_, rfl⟩
      have hbx' := hbx
      rw [show (longB) x = b from hbx]
      have HX := Lib.hid hbx
      clear hbx hbx'
      cases b with
      | true =>
        go_wp2_with fail
        go_ret
        refine ⟨ret_int ?_, HB.out.trans (hb1.mono HB.out.size)⟩
        unfold idxI
        rw [idxB_some HF.out HS.out HX.out]
      | false =>
        go_wp2_with fail
        go_roundw
        case rel =>
          refine ⟨k + 1, by omega, by go_num, fun j y hj hy => ?_, HB.out.trans (hb1.mono HB.out.size)⟩
          rcases Nat.lt_or_ge j k with h | h
          · exact HF.out j y h hy
          · obtain rfl : j = k := by omega
            rw [HS.out] at hy
            injection hy with hy
            rw [← hy]
            exact HX.out
        case measure => simp [intOf]; omega
    · go_wp2_with fail
      go_ret
      refine ⟨ret_int ?_, hb⟩
      unfold idxI
      rw [idxB_none]
      intro y hy
      obtain ⟨j, hj, rfl⟩ := List.getElem_of_mem hy
      rw [HL.out] at hj
      exact HF.out j _ (by omega) (List.getElem?_eq_getElem (by rw [HL.out]; exact hj))
set_option maxRecDepth 100000 in
set_option maxHeartbeats 1000000 in
theorem idxFar_any (v : Value) (base : Nat) (l : List Xm) (z : Int) (P : Nat) (w : World) (hV : Vec encX XeR 87 2 w base v l) (hm : l.length ≤ 100000) (hbd : BdX l) (h0 : w.cell? ⟨P, 4, none⟩ = some (.int .i64 z)) (hP : P < w.heap.size) :
    Calls Try.prog 84 #[v, .func (.func 83) #[] #[.pointer (some ⟨P, 0, none⟩)]] w fun e w' => e = .returned (.int .i64 (idxI (farX z) l)) ∧ Below w.heap.size w w' := by
  obtain ⟨m, hlen⟩ : ∃ m, l.length = m := ⟨_, rfl⟩
  have HL := Lib.hid hlen
  have HV := Lib.hid hV
  obtain ⟨A, c, rfl, hlc, hcm, -⟩ := hV.val
  rw [hlen] at hm hlc ⊢
  have HBD := Lib.hid hbd
  clear hlen hV hbd
  go_enter Try.func84, Try.ntmps84
  go_wp2_with fail
  go_loopw [8] (fun i wr => ∃ k : Nat, k ≤ m ∧ i = .int .i64 k ∧ (∀ j y, j < k → l[j]? = some y → (farX z) y = false) ∧ Below w.heap.size w wr) (fun i _ => m - (intOf i).toNat)
  case atStart => exact ⟨0, by omega, rfl, fun j y hj => by omega, Below.refl _ _⟩
  case round =>
    obtain ⟨k, hk, rfl, hf, hb⟩ := hrel
    have HF := Lib.hid hf
    clear hf
    by_cases hlt : k < m
    · have hkl : k < l.length := by rw [HL.out]; exact hlt
      obtain ⟨b, off, c2, hv2, _, _, hbw, hc⟩ := HV.out.at_ (fun _ => rfl) (by omega) (by omega)
      injection hv2 with hA hn2 hc2
      subst hA hc2
      clear hn2
      have d0 : wr.cell? ⟨b, off + k * 2, none⟩ = some (.int .i64 l[k].s) := (hb.cell (p := ⟨b, off + k * 2, none⟩) hbw).trans (by have h := hc k hkl 0 _ rfl; exact h)
      have d1 : wr.cell? ⟨b, off + k * 2 + 1, none⟩ = some (.int .i64 l[k].c) := (hb.cell (p := ⟨b, off + k * 2 + 1, none⟩) hbw).trans (by have h := hc k hkl 1 _ rfl; exact h)
      have HS : Hid (l[k]? = some l[k]) := List.getElem?_eq_getElem hkl
      have HM : Hid (l[k] ∈ l) := List.getElem_mem hkl
      clear hc
      generalize l[k] = x at *
      have ik : (k : Int) < m := by omega
      have HP : Hid (wr.cell? ⟨P, 4, none⟩ = some (.int .i64 z)) := (hb.cell (p := ⟨P, 4, none⟩) hP).trans h0
      have hPr : P < wr.heap.size := Nat.lt_of_lt_of_le hP hb.size
      have HB := Lib.hid hb
      clear hb
      go_wp2_with fail
      refine (far_any x.s x.c z P _ (HBD.out x HM.out).1 (HBD.out x HM.out).2 HP.out hPr).mono ?_
      rintro e w1 ⟨rfl, hb1⟩
      obtain ⟨b, hbx⟩ : ∃ b, (farX z) x = b := ⟨_, rfl⟩
      have hbx' := hbx
      rw [show (farX z) ⟨x.s, x.c⟩ = b from hbx]
      have HX := Lib.hid hbx
      clear hbx hbx'
      cases b with
      | true =>
        go_wp2_with fail
        go_ret
        refine ⟨ret_int ?_, HB.out.trans (hb1.mono HB.out.size)⟩
        unfold idxI
        rw [idxB_some HF.out HS.out HX.out]
      | false =>
        go_wp2_with fail
        go_roundw
        case rel =>
          refine ⟨k + 1, by omega, by go_num, fun j y hj hy => ?_, HB.out.trans (hb1.mono HB.out.size)⟩
          rcases Nat.lt_or_ge j k with h | h
          · exact HF.out j y h hy
          · obtain rfl : j = k := by omega
            rw [HS.out] at hy
            injection hy with hy
            rw [← hy]
            exact HX.out
        case measure => simp [intOf]; omega
    · go_wp2_with fail
      go_ret
      refine ⟨ret_int ?_, hb⟩
      unfold idxI
      rw [idxB_none]
      intro y hy
      obtain ⟨j, hj, rfl⟩ := List.getElem_of_mem hy
      rw [HL.out] at hj
      exact HF.out j _ (by omega) (List.getElem?_eq_getElem (by rw [HL.out]; exact hj))
set_option maxRecDepth 100000 in
set_option maxHeartbeats 1000000 in
theorem idxIn_any (v : Value) (base : Nat) (l : List Xm) (z : Int) (P : Nat) (w : World) (hV : Vec encX XeR 87 2 w base v l) (hm : l.length ≤ 100000) (hbd : BdX l) (h0 : w.cell? ⟨P, 0, none⟩ = some (.int .i64 z)) (hP : P < w.heap.size) :
    Calls Try.prog 84 #[v, .func (.func 61) #[] #[.pointer (some ⟨P, 0, none⟩)]] w fun e w' => e = .returned (.int .i64 (idxI (inX z) l)) ∧ Below w.heap.size w w' := by
  obtain ⟨m, hlen⟩ : ∃ m, l.length = m := ⟨_, rfl⟩
  have HL := Lib.hid hlen
  have HV := Lib.hid hV
  obtain ⟨A, c, rfl, hlc, hcm, -⟩ := hV.val
  rw [hlen] at hm hlc ⊢
  have HBD := Lib.hid hbd
  clear hlen hV hbd
  go_enter Try.func84, Try.ntmps84
  go_wp2_with fail
  go_loopw [8] (fun i wr => ∃ k : Nat, k ≤ m ∧ i = .int .i64 k ∧ (∀ j y, j < k → l[j]? = some y → (inX z) y = false) ∧ Below w.heap.size w wr) (fun i _ => m - (intOf i).toNat)
  case atStart => exact ⟨0, by omega, rfl, fun j y hj => by omega, Below.refl _ _⟩
  case round =>
    obtain ⟨k, hk, rfl, hf, hb⟩ := hrel
    have HF := Lib.hid hf
    clear hf
    by_cases hlt : k < m
    · have hkl : k < l.length := by rw [HL.out]; exact hlt
      obtain ⟨b, off, c2, hv2, _, _, hbw, hc⟩ := HV.out.at_ (fun _ => rfl) (by omega) (by omega)
      injection hv2 with hA hn2 hc2
      subst hA hc2
      clear hn2
      have d0 : wr.cell? ⟨b, off + k * 2, none⟩ = some (.int .i64 l[k].s) := (hb.cell (p := ⟨b, off + k * 2, none⟩) hbw).trans (by have h := hc k hkl 0 _ rfl; exact h)
      have d1 : wr.cell? ⟨b, off + k * 2 + 1, none⟩ = some (.int .i64 l[k].c) := (hb.cell (p := ⟨b, off + k * 2 + 1, none⟩) hbw).trans (by have h := hc k hkl 1 _ rfl; exact h)
      have HS : Hid (l[k]? = some l[k]) := List.getElem?_eq_getElem hkl
      have HM : Hid (l[k] ∈ l) := List.getElem_mem hkl
      clear hc
      generalize l[k] = x at *
      have ik : (k : Int) < m := by omega
      have HP : Hid (wr.cell? ⟨P, 0, none⟩ = some (.int .i64 z)) := (hb.cell (p := ⟨P, 0, none⟩) hP).trans h0
      have hPr : P < wr.heap.size := Nat.lt_of_lt_of_le hP hb.size
      have HB := Lib.hid hb
      clear hb
      go_wp2_with fail
      refine (inx_any x.s x.c z P _ (HBD.out x HM.out).1 (HBD.out x HM.out).2 HP.out hPr).mono ?_
      rintro e w1 ⟨rfl, hb1⟩
      obtain ⟨b, hbx⟩ : ∃ b, (inX z) x = b := ⟨_, rfl⟩
      have hbx' := hbx
      rw [show (inX z) ⟨x.s, x.c⟩ = b from hbx]
      have HX := Lib.hid hbx
      clear hbx hbx'
      cases b with
      | true =>
        go_wp2_with fail
        go_ret
        refine ⟨ret_int ?_, HB.out.trans (hb1.mono HB.out.size)⟩
        unfold idxI
        rw [idxB_some HF.out HS.out HX.out]
      | false =>
        go_wp2_with fail
        go_roundw
        case rel =>
          refine ⟨k + 1, by omega, by go_num, fun j y hj hy => ?_, HB.out.trans (hb1.mono HB.out.size)⟩
          rcases Nat.lt_or_ge j k with h | h
          · exact HF.out j y h hy
          · obtain rfl : j = k := by omega
            rw [HS.out] at hy
            injection hy with hy
            rw [← hy]
            exact HX.out
        case measure => simp [intOf]; omega
    · go_wp2_with fail
      go_ret
      refine ⟨ret_int ?_, hb⟩
      unfold idxI
      rw [idxB_none]
      intro y hy
      obtain ⟨j, hj, rfl⟩ := List.getElem_of_mem hy
      rw [HL.out] at hj
      exact HF.out j _ (by omega) (List.getElem?_eq_getElem (by rw [HL.out]; exact hj))
set_option maxRecDepth 100000 in
set_option maxHeartbeats 1000000 in
theorem idxFree_any (v : Value) (base : Nat) (l : List Oe) (w : World) (hV : Vec encO OeR 82 5 w base v l) (hm : l.length ≤ 100000) :
    Calls Try.prog 62 #[v, .func (.func 63) #[] #[]] w fun e w' => e = .returned (.int .i64 (idxI (freeO) l)) ∧ Below w.heap.size w w' := by
  obtain ⟨m, hlen⟩ : ∃ m, l.length = m := ⟨_, rfl⟩
  have HL := Lib.hid hlen
  have HV := Lib.hid hV
  obtain ⟨A, c, rfl, hlc, hcm, -⟩ := hV.val
  rw [hlen] at hm hlc ⊢
  clear hlen hV
  go_enter Try.func62, Try.ntmps62
  go_wp2_with fail
  go_loopw [8] (fun i wr => ∃ k : Nat, k ≤ m ∧ i = .int .i64 k ∧ (∀ j y, j < k → l[j]? = some y → (freeO) y = false) ∧ Below w.heap.size w wr) (fun i _ => m - (intOf i).toNat)
  case atStart => exact ⟨0, by omega, rfl, fun j y hj => by omega, Below.refl _ _⟩
  case round =>
    obtain ⟨k, hk, rfl, hf, hb⟩ := hrel
    have HF := Lib.hid hf
    clear hf
    by_cases hlt : k < m
    · have hkl : k < l.length := by rw [HL.out]; exact hlt
      obtain ⟨b, off, c2, hv2, _, _, hbw, hc⟩ := HV.out.at_ (fun _ => rfl) (by omega) (by omega)
      injection hv2 with hA hn2 hc2
      subst hA hc2
      clear hn2
      have d0 : wr.cell? ⟨b, off + k * 5, none⟩ = some (.int .i64 l[k].seq) := (hb.cell (p := ⟨b, off + k * 5, none⟩) hbw).trans (by have h := hc k hkl 0 _ rfl; exact h)
      have d1 : wr.cell? ⟨b, off + k * 5 + 1, none⟩ = some (.int .i64 l[k].time) := (hb.cell (p := ⟨b, off + k * 5 + 1, none⟩) hbw).trans (by have h := hc k hkl 1 _ rfl; exact h)
      have d2 : wr.cell? ⟨b, off + k * 5 + 2, none⟩ = some (.int .i64 l[k].cnt) := (hb.cell (p := ⟨b, off + k * 5 + 2, none⟩) hbw).trans (by have h := hc k hkl 2 _ rfl; exact h)
      have d3 : wr.cell? ⟨b, off + k * 5 + 3, none⟩ = some (.bool l[k].ak) := (hb.cell (p := ⟨b, off + k * 5 + 3, none⟩) hbw).trans (by have h := hc k hkl 3 _ rfl; exact h)
      have d4 : wr.cell? ⟨b, off + k * 5 + 4, none⟩ = some (.slice l[k].A l[k].p.length l[k].c) := (hb.cell (p := ⟨b, off + k * 5 + 4, none⟩) hbw).trans (by have h := hc k hkl 4 _ rfl; exact h)
      have HS : Hid (l[k]? = some l[k]) := List.getElem?_eq_getElem hkl
      have HM : Hid (l[k] ∈ l) := List.getElem_mem hkl
      clear hc
      generalize l[k] = x at *
      have ik : (k : Int) < m := by omega
      have HB := Lib.hid hb
      clear hb
      go_wp2_with fail
      refine (free_any x _).mono ?_
      rintro e w1 ⟨rfl, hb1⟩
      obtain ⟨b, hbx⟩ : ∃ b, (freeO) x = b := ⟨_, rfl⟩
      have hbx' := hbx
      rw [show (freeO) x = b from hbx]
      have HX := Lib.hid hbx
      clear hbx hbx'
      cases b with
      | true =>
        go_wp2_with fail
        go_ret
        refine ⟨ret_int ?_, HB.out.trans (hb1.mono HB.out.size)⟩
        unfold idxI
        rw [idxB_some HF.out HS.out HX.out]
      | false =>
        go_wp2_with fail
        go_roundw
        case rel =>
          refine ⟨k + 1, by omega, by go_num, fun j y hj hy => ?_, HB.out.trans (hb1.mono HB.out.size)⟩
          rcases Nat.lt_or_ge j k with h | h
          · exact HF.out j y h hy
          · obtain rfl : j = k := by omega
            rw [HS.out] at hy
            injection hy with hy
            rw [← hy]
            exact HX.out
        case measure => simp [intOf]; omega
    · go_wp2_with fail
      go_ret
      refine ⟨ret_int ?_, hb⟩
      unfold idxI
      rw [idxB_none]
      intro y hy
      obtain ⟨j, hj, rfl⟩ := List.getElem_of_mem hy
      rw [HL.out] at hj
      exact HF.out j _ (by omega) (List.getElem?_eq_getElem (by rw [HL.out]; exact hj))
set_option maxHeartbeats 400000 in
theorem anyLong_any (v : Value) (base : Nat) (l : List Qe) (w : World) (hV : Vec encQ QeR 42 1 w base v l) (hm : l.length ≤ 100000) :
    Calls Try.prog 49 #[v, .func (.func 50) #[] #[]] w fun e w' => e = .returned (.bool (l.any (longB))) ∧ Below w.heap.size w w' := by
  have HC := Lib.hid (idxLong_any v base l w hV hm)
  obtain ⟨A, c, rfl, -, -, -⟩ := hV.val
  clear hV
  go_enter Try.func49, Try.ntmps49
  go_wp2_with fail
  refine HC.out.mono ?_
  rintro e w1 ⟨rfl, hb⟩
  have hv := idxI_ge (longB) l
  obtain ⟨r, hr⟩ : ∃ r, l.any (longB) = r := ⟨_, rfl⟩
  rw [hr] at hv
  have HR := Lib.hid hr
  clear hr
  generalize idxI (longB) l = v at *
  by_cases h1 : 0 ≤ v
  · rw [decide_eq_true h1] at hv
    subst hv
    go_wp2_with fail
    go_ret
    exact ⟨HR.out ▸ rfl, hb⟩
  · rw [decide_eq_false h1] at hv
    subst hv
    go_wp2_with fail
    go_ret
    exact ⟨ret_bool (by rw [HR.out]; simp [h1]), hb⟩
set_option maxHeartbeats 400000 in
theorem anyFar_any (v : Value) (base : Nat) (l : List Xm) (z : Int) (P : Nat) (w : World) (hV : Vec encX XeR 87 2 w base v l) (hm : l.length ≤ 100000) (hbd : BdX l) (h0 : w.cell? ⟨P, 4, none⟩ = some (.int .i64 z)) (hP : P < w.heap.size) :
    Calls Try.prog 60 #[v, .func (.func 83) #[] #[.pointer (some ⟨P, 0, none⟩)]] w fun e w' => e = .returned (.bool (l.any (farX z))) ∧ Below w.heap.size w w' := by
  have HC := Lib.hid (idxFar_any v base l z P w hV hm hbd h0 hP)
  obtain ⟨A, c, rfl, -, -, -⟩ := hV.val
  clear hV
  go_enter Try.func60, Try.ntmps60
  go_wp2_with fail
  refine HC.out.mono ?_
  rintro e w1 ⟨rfl, hb⟩
  have hv := idxI_ge (farX z) l
  obtain ⟨r, hr⟩ : ∃ r, l.any (farX z) = r := ⟨_, rfl⟩
  rw [hr] at hv
  have HR := Lib.hid hr
  clear hr
  generalize idxI (farX z) l = v at *
  by_cases h1 : 0 ≤ v
  · rw [decide_eq_true h1] at hv
    subst hv
    go_wp2_with fail
    go_ret
    exact ⟨HR.out ▸ rfl, hb⟩
  · rw [decide_eq_false h1] at hv
    subst hv
    go_wp2_with fail
    go_ret
    exact ⟨ret_bool (by rw [HR.out]; simp [h1]), hb⟩
set_option maxHeartbeats 400000 in
theorem anyIn_any (v : Value) (base : Nat) (l : List Xm) (z : Int) (P : Nat) (w : World) (hV : Vec encX XeR 87 2 w base v l) (hm : l.length ≤ 100000) (hbd : BdX l) (h0 : w.cell? ⟨P, 0, none⟩ = some (.int .i64 z)) (hP : P < w.heap.size) :
    Calls Try.prog 60 #[v, .func (.func 61) #[] #[.pointer (some ⟨P, 0, none⟩)]] w fun e w' => e = .returned (.bool (l.any (inX z))) ∧ Below w.heap.size w w' := by
  have HC := Lib.hid (idxIn_any v base l z P w hV hm hbd h0 hP)
  obtain ⟨A, c, rfl, -, -, -⟩ := hV.val
  clear hV
  go_enter Try.func60, Try.ntmps60
  go_wp2_with fail
  refine HC.out.mono ?_
  rintro e w1 ⟨rfl, hb⟩
  have hv := idxI_ge (inX z) l
  obtain ⟨r, hr⟩ : ∃ r, l.any (inX z) = r := ⟨_, rfl⟩
  rw [hr] at hv
  have HR := Lib.hid hr
  clear hr
  generalize idxI (inX z) l = v at *
  by_cases h1 : 0 ≤ v
  · rw [decide_eq_true h1] at hv
    subst hv
    go_wp2_with fail
    go_ret
    exact ⟨HR.out ▸ rfl, hb⟩
  · rw [decide_eq_false h1] at hv
    subst hv
    go_wp2_with fail
    go_ret
    exact ⟨ret_bool (by rw [HR.out]; simp [h1]), hb⟩
end Go.Proofs.Ytanmndhdhlmjgaa
