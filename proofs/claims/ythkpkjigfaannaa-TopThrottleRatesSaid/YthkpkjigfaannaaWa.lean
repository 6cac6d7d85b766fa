/- Marks in memory; the walks of between, total, IndexFunc, first, open, confirmed, bound. Condition: at most 1000 marks. -/
import Derived.Test.YthkpkjigfaannaaRows
import Derived.Test.YthkpkjigfaannaaLib
import Derived.Test.YthkpkjigfaannaaLibC
import Derived.Test.YthkpkjigfaannaaLibE
namespace Go.Proofs.Ythkpkjigfaannaa
open Go.RowKit
theorem ret_int {k : IntKind} {a b : Int} (h : a = b) : Ending.returned (.int k a) = .returned (.int k b) := by rw [h]
theorem bcell {W w1 : World} (hb : Below W.heap.size W w1) : (∀ b o, b < W.heap.size → w1.cell? ⟨b, o, none⟩ = W.cell? ⟨b, o, none⟩) ∧ (∀ b o, b < W.heap.size → w1.frozen? ⟨b, o, none⟩ = W.frozen? ⟨b, o, none⟩) :=
  ⟨fun b o h => hb.cell (p := ⟨b, o, none⟩) h, fun b o h => hb.frozen (p := ⟨b, o, none⟩) h⟩
theorem below_step {X W w' : World} (h : Below X.heap.size X W) (hb : Below W.heap.size W w') : Below X.heap.size X w' := h.trans (hb.mono h.size)
theorem below_new {X W : World} (h : Below X.heap.size X W) (b : Obj) : Below X.heap.size X (W.alloc b) := h.alloc h.size b
theorem sz_le (w : World) (o : Obj) : w.heap.size ≤ (w.alloc o).heap.size := by simp
/-- a mark: a time, a number of sectors -/
structure Mk where
  t : Int
  n : Int
deriving DecidableEq
def encM (m : Mk) : List Value := [.int .i64 m.t, .int .i64 m.n]
def markV (m : Mk) : Value := .agg #[.int .i64 m.t, .int .i64 m.n]
def RdM (w : World) (A : Option Addr) (n : Nat) (l : List Mk) : Prop := Reads w w.heap.size 2 A n (l.flatMap encM)
theorem RdM.len {w : World} {A : Option Addr} {n : Nat} {l : List Mk} (h : RdM w A n l) : l.length = n := Reads.count h (fun _ => rfl) (by omega)
theorem RdM.up {w w' : World} {A : Option Addr} {n : Nat} {l : List Mk} (h : RdM w A n l) (hb : Below w.heap.size w w') : RdM w' A n l := Reads.up h hb
def atM (l : List Mk) (i : Nat) : Mk := l.getD i ⟨0, 0⟩
theorem RdM.cells {w : World} {A : Option Addr} {n : Nat} {l : List Mk} (h : RdM w A n l) : ∃ g off, (0 < l.length → A = some ⟨g, off, none⟩ ∧ g < w.heap.size) ∧
    ∀ i, i < l.length → w.cell? ⟨g, off + i * 2, none⟩ = some (.int .i64 (atM l i).t) ∧ w.cell? ⟨g, off + i * 2 + 1, none⟩ = some (.int .i64 (atM l i).n) := by
  have hl := h.len
  by_cases h0 : 0 < n
  · obtain ⟨g, off, e, hg, hc⟩ := Reads.elems h (fun _ => rfl) (by omega) h0
    refine ⟨g, off, fun _ => ⟨e, hg⟩, fun i hi => ?_⟩
    have ha : atM l i = l[i] := by simp [atM, hi]
    rw [ha]
    exact ⟨hc i hi 0 _ rfl, hc i hi 1 _ rfl⟩
  · exact ⟨0, 0, fun h => by omega, fun i hi => by omega⟩
/-- the last mark -/
def lastM : Mk → List Mk → Mk
  | p, [] => p
  | _, m :: l => lastM m l
/-- how many sectors were admitted -/
def totM (l : List Mk) : Int := (lastM ⟨-1, 0⟩ l).n
theorem lastM_at (p : Mk) (l : List Mk) (j : Nat) (hj : l.length = j + 1) : lastM p l = atM l j := by
  induction l generalizing p j with
  | nil => simp at hj
  | cons m l ih =>
    simp only [lastM]
    cases j with
    | zero =>
      have : l = [] := List.eq_nil_of_length_eq_zero (by simpa using hj)
      subst this
      rfl
    | succ j => rw [ih m j (by simpa using hj)]; rfl
theorem lastM_any (p q : Mk) (l : List Mk) (h : l ≠ []) : lastM p l = lastM q l := by
  cases l with
  | nil => exact absurd rfl h
  | cons m l => rfl
theorem RdM.last {w : World} {A : Option Addr} {l : List Mk} (hR : RdM w A l.length l) (h : l.length ≠ 0) (p : Mk) : ∃ g off j, l.length = j + 1 ∧ A = some ⟨g, off, none⟩ ∧ g < w.heap.size ∧ w.cell? ⟨g, off + j * 2, none⟩ = some (.int .i64 (lastM p l).t) ∧ w.cell? ⟨g, off + j * 2 + 1, none⟩ = some (.int .i64 (lastM p l).n) := by
  obtain ⟨j, hj⟩ : ∃ j, l.length = j + 1 := ⟨l.length - 1, by omega⟩
  obtain ⟨g, off, hA, hc⟩ := hR.cells
  obtain ⟨hA, hgw⟩ := hA (by omega)
  obtain ⟨c0, c1⟩ := hc j (by omega)
  rw [lastM_at p l j hj]
  exact ⟨g, off, j, hj, hA, hgw, c0, c1⟩
/-- the index of the first mark beyond a number of sectors -/
def openM (x : Int) : List Mk → Nat
  | [] => 0
  | m :: l => if x < m.n then 0 else openM x l + 1
theorem openM_le (x : Int) (l : List Mk) : openM x l ≤ l.length := by
  induction l with
  | nil => exact Nat.le_refl _
  | cons m l ih =>
    simp only [openM, List.length_cons]
    split <;> omega
theorem openM_drop (x : Int) (l : List Mk) (k : Nat) (h : k < l.length) : openM x (l.drop k) = if x < (atM l k).n then 0 else openM x (l.drop (k + 1)) + 1 := by
  have ha : atM l k = l[k] := by simp [atM, h]
  rw [List.drop_eq_getElem_cons h, ha]
  rfl
/-- what IndexFunc answers -/
def idxV (x : Int) (l : List Mk) : Int := if openM x l < l.length then (openM x l : Int) else -1
def betwB (n lo hi : Int) : Bool := decide (lo ≤ n ∧ n ≤ hi)
theorem between_any (n lo hi : Int) (w : World) : Calls Try.prog 29 #[.int .i64 n, .int .i64 lo, .int .i64 hi] w fun e w' => e = .returned (.bool (betwB n lo hi)) ∧ w = w' := by
  by_cases h1 : lo ≤ n
  · by_cases h2 : n ≤ hi
    · have e : betwB n lo hi = true := by simp [betwB]; omega
      rw [e]
      go_enter Try.func29, Try.ntmps29
      go_wp2
      go_ret
      exact ⟨rfl, rfl⟩
    · have e : betwB n lo hi = false := by simp [betwB]; omega
      rw [e]
      go_enter Try.func29, Try.ntmps29
      go_wp2
      go_ret
      exact ⟨rfl, rfl⟩
  · have e : betwB n lo hi = false := by simp [betwB]; omega
    rw [e]
    go_enter Try.func29, Try.ntmps29
    go_wp2
    go_ret
    exact ⟨rfl, rfl⟩
/-- a throttle's value -/
def thV (o r t b : Int) (A : Option Addr) (n c : Nat) : Value := .agg #[.int .i64 o, .int .i64 r, .int .i64 t, .int .i64 b, .slice A n c]
set_option maxRecDepth 100000 in
set_option maxHeartbeats 1000000 in
theorem total_any (o r t b : Int) (A : Option Addr) (n c : Nat) (l : List Mk) (w : World) (hR : RdM w A n l) (hn : n ≤ 1000) :
    Calls Try.prog 30 #[.agg #[.int .i64 o, .int .i64 r, .int .i64 t, .int .i64 b, .slice A n c]] w fun e w' => e = .returned (.int .i64 (totM l)) ∧ Below w.heap.size w w' := by
  have hlen := hR.len
  subst hlen
  by_cases h0 : l.length = 0
  · have hl : l = [] := List.eq_nil_of_length_eq_zero h0
    subst hl
    clear hR
    go_enter Try.func30, Try.ntmps30
    go_wp2_with fail
    go_ret
    exact ⟨rfl, (Below.refl _ _).alloc (Nat.le_refl _) _⟩
  · obtain ⟨g, off, j, hj, rfl, hgw, d0, d1⟩ := hR.last h0 ⟨-1, 0⟩
    clear hR h0
    obtain ⟨⟨x, y⟩, hx⟩ : ∃ m, lastM ⟨-1, 0⟩ l = m := ⟨_, rfl⟩
    have HT : Hid (totM l = y) := by rw [Hid, totM, hx]
    rw [hx] at d0 d1
    rw [hj] at hn ⊢
    have jw : IntKind.i64.wrap ((j : Int) + 1 - 1) = j := by rw [IntWalk.i64_in _ (by omega)]; omega
    have jw2 : IntKind.i64.wrap (j : Int) = j := IntWalk.i64_in _ (by omega)
    clear hj hx
    go_enter Try.func30, Try.ntmps30
    go_wp2_with fail
    go_ret
    exact ⟨ret_int HT.out.symm, (Below.refl _ _).alloc (Nat.le_refl _) _⟩
theorem open1_any (m : Mk) (P : Nat) (x : Int) (w : World) (h0 : w.cell? ⟨P, 0, none⟩ = some (.int .i64 x)) (hP : P < w.heap.size) :
    Calls Try.prog 49 #[.agg #[.int .i64 m.t, .int .i64 m.n], .pointer (some ⟨P, 0, none⟩)] w fun e w' => e = .returned (.bool (decide (x < m.n))) ∧ Below w.heap.size w w' := by
  obtain ⟨mt, mn⟩ := m
  go_enter Try.func49, Try.ntmps49
  go_wp2_with fail
  go_ret
  exact ⟨rfl, (Below.refl _ _).alloc (Nat.le_refl _) _⟩
set_option maxRecDepth 100000 in
set_option maxHeartbeats 1000000 in
theorem index_any (A : Option Addr) (n c : Nat) (l : List Mk) (P : Nat) (x : Int) (w : World) (hR : RdM w A n l) (hn : n ≤ 1000) (h0 : w.cell? ⟨P, 0, none⟩ = some (.int .i64 x)) (hP : P < w.heap.size) :
    Calls Try.prog 57 #[.slice A n c, .func (.func 49) #[] #[.pointer (some ⟨P, 0, none⟩)]] w fun e w' => e = .returned (.int .i64 (idxV x l)) ∧ Below w.heap.size w w' := by
  have hlen := hR.len
  obtain ⟨g, off, hg, hc⟩ := hR.cells
  subst hlen
  obtain ⟨n, hnl⟩ : ∃ n, l.length = n := ⟨_, rfl⟩
  rw [hnl] at hn hg ⊢
  have HL := Lib.hid hnl
  have HG := Lib.hid hg
  have HC := Lib.hid hc
  clear hg hc hR hnl
  go_enter Try.func57, Try.ntmps57
  go_wp2_with fail
  go_loopw [8] (fun i wr => ∃ k : Nat, k ≤ n ∧ i = .int .i64 k ∧ openM x l = openM x (l.drop k) + k ∧ Below w.heap.size w wr) (fun i _ => n - (intOf i).toNat)
  case atStart => exact ⟨0, by omega, rfl, rfl, Below.refl _ _⟩
  case round =>
    obtain ⟨k, hk, rfl, hf, hb⟩ := hrel
    have HF := Lib.hid hf
    clear hf
    by_cases hlt : k < n
    · have hkl : k < l.length := by rw [HL.out]; exact hlt
      obtain ⟨rfl, hgw⟩ := HG.out (by omega)
      obtain ⟨d0, d1⟩ := HC.out k hkl
      replace d0 := (hb.cell (p := ⟨g, off + k * 2, none⟩) hgw).trans d0
      replace d1 := (hb.cell (p := ⟨g, off + k * 2 + 1, none⟩) hgw).trans d1
      have HS := Lib.hid (openM_drop x l k hkl)
      generalize atM l k = m at *
      have ik : (k : Int) < n := by omega
      have HP : Hid (wr.cell? ⟨P, 0, none⟩ = some (.int .i64 x)) := (hb.cell (p := ⟨P, 0, none⟩) hP).trans h0
      have hPr : P < wr.heap.size := Nat.lt_of_lt_of_le hP hb.size
      go_wp2_with fail
      refine (open1_any m P x _ HP.out hPr).mono ?_
      rintro e w1 ⟨rfl, hb1⟩
      by_cases hx : x < m.n
      · go_wp2_with fail
        go_ret
        refine ⟨ret_int ?_, hb.trans (hb1.mono hb.size)⟩
        have h9 : openM x l = k := by rw [HF.out, HS.out, if_pos hx]; omega
        rw [idxV, h9, if_pos hkl]
      · go_wp2_with fail
        go_roundw
        case rel => exact ⟨k + 1, by omega, by go_num, by rw [HF.out, HS.out, if_neg (Int.not_lt.2 hx)]; omega, hb.trans (hb1.mono hb.size)⟩
        case measure => simp [intOf]; omega
    · go_wp2_with fail
      go_ret
      refine ⟨ret_int ?_, hb⟩
      have h9 : openM x l = n := by
        rw [HF.out, List.drop_of_length_le (by rw [HL.out]; omega)]
        show 0 + k = n
        omega
      rw [idxV, h9, if_neg (by have := HL.out; omega)]
set_option maxRecDepth 100000 in
set_option maxHeartbeats 1000000 in
theorem first_any (o r t b : Int) (A : Option Addr) (n c : Nat) (l : List Mk) (P : Nat) (x : Int) (w : World) (hR : RdM w A n l) (hn : n ≤ 1000) (h0 : w.cell? ⟨P, 0, none⟩ = some (.int .i64 x)) (hP : P < w.heap.size) :
    Calls Try.prog 48 #[.agg #[.int .i64 o, .int .i64 r, .int .i64 t, .int .i64 b, .slice A n c], .func (.func 49) #[] #[.pointer (some ⟨P, 0, none⟩)]] w fun e w' => e = .returned (.int .i64 (openM x l)) ∧ Below w.heap.size w w' := by
  have hlen := hR.len
  have hb : Below w.heap.size w (w.alloc (.cells #[.int .i64 o, .int .i64 r, .int .i64 t, .int .i64 b, .slice A n c] 76)) := (Below.refl _ w).alloc (Nat.le_refl _) _
  have HI := Lib.hid (index_any A n c l P x _ (hR.up hb) hn ((hb.cell (p := ⟨P, 0, none⟩) hP).trans h0) (Nat.lt_of_lt_of_le hP hb.size))
  have hv : idxV x l = if openM x l < n then (openM x l : Int) else -1 := by rw [idxV, hlen]
  have hle := openM_le x l
  rw [hlen] at hle
  generalize idxV x l = v at *
  generalize openM x l = k at *
  clear hR hlen
  by_cases hk : k < n
  · rw [if_pos hk] at hv
    subst hv
    go_enter Try.func48, Try.ntmps48
    go_wp2_with fail
    refine HI.out.mono ?_
    rintro e w1 ⟨rfl, hb1⟩
    go_wp2_with fail
    go_ret
    exact ⟨rfl, hb.trans (hb1.mono hb.size)⟩
  · rw [if_neg hk] at hv
    subst hv
    obtain rfl : k = n := by omega
    go_enter Try.func48, Try.ntmps48
    go_wp2_with fail
    refine HI.out.mono ?_
    rintro e w1 ⟨rfl, hb1⟩
    obtain ⟨hc1, _⟩ := bcell hb1
    have hz1 : w.heap.size < w1.heap.size := by have := hb1.size; simp at this; omega
    go_wp2_with fail
    go_ret
    exact ⟨rfl, hb.trans (hb1.mono hb.size)⟩
set_option maxRecDepth 100000 in
set_option maxHeartbeats 1000000 in
theorem open_any (o r t b : Int) (A : Option Addr) (n c : Nat) (l : List Mk) (x : Int) (w : World) (hR : RdM w A n l) (hn : n ≤ 1000) :
    Calls Try.prog 31 #[.agg #[.int .i64 o, .int .i64 r, .int .i64 t, .int .i64 b, .slice A n c], .int .i64 x] w fun e w' => e = .returned (.int .i64 (openM x l)) ∧ Below w.heap.size w w' := by
  have hb : Below w.heap.size w ((w.alloc (.cells #[.int .i64 o, .int .i64 r, .int .i64 t, .int .i64 b, .slice A n c] 76)).alloc (.cells #[.int .i64 x] 3)) := ((Below.refl _ w).alloc (Nat.le_refl _) _).alloc (by simp) _
  have HF := Lib.hid (first_any o r t b A n c l (w.heap.size + 1) x _ (hR.up hb) hn (by simp) (by simp))
  clear hR
  go_enter Try.func31, Try.ntmps31
  go_wp2_with fail
  refine HF.out.mono ?_
  rintro e w1 ⟨rfl, hb1⟩
  go_wp2_with fail
  go_ret
  exact ⟨rfl, hb.trans (hb1.mono hb.size)⟩
theorem bound_any (o r t b : Int) (A : Option Addr) (n c : Nat) (w : World) (h0 : 0 ≤ r * o) (h1 : r * o ≤ 9223372036854775807) :
    Calls Try.prog 34 #[.agg #[.int .i64 o, .int .i64 r, .int .i64 t, .int .i64 b, .slice A n c]] w fun e w' => e = .returned (.int .i64 (r * o)) ∧ Below w.heap.size w w' := by
  have hw : Hid (wrap64 (r * o) = r * o) := IntWalk.wrap64_in _ (by omega)
  clear h0 h1
  go_enter Try.func34, Try.ntmps34
  go_wp2_with fail
  go_ret
  exact ⟨ret_int hw.out, (Below.refl _ _).alloc (Nat.le_refl _) _⟩
theorem blk5 {B g : Nat} {X w' : World} {ty : TypeId} {v0 v1 v2 v3 v4 : Value} (hB : Below B X w') (h : Blk X g ty #[v0, v1, v2, v3, v4]) (l : g < B) :
    w'.cell? ⟨g, 0, none⟩ = some v0 ∧ w'.cell? ⟨g, 1, none⟩ = some v1 ∧ w'.cell? ⟨g, 2, none⟩ = some v2 ∧ w'.cell? ⟨g, 3, none⟩ = some v3 ∧ w'.cell? ⟨g, 4, none⟩ = some v4 ∧ Below B X w' :=
  have h := h.below hB l
  ⟨h.cell 0, h.cell 1, h.cell 2, h.cell 3, h.cell 4, hB⟩
set_option maxRecDepth 100000 in
set_option maxHeartbeats 1000000 in
theorem confirmed_any (o r t b : Int) (A : Option Addr) (n c : Nat) (l : List Mk) (w : World) (hR : RdM w A n l) (hn : n ≤ 1000) (hb0 : 0 ≤ b) (hb1 : b ≤ 1073741824) (ht0 : 0 ≤ totM l) (ht1 : totM l ≤ 1073741824) :
    Calls Try.prog 32 #[.agg #[.int .i64 o, .int .i64 r, .int .i64 t, .int .i64 b, .slice A n c]] w fun e w' => e = .returned (.int .i64 (totM l - b)) ∧ Below w.heap.size w w' := by
  obtain ⟨X, hX⟩ : ∃ X, w.alloc (.cells #[.int .i64 o, .int .i64 r, .int .i64 t, .int .i64 b, .slice A n c] 76) = X := ⟨_, rfl⟩
  have hbX : Below w.heap.size w X := by rw [← hX]; exact (Below.refl _ w).alloc (Nat.le_refl _) _
  have hK : Blk X w.heap.size 76 #[.int .i64 o, .int .i64 r, .int .i64 t, .int .i64 b, .slice A n c] := by rw [← hX]; exact Blk.new _ _ _
  have HT := Lib.hid (fun w9 (h9 : Below X.heap.size X w9) => total_any o r t b A n c l w9 ((hR.up hbX).up h9) hn)
  have hlt : w.heap.size < X.heap.size := hK.lt
  have HX := Lib.hid hX
  have HK := Lib.hid hK
  obtain ⟨f0, f1, f2, f3, f4, _⟩ := blk5 (Below.refl _ X) hK hlt
  clear hR hX hK
  have hs : IntKind.i64.wrap (totM l - b) = totM l - b := IntWalk.i64_in _ (by omega)
  have HSB := Lib.hid hs
  clear hs
  generalize totM l = T at *
  go_enter Try.func32, Try.ntmps32
  go_wp2_with fail
  rw [HX.out]
  go_region_held3 (fun w' => w'.cell? ⟨w.heap.size, 0, none⟩ = some (.int .i64 o) ∧ w'.cell? ⟨w.heap.size, 1, none⟩ = some (.int .i64 r) ∧ w'.cell? ⟨w.heap.size, 2, none⟩ = some (.int .i64 t) ∧ w'.cell? ⟨w.heap.size, 3, none⟩ = some (.int .i64 b) ∧ w'.cell? ⟨w.heap.size, 4, none⟩ = some (.slice A n c) ∧ Below X.heap.size X w')
    (first
      | exact blk5 ((Below.refl _ X).drew) HK.out hlt
      | (go_split_ands; refine blk5 (below_step ?_ hb') HK.out hlt; assumption))
    (((go_at_call 30; refine (HT.out _ ?_).mono ?_; (go_split_ands; assumption); rintro e w' ⟨rfl, hb'⟩)))
  rename_i hS
  have HS := Lib.hid hS
  clear hS
  go_wp2_with fail
  go_ret
  exact ⟨ret_int HSB.out, hbX.trans (HS.out.2.2.2.2.2.mono hbX.size)⟩
end Go.Proofs.Ythkpkjigfaannaa
