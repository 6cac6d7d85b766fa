/- Rows of numbers in memory; the walks of planner.between, of the closures of caseSequence and of sectors, IndexFunc, ContainsFunc, caseSequence, sectors. Condition: at most 5000 numbers. -/
import Derived.Test.YthkpkjigfaannaaWa
namespace Go.Proofs.Ythkpkjigfaannaa
open Go.RowKit
def encI (x : Int) : List Value := [.int .i64 x]
def RdI (w : World) (A : Option Addr) (n : Nat) (l : List Int) : Prop := Reads w w.heap.size 1 A n (l.flatMap encI)
theorem RdI.len {w : World} {A : Option Addr} {n : Nat} {l : List Int} (h : RdI w A n l) : l.length = n := Reads.count h (fun _ => rfl) (by omega)
theorem RdI.up {w w' : World} {A : Option Addr} {n : Nat} {l : List Int} (h : RdI w A n l) (hb : Below w.heap.size w w') : RdI w' A n l := Reads.up h hb
theorem RdI.cells {w : World} {A : Option Addr} {n : Nat} {l : List Int} (h : RdI w A n l) : ∃ g off, (0 < l.length → A = some ⟨g, off, none⟩ ∧ g < w.heap.size) ∧
    ∀ i, i < l.length → w.cell? ⟨g, off + i, none⟩ = some (.int .i64 (l.getD i 0)) := by
  have hl := h.len
  by_cases h0 : 0 < n
  · obtain ⟨g, off, e, hg, hc⟩ := Reads.elems h (fun _ => rfl) (by omega) h0
    refine ⟨g, off, fun _ => ⟨e, hg⟩, fun i hi => ?_⟩
    have ha : l.getD i 0 = l[i] := by simp [hi]
    rw [ha]
    have := hc i hi 0 _ rfl
    simpa using this
  · exact ⟨0, 0, fun h => by omega, fun i hi => by omega⟩
theorem any_drop (p : Int → Bool) (l : List Int) (k : Nat) (h : k < l.length) : (l.drop k).any p = (p (l.getD k 0) || (l.drop (k + 1)).any p) := by
  rw [List.drop_eq_getElem_cons h, List.any_cons]
  simp [h]
theorem pbetween_any (n lo hi : Int) (w : World) : Calls Try.prog 44 #[.int .i64 n, .int .i64 lo, .int .i64 hi] w fun e w' => e = .returned (.bool (betwB n lo hi)) ∧ w = w' := by
  by_cases h1 : lo ≤ n
  · by_cases h2 : n ≤ hi
    · have e : betwB n lo hi = true := by simp [betwB]; omega
      rw [e]
      go_enter Try.func44, Try.ntmps44
      go_wp2
      go_ret
      exact ⟨rfl, rfl⟩
    · have e : betwB n lo hi = false := by simp [betwB]; omega
      rw [e]
      go_enter Try.func44, Try.ntmps44
      go_wp2
      go_ret
      exact ⟨rfl, rfl⟩
  · have e : betwB n lo hi = false := by simp [betwB]; omega
    rw [e]
    go_enter Try.func44, Try.ntmps44
    go_wp2
    go_ret
    exact ⟨rfl, rfl⟩
def badS (x : Int) : Bool := decide (x < 0 ∨ 60 < x)
def badP (x : Int) : Bool := !(betwB x 0 4096)
theorem bad39_any (x : Int) (w : World) : Calls Try.prog 39 #[.int .i64 x] w fun e w' => e = .returned (.bool (badS x)) ∧ w = w' := by
  by_cases h1 : x < 0
  · have e : badS x = true := by simp [badS]; omega
    rw [e]
    go_enter Try.func39, Try.ntmps39
    go_wp2
    go_ret
    exact ⟨rfl, rfl⟩
  · by_cases h2 : 60 < x
    · have e : badS x = true := by simp [badS]; omega
      rw [e]
      go_enter Try.func39, Try.ntmps39
      go_wp2
      go_ret
      exact ⟨rfl, rfl⟩
    · have e : badS x = false := by simp [badS]; omega
      rw [e]
      go_enter Try.func39, Try.ntmps39
      go_wp2
      go_ret
      exact ⟨rfl, rfl⟩
theorem bad58_any (x : Int) (w : World) : Calls Try.prog 58 #[.int .i64 x] w fun e w' => e = .returned (.bool (badP x)) ∧ w = w' := by
  go_enter Try.func58, Try.ntmps58
  go_wp2_with fail
  refine (pbetween_any x 0 4096 w).mono ?_
  rintro e w1 ⟨rfl, rfl⟩
  go_wp2_with fail
  go_ret
  exact ⟨rfl, rfl⟩
set_option maxRecDepth 100000 in
set_option maxHeartbeats 1000000 in
theorem idx39_any (A : Option Addr) (n c : Nat) (l : List Int) (w : World) (hR : RdI w A n l) (hn : n ≤ 5000) :
    Calls Try.prog 51 #[.slice A n c, .func (.func 39) #[] #[]] w fun e w' => (∃ v : Int, e = .returned (.int .i64 v) ∧ decide (0 ≤ v) = l.any badS) ∧ w = w' := by
  have hlen := hR.len
  obtain ⟨g, off, hg, hc⟩ := hR.cells
  subst hlen
  obtain ⟨n, hnl⟩ : ∃ n, l.length = n := ⟨_, rfl⟩
  rw [hnl] at hn hg ⊢
  have HL := Lib.hid hnl
  have HG := Lib.hid hg
  have HC := Lib.hid hc
  clear hg hc hR hnl
  go_enter Try.func51, Try.ntmps51
  go_wp2_with fail
  go_loopw [8] (fun i wr => ∃ k : Nat, k ≤ n ∧ i = .int .i64 k ∧ (l.drop k).any badS = l.any badS ∧ wr = w) (fun i _ => n - (intOf i).toNat)
  case atStart => exact ⟨0, by omega, rfl, rfl, rfl⟩
  case round =>
    obtain ⟨k, hk, rfl, hf, rfl⟩ := hrel
    have HF := Lib.hid hf
    clear hf
    by_cases hlt : k < n
    · have hkl : k < l.length := by rw [HL.out]; exact hlt
      obtain ⟨rfl, hgw⟩ := HG.out (by omega)
      have d0 := HC.out k hkl
      have HS := Lib.hid (any_drop badS l k hkl)
      generalize l.getD k 0 = x at *
      have ik : (k : Int) < n := by omega
      go_wp2_with fail
      refine (bad39_any x _).mono ?_
      rintro e w1 ⟨rfl, rfl⟩
      rcases Bool.eq_false_or_eq_true (badS x) with hx | hx
      · rw [hx]
        go_wp2_with fail
        go_ret
        refine ⟨⟨_, rfl, ?_⟩, rfl⟩
        rw [← HF.out, HS.out, hx, Bool.true_or]
        exact decide_eq_true (by omega)
      · rw [hx]
        go_wp2_with fail
        go_roundw
        case rel => exact ⟨k + 1, by omega, by go_num, by rw [← HF.out, HS.out, hx, Bool.false_or], trivial⟩
        case measure => simp [intOf]; omega
    · go_wp2_with fail
      go_ret
      refine ⟨⟨_, rfl, ?_⟩, rfl⟩
      rw [← HF.out, List.drop_of_length_le (by rw [HL.out]; omega)]
      rfl
theorem contains39_any (A : Option Addr) (n c : Nat) (l : List Int) (w : World) (hR : RdI w A n l) (hn : n ≤ 5000) :
    Calls Try.prog 38 #[.slice A n c, .func (.func 39) #[] #[]] w fun e w' => e = .returned (.bool (l.any badS)) ∧ w = w' := by
  go_enter Try.func38, Try.ntmps38
  go_wp2_with fail
  refine (idx39_any A n c l w hR hn).mono ?_
  rintro e w1 ⟨⟨v, rfl, hv⟩, rfl⟩
  by_cases h0 : 0 ≤ v
  · rw [decide_eq_true h0] at hv
    go_wp2_with fail
    go_ret
    exact ⟨by rw [← hv]; rfl, rfl⟩
  · go_wp2_with fail
    go_ret
    exact ⟨by rw [← hv]; rfl, rfl⟩
set_option maxRecDepth 100000 in
set_option maxHeartbeats 1000000 in
theorem idx58_any (A : Option Addr) (n c : Nat) (l : List Int) (w : World) (hR : RdI w A n l) (hn : n ≤ 5000) :
    Calls Try.prog 51 #[.slice A n c, .func (.func 58) #[] #[]] w fun e w' => (∃ v : Int, e = .returned (.int .i64 v) ∧ decide (0 ≤ v) = l.any badP) ∧ w = w' := by
  have hlen := hR.len
  obtain ⟨g, off, hg, hc⟩ := hR.cells
  subst hlen
  obtain ⟨n, hnl⟩ : ∃ n, l.length = n := ⟨_, rfl⟩
  rw [hnl] at hn hg ⊢
  have HL := Lib.hid hnl
  have HG := Lib.hid hg
  have HC := Lib.hid hc
  clear hg hc hR hnl
  go_enter Try.func51, Try.ntmps51
  go_wp2_with fail
  go_loopw [8] (fun i wr => ∃ k : Nat, k ≤ n ∧ i = .int .i64 k ∧ (l.drop k).any badP = l.any badP ∧ wr = w) (fun i _ => n - (intOf i).toNat)
  case atStart => exact ⟨0, by omega, rfl, rfl, rfl⟩
  case round =>
    obtain ⟨k, hk, rfl, hf, rfl⟩ := hrel
    have HF := Lib.hid hf
    clear hf
    by_cases hlt : k < n
    · have hkl : k < l.length := by rw [HL.out]; exact hlt
      obtain ⟨rfl, hgw⟩ := HG.out (by omega)
      have d0 := HC.out k hkl
      have HS := Lib.hid (any_drop badP l k hkl)
      generalize l.getD k 0 = x at *
      have ik : (k : Int) < n := by omega
      go_wp2_with fail
      refine (bad58_any x _).mono ?_
      rintro e w1 ⟨rfl, rfl⟩
      rcases Bool.eq_false_or_eq_true (badP x) with hx | hx
      · rw [hx]
        go_wp2_with fail
        go_ret
        refine ⟨⟨_, rfl, ?_⟩, rfl⟩
        rw [← HF.out, HS.out, hx, Bool.true_or]
        exact decide_eq_true (by omega)
      · rw [hx]
        go_wp2_with fail
        go_roundw
        case rel => exact ⟨k + 1, by omega, by go_num, by rw [← HF.out, HS.out, hx, Bool.false_or], trivial⟩
        case measure => simp [intOf]; omega
    · go_wp2_with fail
      go_ret
      refine ⟨⟨_, rfl, ?_⟩, rfl⟩
      rw [← HF.out, List.drop_of_length_le (by rw [HL.out]; omega)]
      rfl
theorem contains58_any (A : Option Addr) (n c : Nat) (l : List Int) (w : World) (hR : RdI w A n l) (hn : n ≤ 5000) :
    Calls Try.prog 38 #[.slice A n c, .func (.func 58) #[] #[]] w fun e w' => e = .returned (.bool (l.any badP)) ∧ w = w' := by
  go_enter Try.func38, Try.ntmps38
  go_wp2_with fail
  refine (idx58_any A n c l w hR hn).mono ?_
  rintro e w1 ⟨⟨v, rfl, hv⟩, rfl⟩
  by_cases h0 : 0 ≤ v
  · rw [decide_eq_true h0] at hv
    go_wp2_with fail
    go_ret
    exact ⟨by rw [← hv]; rfl, rfl⟩
  · go_wp2_with fail
    go_ret
    exact ⟨by rw [← hv]; rfl, rfl⟩
def seqB (n : Nat) (l : List Int) : Bool := decide (n ≤ 40) && !(l.any badS)
theorem seq_any (A : Option Addr) (n c : Nat) (l : List Int) (w : World) (hR : RdI w A n l) :
    Calls Try.prog 24 #[.slice A n c] w fun e w' => e = .returned (.bool (seqB n l)) ∧ w = w' := by
  by_cases hn : n ≤ 40
  · have hn' : (n : Int) ≤ 40 := by omega
    rw [seqB, decide_eq_true hn, Bool.true_and]
    go_enter Try.func24, Try.ntmps24
    go_wp2_with fail
    refine (contains39_any A n c l w hR (by omega)).mono ?_
    rintro e w1 ⟨rfl, rfl⟩
    go_wp2_with fail
    go_ret
    exact ⟨rfl, rfl⟩
  · have hn' : ¬ (n : Int) ≤ 40 := by omega
    rw [seqB, decide_eq_false hn, Bool.false_and]
    go_enter Try.func24, Try.ntmps24
    go_wp2_with fail
    go_ret
    exact ⟨rfl, rfl⟩
theorem sectors_any (A : Option Addr) (n c : Nat) (l : List Int) (w : World) (hR : RdI w A n l) (hn : n ≤ 5000) :
    Calls Try.prog 52 #[.slice A n c] w fun e w' => e = .returned (.bool (!(l.any badP))) ∧ w = w' := by
  go_enter Try.func52, Try.ntmps52
  go_wp2_with fail
  refine (contains58_any A n c l w hR hn).mono ?_
  rintro e w1 ⟨rfl, rfl⟩
  go_wp2_with fail
  go_ret
  exact ⟨rfl, rfl⟩
end Go.Proofs.Ythkpkjigfaannaa
