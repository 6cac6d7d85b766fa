/- The walks of between, time, site, of a witness's Check, of formed, Holds. No condition. -/
import Derived.Test.YtggaaajkbnhofaaWe
namespace Go.Proofs.Ytggaaajkbnhofaa
open Go.RowKit
def betB (n l h : Int) : Bool := decide (l ≤ n ∧ n ≤ h)
theorem between_any (n l h : Int) (w : World) : Calls Try.prog 18 #[.int .i64 n, .int .i64 l, .int .i64 h] w fun e w' => e = .returned (.bool (betB n l h)) ∧ w = w' := by
  by_cases h1 : n < l
  · have h1' : ¬ l ≤ n := by omega
    have e : betB n l h = false := by simp [betB]; omega
    rw [e]
    go_enter Try.func18, Try.ntmps18
    go_wp2
    go_ret
    exact ⟨rfl, rfl⟩
  · have h1' : l ≤ n := by omega
    by_cases h2 : n ≤ h
    · have e : betB n l h = true := by simp [betB]; omega
      rw [e]
      go_enter Try.func18, Try.ntmps18
      go_wp2
      go_ret
      exact ⟨rfl, rfl⟩
    · have e : betB n l h = false := by simp [betB]; omega
      rw [e]
      go_enter Try.func18, Try.ntmps18
      go_wp2
      go_ret
      exact ⟨rfl, rfl⟩
theorem wtime_any (n : Int) (w : World) : Calls Try.prog 20 #[.int .i64 n] w fun e w' => e = .returned (.bool (betB n 0 1073741824)) ∧ w = w' := by
  go_enter Try.func20, Try.ntmps20
  go_wp2_with fail
  refine (between_any _ _ _ _).mono ?_
  rintro e w1 ⟨rfl, rfl⟩
  go_wp2_with fail
  go_ret
  exact ⟨rfl, rfl⟩
theorem wsite_any (n : Int) (w : World) : Calls Try.prog 21 #[.int .i64 n] w fun e w' => e = .returned (.bool (betB n 0 3)) ∧ w = w' := by
  go_enter Try.func21, Try.ntmps21
  go_wp2_with fail
  refine (between_any _ _ _ _).mono ?_
  rintro e w1 ⟨rfl, rfl⟩
  go_wp2_with fail
  go_ret
  exact ⟨rfl, rfl⟩
theorem bet_true {n l h : Int} (h1 : l ≤ n ∧ n ≤ h) : betB n l h = true := decide_eq_true h1
/-- a witness in order is in order -/
theorem wCheck_ok (e h u : Int) (w : World) (h0 : 0 ≤ e ∧ e ≤ 1073741824) (h1 : h = -1 ∨ 0 ≤ h ∧ h ≤ 3) (h2 : 0 ≤ u ∧ u ≤ 1073741824) :
    Calls Try.prog 19 #[.agg #[.int .i64 e, .int .i64 h, .int .i64 u]] w fun x w' => x = .returned (.int .i64 0) ∧ Below w.heap.size w w' := by
  have hb : Below w.heap.size w (w.alloc (.cells #[.int .i64 e, .int .i64 h, .int .i64 u] 32)) := (Below.refl _ w).alloc (Nat.le_refl _) _
  have HB := Lib.hid hb
  clear hb
  have k0 := bet_true h0
  have k2 := bet_true h2
  rcases h1 with h1 | h1
  · subst h1
    go_enter Try.func19, Try.ntmps19
    go_wp2_with first | (go_at_call 20; refine (wtime_any _ _).mono ?_; rintro e w1 ⟨rfl, rfl⟩; first | rw [k0] | rw [k2]) | (go_at_call 21; refine (wsite_any _ _).mono ?_; rintro e w1 ⟨rfl, rfl⟩)
    go_ret
    exact ⟨rfl, HB.out⟩
  · have k1 := bet_true h1
    have hne : (h != -1) = true := by rw [bne_iff_ne]; omega
    go_enter Try.func19, Try.ntmps19
    go_wp2_with first | (go_at_call 20; refine (wtime_any _ _).mono ?_; rintro e w1 ⟨rfl, rfl⟩; first | rw [k0] | rw [k2]) | (go_at_call 21; refine (wsite_any _ _).mono ?_; rintro e w1 ⟨rfl, rfl⟩; rw [k1])
    go_ret
    exact ⟨rfl, HB.out⟩
/-- a lease in order is formed -/
theorem formed_ok (s e u : Int) (w : World) (h0 : 0 ≤ s ∧ s ≤ 3) (h1 : 0 ≤ e ∧ e ≤ 1073741824) (h2 : 0 ≤ u ∧ u ≤ 1073741824) :
    Calls Try.prog 17 #[.agg #[.int .i64 s, .int .i64 e, .int .i64 u]] w fun x w' => x = .returned (.bool true) ∧ Below w.heap.size w w' := by
  have hb : Below w.heap.size w (w.alloc (.cells #[.int .i64 s, .int .i64 e, .int .i64 u] 41)) := (Below.refl _ w).alloc (Nat.le_refl _) _
  have HB := Lib.hid hb
  clear hb
  have k0 := bet_true h0
  have k1 := bet_true h1
  have k2 := bet_true h2
  go_enter Try.func17, Try.ntmps17
  go_wp2_with first | (go_at_call 20; refine (wtime_any _ _).mono ?_; rintro e w1 ⟨rfl, rfl⟩; first | rw [k1] | rw [k2]) | (go_at_call 21; refine (wsite_any _ _).mono ?_; rintro e w1 ⟨rfl, rfl⟩; rw [k0])
  go_ret
  exact ⟨rfl, HB.out⟩
theorem Holds_ok (s e u now : Int) (w : World) (h0 : 0 ≤ s ∧ s ≤ 3) (h1 : 0 ≤ e ∧ e ≤ 1073741824) (h2 : 0 ≤ u ∧ u ≤ 1073741824) :
    Calls Try.prog 15 #[.agg #[.int .i64 s, .int .i64 e, .int .i64 u], .int .i64 now] w fun x w' => x = .returned (.bool (decide (now < u))) ∧ Below w.heap.size w w' := by
  have hb : Below w.heap.size w (w.alloc (.cells #[.int .i64 s, .int .i64 e, .int .i64 u] 41)) := (Below.refl _ w).alloc (Nat.le_refl _) _
  have HB := Lib.hid hb
  clear hb
  go_enter Try.func15, Try.ntmps15
  go_wp2_with fail
  refine (formed_ok s e u _ h0 h1 h2).mono ?_
  rintro x w1 ⟨rfl, hb1⟩
  obtain ⟨hc, _⟩ := bcell hb1
  have hz : w.heap.size < w1.heap.size := by have := hb1.size; simp at this; omega
  have hB := HB.out.trans (hb1.mono HB.out.size)
  go_wp2_with fail
  go_ret
  exact ⟨rfl, hB⟩
end Go.Proofs.Ytggaaajkbnhofaa
