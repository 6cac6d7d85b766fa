/- The walks of the bucket's check. No condition. -/
import Derived.Test.YtehfnanhamaenaaRows
import Derived.Test.YtehfnanhamaenaaLib
import Derived.Test.YtehfnanhamaenaaMath
namespace Go.Proofs.Ytehfnanhamaenaa
open Go.RowKit
theorem ret_int {k : IntKind} {a b : Int} (h : a = b) : Ending.returned (.int k a) = .returned (.int k b) := by rw [h]
theorem ret_bool {a b : Bool} (h : a = b) : Ending.returned (.bool a) = .returned (.bool b) := by rw [h]
def inB (n m : Int) : Bool := decide (0 ≤ n ∧ n ≤ m)
set_option maxHeartbeats 400000 in
theorem in_any (n m : Int) (w : World) : Calls Try.prog 38 #[.int .i64 n, .int .i64 m] w fun e w' => e = .returned (.bool (inB n m)) ∧ w = w' := by
  by_cases h1 : n < 0
  · have h1' : ¬ 0 ≤ n := by omega
    have e : inB n m = false := by simp [inB]; omega
    rw [e]
    go_enter Try.func38, Try.ntmps38
    go_wp2
    go_ret
    exact ⟨rfl, rfl⟩
  · have h1' : 0 ≤ n := by omega
    by_cases h2 : n ≤ m
    · have e : inB n m = true := by simp [inB]; omega
      rw [e]
      go_enter Try.func38, Try.ntmps38
      go_wp2
      go_ret
      exact ⟨rfl, rfl⟩
    · have e : inB n m = false := by simp [inB]; omega
      rw [e]
      go_enter Try.func38, Try.ntmps38
      go_wp2
      go_ret
      exact ⟨rfl, rfl⟩
set_option maxHeartbeats 1000000 in
theorem bucket_any (b : Bk) (i : Int) (w : World) : Calls Try.prog 29 #[.agg #[.int .i64 b.par, .int .i64 b.rate, .int .i64 b.burst, .int .i64 b.tok], .int .i64 i] w fun e w' => e = .returned (.int .i64 (chkB b i)) ∧ Below w.heap.size w w' := by
  obtain ⟨p, r, u, t⟩ := b
  dsimp only
  have hB0 : Below w.heap.size w (w.alloc (.cells #[.int .i64 p, .int .i64 r, .int .i64 u, .int .i64 t] 64)) := (Below.refl _ w).alloc (Nat.le_refl _) _
  go_enter Try.func29, Try.ntmps29
  go_wp2_with (go_at_call 38; refine (in_any _ _ _).mono ?_; rintro e w1 ⟨rfl, rfl⟩)
  all_goals
    go_ret
    refine ⟨ret_int ?_, hB0⟩
    clear hB0
    try simp [inB] at *
    unfold chkB
    dsimp only
    (repeat' split) <;> omega
end Go.Proofs.Ytehfnanhamaenaa
