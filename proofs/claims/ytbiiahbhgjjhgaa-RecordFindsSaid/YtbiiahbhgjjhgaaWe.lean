/- The walks of the small functions of chapter 13: Size, little, put, number, get, demand. Conditions: the numbers are not negative. -/
import Derived.Test.YtbiiahbhgjjhgaaRows
import Derived.Test.YtbiiahbhgjjhgaaLib
import Derived.Test.YtbiiahbhgjjhgaaLibC
import Derived.Test.YtbiiahbhgjjhgaaMathR
import Derived.Laws.BitsAllLaws
namespace Go.Proofs.Ytbiiahbhgjjhgaa
open Go.RowKit
theorem Size_in (n : Nat) (w : World) (hn : n ≤ 4096) :
    Calls Try.prog 12 #[.int .i64 n] w fun e w' => e = .returned (.int .i64 (szN n : Nat)) ∧ w = w' := by
  go_enter Try.func12, Try.ntmps12
  go_wp2
  go_ret
  refine ⟨?_, rfl⟩
  unfold szN
  go_num
theorem Size_out (n : Int) (w : World) (hn : n < 0 ∨ 4096 < n) :
    Calls Try.prog 12 #[.int .i64 n] w fun e w' => e = .returned (.int .i64 0) ∧ w = w' := by
  rcases hn with hn | hn
  · go_enter Try.func12, Try.ntmps12
    go_wp2
    go_ret
    exact ⟨rfl, rfl⟩
  · have h0 : ¬ n < 0 := by omega
    go_enter Try.func12, Try.ntmps12
    go_wp2
    go_ret
    exact ⟨rfl, rfl⟩
theorem refSize_in (n : Nat) (w : World) (hn : n ≤ 4096) :
    Calls Try.prog 13 #[.int .i64 n] w fun e w' => e = .returned (.int .i64 (szN n : Nat)) ∧ w = w' := by
  go_enter Try.func13, Try.ntmps13
  go_wp2
  go_ret
  refine ⟨?_, rfl⟩
  unfold szN
  go_num
theorem refSize_out (n : Int) (w : World) (hn : n < 0 ∨ 4096 < n) :
    Calls Try.prog 13 #[.int .i64 n] w fun e w' => e = .returned (.int .i64 0) ∧ w = w' := by
  rcases hn with hn | hn
  · go_enter Try.func13, Try.ntmps13
    go_wp2
    go_ret
    exact ⟨rfl, rfl⟩
  · have h0 : ¬ n < 0 := by omega
    go_enter Try.func13, Try.ntmps13
    go_wp2
    go_ret
    exact ⟨rfl, rfl⟩
theorem demand_true {b : Bool} (hb : b = true) (e : Int) (w : World) :
    Calls Try.prog 37 #[.bool b, .int .i64 e] w fun r w' => r = .returned (.tuple #[]) ∧ w = w' := by
  subst hb
  go_enter Try.func37, Try.ntmps37
  go_wp2
  first | go_end0 | skip
  exact ⟨rfl, rfl⟩
theorem demand_false {b : Bool} (hb : b = false) (e : Int) (w : World) :
    Calls Try.prog 37 #[.bool b, .int .i64 e] w fun r w' => r = .panicked [{ v := .iface 65 (.agg #[.int .i64 e]), recovered := false }] ∧ w = w' := by
  subst hb
  go_enter Try.func37, Try.ntmps37
  go_wp2
  exact ⟨rfl, rfl, rfl⟩
end Go.Proofs.Ytbiiahbhgjjhgaa
