/- The walk of the law RecordSizes. No condition. -/
import Derived.Test.YtbiiahbhgjjhgaaWp
import Derived.Test.YtbiiahbhgjjhgaaArgs
namespace Go.Proofs.Ytbiiahbhgjjhgaa
open Go.RowKit
set_option maxHeartbeats 400000 in
theorem walkRecordSizes (w : World) (v0 : Value) (h0 : Arg3 w v0) : Calls Try.prog 3 #[v0] w fun e w' => e = .returned (.bool true) ∧ Below w.heap.size w w' := by
  obtain ⟨n, rfl, _, _⟩ := h0
  by_cases c1 : n < 0 ∨ 4096 < n
  · go_enter Try.func3, Try.ntmps3
    go_wp2_with fail
    refine (awake_any w).mono ?_
    rintro e w1 ⟨rfl, hb1⟩
    go_wp2_with fail
    refine (Size_out n w1 c1).mono ?_
    rintro e w2 ⟨rfl, rfl⟩
    go_wp2_with fail
    refine (refSize_out n w1 c1).mono ?_
    rintro e w2 ⟨rfl, rfl⟩
    go_wp2_with fail
    go_ret
    exact ⟨rfl, hb1⟩
  · obtain ⟨m, rfl⟩ := Int.eq_ofNat_of_zero_le (by omega : 0 ≤ n)
    have hm : m ≤ 4096 := by omega
    go_enter Try.func3, Try.ntmps3
    go_wp2_with fail
    refine (awake_any w).mono ?_
    rintro e w1 ⟨rfl, hb1⟩
    go_wp2_with fail
    refine (Size_in m w1 hm).mono ?_
    rintro e w2 ⟨rfl, rfl⟩
    go_wp2_with fail
    refine (refSize_in m w1 hm).mono ?_
    rintro e w2 ⟨rfl, rfl⟩
    go_wp2_with fail
    go_ret
    exact ⟨by simp, hb1⟩
end Go.Proofs.Ytbiiahbhgjjhgaa
