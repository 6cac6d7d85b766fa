/- The walk of the law ChecksumCombines. No condition. -/
import Derived.Test.YtncpafibcpphfaaWg
import Derived.Test.YtncpafibcpphfaaArgs
namespace Go.Proofs.Ytncpafibcpphfaa
open Go.RowKit
set_option maxHeartbeats 400000 in
theorem walkChecksumCombines (w : World) (v0 v1 v2 : Value) (h0 : Arg22 w v0) (h1 : Arg22 w v1) (h2 : Arg3 w v2) :
    Calls Try.prog 3 #[v0, v1, v2] w fun e w' => e = .returned (.bool true) ∧ Below w.heap.size w w' := by
  obtain ⟨a, rfl, ha⟩ := h0
  obtain ⟨b, rfl, hb⟩ := h1
  obtain ⟨n, rfl, hn0, hn1⟩ := h2
  by_cases c1 : n < 0
  · have k1 : ¬ 5000 < n := by omega
    go_enter Try.func3, Try.ntmps3
    go_wp2_with fail
    refine (awake_any _).mono ?_
    rintro e w1 ⟨rfl, hb1⟩
    go_wp2_with fail
    refine (combine_out _ _ _ _ (.inl c1)).mono ?_
    rintro e w2 ⟨rfl, hb2⟩
    go_wp2_with fail
    refine (refCombine_out _ _ _ _ (.inl c1)).mono ?_
    rintro e w3 ⟨rfl, rfl⟩
    go_wp2_with fail
    go_ret
    exact ⟨rfl, hb1.trans (hb2.mono hb1.size)⟩
  · obtain ⟨m, rfl⟩ := Int.eq_ofNat_of_zero_le (by omega : 0 ≤ n)
    by_cases c2 : m ≤ 5000
    · have k1 : ¬ 5000 < (m : Int) := by omega
      have e1 := combine_in a b m
      go_enter Try.func3, Try.ntmps3
      go_wp2_with fail
      refine (awake_any _).mono ?_
      rintro e w1 ⟨rfl, hb1⟩
      go_wp2_with fail
      refine (combine_in _ _ _ _ ha hb (by omega)).mono ?_
      rintro e w2 ⟨rfl, hb2⟩
      go_wp2_with fail
      refine (refCombine_in _ _ _ _ ha hb (by omega)).mono ?_
      rintro e w3 ⟨rfl, rfl⟩
      go_wp2_with fail
      go_ret
      exact ⟨by simp, hb1.trans (hb2.mono hb1.size)⟩
    · by_cases c3 : m ≤ 65536
      · have k1 : 5000 < (m : Int) := by omega
        have k2 : (m : Int) ≤ 65536 := by omega
        go_enter Try.func3, Try.ntmps3
        go_wp2_with fail
        refine (awake_any _).mono ?_
        rintro e w1 ⟨rfl, hb1⟩
        go_wp2_with fail
        go_ret
        exact ⟨rfl, hb1⟩
      · have k1 : 5000 < (m : Int) := by omega
        have k2 : 65536 < (m : Int) := by omega
        go_enter Try.func3, Try.ntmps3
        go_wp2_with fail
        refine (awake_any _).mono ?_
        rintro e w1 ⟨rfl, hb1⟩
        go_wp2_with fail
        refine (combine_out _ _ _ _ (.inr k2)).mono ?_
        rintro e w2 ⟨rfl, hb2⟩
        go_wp2_with fail
        refine (refCombine_out _ _ _ _ (.inr k2)).mono ?_
        rintro e w3 ⟨rfl, rfl⟩
        go_wp2_with fail
        go_ret
        exact ⟨rfl, hb1.trans (hb2.mono hb1.size)⟩
end Go.Proofs.Ytncpafibcpphfaa
