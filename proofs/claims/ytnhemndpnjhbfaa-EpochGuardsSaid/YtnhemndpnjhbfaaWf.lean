/- The walks of the references of New, Check, Admit, Raise, Shut. No condition. -/
import Derived.Test.YtnhemndpnjhbfaaWe
namespace Go.Proofs.Ytnhemndpnjhbfaa
open Go.RowKit
theorem refCheck_any (x o : Int) (c : Bool) (w : World) :
    Calls Try.prog 14 #[.agg #[.int .i64 x, .int .i64 o, .bool c]] w fun e w' => e = .returned (.int .i64 (checkF x o)) ∧ Below w.heap.size w w' := by
  have hB0 : Below w.heap.size w (w.alloc (.cells #[.int .i64 x, .int .i64 o, .bool c] 23)) := (Below.refl _ w).alloc (Nat.le_refl _) _
  go_enter Try.func14, Try.ntmps14
  go_wp2_with first | (go_at_call 31; refine (rtime_any _ _).mono ?_; rintro e w1 ⟨rfl, rfl⟩) | (go_at_call 32; refine (rsite_any _ _).mono ?_; rintro e w1 ⟨rfl, rfl⟩)
  all_goals
    go_ret
    refine ⟨ret_int ?_, hB0⟩
    simp_all [checkF, fenceB]
set_option maxRecDepth 100000 in
set_option maxHeartbeats 1000000 in
theorem refAdmit_any (x o n s : Int) (c : Bool) (w : World) :
    Calls Try.prog 16 #[.agg #[.int .i64 x, .int .i64 o, .bool c], .int .i64 n, .int .i64 s] w fun e w' => e = .returned (.int .i64 (admitV x o c n s)) ∧ Below w.heap.size w w' := by
  have hB0 : Below w.heap.size w (w.alloc (.cells #[.int .i64 x, .int .i64 o, .bool c] 23)) := (Below.refl _ w).alloc (Nat.le_refl _) _
  cases hf : fenceB x o
  · have hq : checkF x o = 2 := by unfold checkF; rw [hf]; rfl
    have hv : admitV x o c n s = 2 := by unfold admitV; rw [hf]; rfl
    rw [hv]
    have HQ := Lib.hid hq
    clear hq hf hv
    go_enter Try.func16, Try.ntmps16
    go_wp2_with fail
    refine (refCheck_any x o _ _).mono ?_
    rintro e w1 ⟨rfl, hb1⟩
    rw [HQ.out]
    have hB2 := hB0.trans (hb1.mono hB0.size)
    go_wp2_with fail
    go_ret
    exact ⟨rfl, hB2⟩
  · have hq : checkF x o = 0 := by unfold checkF; rw [hf]; rfl
    have hv : admitV x o c n s = (if n < x then 13 else if n = x then (if !c && decide (s = o) then 0 else 14) else 1) := by unfold admitV; rw [hf]; rfl
    rw [hv]
    have HQ := Lib.hid hq
    clear hq hf hv
    by_cases c1 : n < x
    · rw [if_pos c1]
      go_enter Try.func16, Try.ntmps16
      go_wp2_with fail
      refine (refCheck_any x o _ _).mono ?_
      rintro e w1 ⟨rfl, hb1⟩
      rw [HQ.out]
      obtain ⟨hc, _⟩ := bcell hb1
      have hB2 := hB0.trans (hb1.mono hB0.size)
      go_wp2_with fail
      go_ret
      exact ⟨rfl, hB2⟩
    · rw [if_neg c1]
      by_cases c2 : x < n
      · rw [if_neg (by omega)]
        go_enter Try.func16, Try.ntmps16
        go_wp2_with fail
        refine (refCheck_any x o _ _).mono ?_
        rintro e w1 ⟨rfl, hb1⟩
        rw [HQ.out]
        obtain ⟨hc, _⟩ := bcell hb1
        have hB2 := hB0.trans (hb1.mono hB0.size)
        go_wp2_with fail
        go_ret
        exact ⟨rfl, hB2⟩
      · rw [if_pos (by omega)]
        cases c
        all_goals
          go_enter Try.func16, Try.ntmps16
          go_wp2_with fail
          refine (refCheck_any x o _ _).mono ?_
          rintro e w1 ⟨rfl, hb1⟩
          rw [HQ.out]
          obtain ⟨hc, _⟩ := bcell hb1
          have HB2 := Lib.hid (hB0.trans (hb1.mono hB0.size))
          go_wp2_with fail
        all_goals
          go_ret
          refine ⟨ret_int ?_, HB2.out⟩
          clear hB0 hb1 hc
          first | rfl | (simp_all; done)
set_option maxHeartbeats 1000000 in
theorem refNew_any (x o : Int) (w : World) :
    Calls Try.prog 11 #[.int .i64 x, .int .i64 o] w fun e w' => e = .returned (.tuple #[fenceR (checkF x o) x o false, .int .i64 (checkF x o)]) ∧ Below w.heap.size w w' := by
  have hB0 : Below w.heap.size w (w.alloc (.cells #[.int .i64 0, .int .i64 0, .bool false] 23)) := (Below.refl _ w).alloc (Nat.le_refl _) _
  have HK := Lib.hid (Blk.new w 23 #[.int .i64 0, .int .i64 0, .bool false])
  have HB0 := Lib.hid hB0
  clear hB0
  go_enter Try.func11, Try.ntmps11
  go_wp2_with first | (go_at_call 31; refine (rtime_any _ _).mono ?_; rintro e w1 ⟨rfl, rfl⟩) | (go_at_call 32; refine (rsite_any _ _).mono ?_; rintro e w1 ⟨rfl, rfl⟩)
  all_goals
    refine bodyPost_ret (results_cell_tmp rfl _ _ _ _ _ _ rfl (Blk.new _ _ _) Try.underlying23 rfl info23) rfl ?_
    refine ⟨?_, (Below.refl _ w).alloc (Nat.le_refl _) _⟩
    simp_all [checkF, fenceB, fenceR, fenceV]
end Go.Proofs.Ytnhemndpnjhbfaa
