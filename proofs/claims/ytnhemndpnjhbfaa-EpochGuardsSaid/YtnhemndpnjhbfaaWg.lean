/- The walks of the references of Raise, Shut. No condition. -/
import Derived.Test.YtnhemndpnjhbfaaWf
namespace Go.Proofs.Ytnhemndpnjhbfaa
open Go.RowKit
set_option maxRecDepth 100000 in
set_option maxHeartbeats 2000000 in
theorem refRaise_any (x o n s : Int) (c : Bool) (w : World) :
    Calls Try.prog 18 #[.agg #[.int .i64 x, .int .i64 o, .bool c], .int .i64 n, .int .i64 s] w fun e w' => e = .returned (.tuple #[fenceR (raiseV x o n s) n s false, .int .i64 (raiseV x o n s)]) ∧ Below w.heap.size w w' := by
  have hB0 : Below w.heap.size w ((w.alloc (.cells #[.int .i64 x, .int .i64 o, .bool c] 23)).alloc (.cells #[.int .i64 0, .int .i64 0, .bool false] 23)) := ((Below.refl _ w).alloc (Nat.le_refl _) _).alloc (by simp) _
  have hK0 : Blk ((w.alloc (.cells #[.int .i64 x, .int .i64 o, .bool c] 23)).alloc (.cells #[.int .i64 0, .int .i64 0, .bool false] 23)) (w.heap.size + 1) 23 #[.int .i64 0, .int .i64 0, .bool false] := by have := Blk.new (w.alloc (.cells #[.int .i64 x, .int .i64 o, .bool c] 23)) 23 #[.int .i64 0, .int .i64 0, .bool false]; simpa using this
  have HK0 := Lib.hid hK0
  clear hK0
  cases hf : fenceB x o
  · have hq : checkF x o = 2 := by unfold checkF; rw [hf]; rfl
    have hv : raiseV x o n s = 2 := by unfold raiseV; rw [hf]; rfl
    rw [hv]
    have HQ := Lib.hid hq
    clear hq hf hv
    go_enter Try.func18, Try.ntmps18
    go_wp2_with fail
    refine (refCheck_any x o _ _).mono ?_
    rintro e w1 ⟨rfl, hb1⟩
    rw [HQ.out]
    obtain ⟨hc, _⟩ := bcell hb1
    have hz := hb1.size
    simp only [World.size_alloc] at hz
    have hK1 := HK0.out.below hb1 (by simp <;> omega)
    have f0 := hK1.frozen 0
    have f1 := hK1.frozen 1
    have f2 := hK1.frozen 2
    have HK1 := Lib.hid hK1
    clear hK1
    have hB2 := hB0.trans (hb1.mono hB0.size)
    go_wp2_with fail
    refine bodyPost_ret (results_cell_tmp rfl _ _ _ _ _ _ rfl (set3 HK1.out) Try.underlying23 rfl info23) rfl ?_
    exact ⟨rfl, bel3 hB2 (by omega)⟩
  · have hq : checkF x o = 0 := by unfold checkF; rw [hf]; rfl
    have HQ := Lib.hid hq
    have HF := Lib.hid hf
    clear hq hf
    go_enter Try.func18, Try.ntmps18
    go_wp2_with fail
    refine (refCheck_any x o _ _).mono ?_
    rintro e w1 ⟨rfl, hb1⟩
    rw [HQ.out]
    obtain ⟨hc, _⟩ := bcell hb1
    have hz := hb1.size
    simp only [World.size_alloc] at hz
    have hK1 := HK0.out.below hb1 (by simp <;> omega)
    have f0 := hK1.frozen 0
    have f1 := hK1.frozen 1
    have f2 := hK1.frozen 2
    have HK1 := Lib.hid hK1
    clear hK1
    have HB2 := Lib.hid (hB0.trans (hb1.mono hB0.size))
    go_wp2_with first | (go_at_call 31; refine (rtime_any _ _).mono ?_; rintro e w1 ⟨rfl, rfl⟩) | (go_at_call 32; refine (rsite_any _ _).mono ?_; rintro e w1 ⟨rfl, rfl⟩)
    all_goals
      refine bodyPost_ret (results_cell_tmp rfl _ _ _ _ _ _ rfl (set3 HK1.out) Try.underlying23 rfl info23) rfl ?_
      refine ⟨?_, bel3 HB2.out (by omega)⟩
      clear hc hb1 hB0 f0 f1 f2
      have hf := HF.out
      simp_all [raiseV, fenceR, fenceV, fenceB]
      try omega
set_option maxRecDepth 100000 in
set_option maxHeartbeats 2000000 in
theorem refShut_any (x o n : Int) (c : Bool) (w : World) :
    Calls Try.prog 20 #[.agg #[.int .i64 x, .int .i64 o, .bool c], .int .i64 n] w fun e w' => e = .returned (.tuple #[fenceR (shutV x o n) n o true, .int .i64 (shutV x o n)]) ∧ Below w.heap.size w w' := by
  have hB0 : Below w.heap.size w ((w.alloc (.cells #[.int .i64 x, .int .i64 o, .bool c] 23)).alloc (.cells #[.int .i64 0, .int .i64 0, .bool false] 23)) := ((Below.refl _ w).alloc (Nat.le_refl _) _).alloc (by simp) _
  have hK0 : Blk ((w.alloc (.cells #[.int .i64 x, .int .i64 o, .bool c] 23)).alloc (.cells #[.int .i64 0, .int .i64 0, .bool false] 23)) (w.heap.size + 1) 23 #[.int .i64 0, .int .i64 0, .bool false] := by have := Blk.new (w.alloc (.cells #[.int .i64 x, .int .i64 o, .bool c] 23)) 23 #[.int .i64 0, .int .i64 0, .bool false]; simpa using this
  have HK0 := Lib.hid hK0
  clear hK0
  cases hf : fenceB x o
  · have hq : checkF x o = 2 := by unfold checkF; rw [hf]; rfl
    have hv : shutV x o n = 2 := by unfold shutV; rw [hf]; rfl
    rw [hv]
    have HQ := Lib.hid hq
    clear hq hf hv
    go_enter Try.func20, Try.ntmps20
    go_wp2_with fail
    refine (refCheck_any x o _ _).mono ?_
    rintro e w1 ⟨rfl, hb1⟩
    rw [HQ.out]
    obtain ⟨hc, _⟩ := bcell hb1
    have hz := hb1.size
    simp only [World.size_alloc] at hz
    have hK1 := HK0.out.below hb1 (by simp <;> omega)
    have f0 := hK1.frozen 0
    have f1 := hK1.frozen 1
    have f2 := hK1.frozen 2
    have HK1 := Lib.hid hK1
    clear hK1
    have hB2 := hB0.trans (hb1.mono hB0.size)
    go_wp2_with fail
    refine bodyPost_ret (results_cell_tmp rfl _ _ _ _ _ _ rfl (set3 HK1.out) Try.underlying23 rfl info23) rfl ?_
    exact ⟨rfl, bel3 hB2 (by omega)⟩
  · have hq : checkF x o = 0 := by unfold checkF; rw [hf]; rfl
    have HQ := Lib.hid hq
    have HF := Lib.hid hf
    clear hq hf
    go_enter Try.func20, Try.ntmps20
    go_wp2_with fail
    refine (refCheck_any x o _ _).mono ?_
    rintro e w1 ⟨rfl, hb1⟩
    rw [HQ.out]
    obtain ⟨hc, _⟩ := bcell hb1
    have hz := hb1.size
    simp only [World.size_alloc] at hz
    have hK1 := HK0.out.below hb1 (by simp <;> omega)
    have f0 := hK1.frozen 0
    have f1 := hK1.frozen 1
    have f2 := hK1.frozen 2
    have HK1 := Lib.hid hK1
    clear hK1
    have HB2 := Lib.hid (hB0.trans (hb1.mono hB0.size))
    go_wp2_with first | (go_at_call 31; refine (rtime_any _ _).mono ?_; rintro e w1 ⟨rfl, rfl⟩) | (go_at_call 32; refine (rsite_any _ _).mono ?_; rintro e w1 ⟨rfl, rfl⟩)
    all_goals
      refine bodyPost_ret (results_cell_tmp rfl _ _ _ _ _ _ rfl (set3 HK1.out) Try.underlying23 rfl info23) rfl ?_
      refine ⟨?_, bel3 HB2.out (by omega)⟩
      clear hc hb1 hB0 f0 f1 f2
      have hf := HF.out
      simp_all [shutV, fenceR, fenceV, fenceB]
      try omega
end Go.Proofs.Ytnhemndpnjhbfaa
