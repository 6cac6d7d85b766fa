/- The walks of the laws EpochChecks, EpochExtends, EpochAdmits, EpochRaises. No condition. -/
import Derived.Test.YtnhemndpnjhbfaaArgs
import Derived.Test.YtnhemndpnjhbfaaWv
namespace Go.Proofs.Ytnhemndpnjhbfaa
open Go.RowKit Go.Shelf
set_option maxRecDepth 100000 in
set_option maxHeartbeats 2000000 in
theorem walkEpochChecks (w : World) (v0 v1 : Value) (h0 : Arg39 w v0) (h1 : Arg3 w v1) : Calls Try.prog 5 #[v0, v1] w fun e w' => e = .returned (.bool true) ∧ Below w.heap.size w w' := by
  obtain ⟨A, n, c, l, rfl, hR, hnc, hcm⟩ := h0
  obtain ⟨y, rfl, _, _⟩ := h1
  have hn63 : n ≤ 9223372036854775807 := by unfold maxLen at hcm; omega
  by_cases c0 : 50 < n
  · go_enter Try.func5, Try.ntmps5
    go_wp2_with fail
    refine (awake_any _).mono ?_
    rintro e w1 ⟨rfl, hb1⟩
    go_wp2_with fail
    go_ret
    exact ⟨rfl, hb1⟩
  · obtain ⟨⟨v, b⟩, hv⟩ : ∃ v, epochV l y = v := ⟨_, rfl⟩
    obtain ⟨u, hu⟩ : ∃ u, lineageE l = u := ⟨_, rfl⟩
    have k1 := fun w9 hR9 => EpochOf_any A n c y l w9 hR9 (by omega)
    have k2 := fun w9 hR9 => refEpochOf_any A n c y l w9 hR9 (by omega)
    have k3 := fun w9 hR9 => CheckLineage_any A n c l w9 hR9 (by omega)
    have k4 := fun w9 hR9 => refCheckLineage_any A n c l w9 hR9 (by omega)
    have k5 := fun w9 hR9 => Truncate_any A n c y l w9 hR9 (by omega)
    have k6 := fun w9 hR9 => refTruncate_any A n c y l w9 hR9 (by omega)
    rw [hv] at k1 k2
    rw [hu] at k3 k4
    have hlt : (truncV l y).length ≤ 1000 := by
      have h1 := truncL_len y l
      have h2 := hR.len
      unfold truncV
      split
      · omega
      · simp
    have K := Lib.hid (And.intro k1 (And.intro k2 (And.intro k3 (And.intro k4 (And.intro k5 k6)))))
    have HR := Lib.hid hR
    have HLT := Lib.hid hlt
    clear hv hu k1 k2 k3 k4 k5 k6 hlt hR
    go_enter Try.func5, Try.ntmps5
    go_wp2_with fail
    refine (K.out.1 _ HR.out).mono ?_
    rintro e w1 ⟨rfl, hb1⟩
    go_wp2_with fail
    refine (K.out.2.1 _ (HR.out.up hb1)).mono ?_
    rintro e X ⟨rfl, hb2⟩
    have hBX := hb1.trans (hb2.mono hb1.size)
    have HRX := Lib.hid (HR.out.up hBX)
    clear hb1 hb2 HR
    go_wp2_with fail
    refine (awake_any _).mono ?_
    rintro e x1 ⟨rfl, hy1⟩
    go_wp2_with fail
    refine (K.out.2.2.1 _ (HRX.out.up hy1)).mono ?_
    rintro e x2 ⟨rfl, hb⟩
    have hy2 := below_step hy1 hb
    go_wp2_with fail
    refine (K.out.2.2.2.1 _ (HRX.out.up hy2)).mono ?_
    rintro e x3 ⟨rfl, hb⟩
    have hy3 := below_step hy2 hb
    go_wp2_with fail
    refine (K.out.2.2.2.2.1 _ (HRX.out.up hy3)).mono ?_
    rintro e x4 ⟨⟨A1, n1, c1, rfl, hR1⟩, hb⟩
    have hy4 := below_step hy3 hb
    go_wp2_with fail
    refine (K.out.2.2.2.2.2 _ (HRX.out.up hy4)).mono ?_
    rintro e x5 ⟨⟨A2, n2, c2, rfl, hR2⟩, hb⟩
    have hy5 := below_step hy4 hb
    have HS := Lib.hid (Same_true A1 A2 n1 n2 c1 c2 _ _ (hR1.up hb) hR2 (by have := hR1.len; have := HLT.out; omega))
    clear hR1 hR2
    go_wp2_with fail
    refine HS.out.mono ?_
    rintro e x6 ⟨rfl, hb⟩
    have hy6 := below_step hy5 hb
    go_wp2_with fail
    go_ret
    exact ⟨by simp, below_step hBX hy6⟩
set_option maxRecDepth 100000 in
set_option maxHeartbeats 2000000 in
theorem walkEpochExtends (w : World) (v0 v1 v2 : Value) (h0 : Arg39 w v0) (h1 : Arg3 w v1) (h2 : Arg3 w v2) : Calls Try.prog 6 #[v0, v1, v2] w fun e w' => e = .returned (.bool true) ∧ Below w.heap.size w w' := by
  obtain ⟨A, n, c, l, rfl, hR, hnc, hcm⟩ := h0
  obtain ⟨ep, rfl, _, _⟩ := h1
  obtain ⟨cy, rfl, _, _⟩ := h2
  have hn63 : n ≤ 9223372036854775807 := by unfold maxLen at hcm; omega
  by_cases c0 : 50 < n
  · go_enter Try.func6, Try.ntmps6
    go_wp2_with fail
    refine (awake_any _).mono ?_
    rintro e w1 ⟨rfl, hb1⟩
    go_wp2_with fail
    go_ret
    exact ⟨rfl, hb1⟩
  · obtain ⟨v, hv⟩ : ∃ v, extE l ep cy = v := ⟨_, rfl⟩
    have k1 := fun w9 hR9 => Extend_any A n c ep cy l w9 hR9 (by omega)
    have k2 := fun w9 hR9 => refExtend_any A n c ep cy l w9 hR9 (by omega)
    rw [hv] at k1 k2
    have hlt : (extV l ep cy).length ≤ 1000 := by
      have h1 := extL_len l ep cy
      have h2 := hR.len
      unfold extV
      split
      · omega
      · simp
    have K := Lib.hid (And.intro k1 k2)
    have HR := Lib.hid hR
    have HLT := Lib.hid hlt
    clear hv k1 k2 hlt hR
    go_enter Try.func6, Try.ntmps6
    go_wp2_with fail
    refine (K.out.1 _ HR.out).mono ?_
    rintro e w1 ⟨⟨A1, n1, c1, rfl, hR1, _, _⟩, hb1⟩
    go_wp2_with fail
    refine (K.out.2 _ (HR.out.up hb1)).mono ?_
    rintro e X ⟨⟨A2, n2, c2, rfl, hR2, _, _⟩, hb2⟩
    have hBX := hb1.trans (hb2.mono hb1.size)
    have HL1 : n1 ≤ 1000 := by have := hR1.len; have := HLT.out; omega
    have HS := Lib.hid (fun w9 (h9 : Below X.heap.size X w9) => Same_true A1 A2 n1 n2 c1 c2 _ w9 ((hR1.up hb2).up h9) (hR2.up h9) HL1)
    clear hR1 hR2 HL1 hb1 hb2
    go_wp2_with fail
    refine (awake_any _).mono ?_
    rintro e x1 ⟨rfl, hy1⟩
    go_wp2_with fail
    refine (HS.out _ hy1).mono ?_
    rintro e x2 ⟨rfl, hb⟩
    have hy2 := below_step hy1 hb
    go_wp2_with fail
    go_ret
    exact ⟨by simp, below_step hBX hy2⟩
theorem eq4 (d : Nat) (x z : Bool) (w : World) : (Op.equalIn (d + 1) 4 (.bool x) (.bool z)).run Try.prog w = .ok (x == z) w := by
  simp [Op.equalIn, run_underlying Try.underlying4]
theorem part4 (cs : Array Value) (i : Nat) (v : Value) (w : World) (h : cs[i]? = some v) : (part 4 cs i).run Try.prog w = .ok v w := by
  simp [part, isAgg, run_underlying Try.underlying4, h]
theorem eql23 (p r p' r' : Int) (u u' : Bool) (w : World) : (Op.equalIn (9998 + 1 + 1) 23 (.agg #[.int .i64 p, .int .i64 r, .bool u]) (.agg #[.int .i64 p', .int .i64 r', .bool u'])).run Try.prog w = .ok (p == p' && (r == r' && (u == u'))) w := by
  rw [run_equalIn_struct (P := Try.prog) w (9998 + 1) 23 _ _ (by kernel_rfl) (by kernel_rfl)]
  have hf : (Try.prog.fieldsOf 23).toList = [⟨"Epoch", 3, 0, false, "", "", 0⟩, ⟨"Owner", 3, 1, false, "", "", 8⟩, ⟨"Closed", 4, 2, false, "", "", 16⟩] := by kernel_rfl
  rw [hf]
  simp [Op.eqFields, Sem.run_bind, part3, part4, eq3, eq4]
  by_cases h0 : p = p' <;> by_cases h1 : r = r' <;> by_cases h2 : u = u' <;> simp [h0, h1, h2]
theorem eq23 (p r : Int) (u : Bool) (w : World) : (binOp .eql 23 (.agg #[.int .i64 p, .int .i64 r, .bool u]) (.agg #[.int .i64 p, .int .i64 r, .bool u])).run Try.prog w = .ok (.bool true) w := by
  simp only [binOp]
  simp [Op.equal, Op.maxDepth, eql23]
set_option maxRecDepth 100000 in
set_option maxHeartbeats 2000000 in
theorem walkEpochRaises (w : World) (v0 v1 v2 : Value) (h0 : Arg23 w v0) (h1 : Arg3 w v1) (h2 : Arg3 w v2) : Calls Try.prog 4 #[v0, v1, v2] w fun e w' => e = .returned (.bool true) ∧ Below w.heap.size w w' := by
  obtain ⟨x, o, c, rfl⟩ := h0
  obtain ⟨n, rfl, _, _⟩ := h1
  obtain ⟨s, rfl, _, _⟩ := h2
  obtain ⟨v, hv⟩ : ∃ v, raiseV x o n s = v := ⟨_, rfl⟩
  obtain ⟨u, hu⟩ : ∃ u, shutV x o n = u := ⟨_, rfl⟩
  obtain ⟨p1, p2, p3, hp⟩ : ∃ p1 p2 p3, fenceR v n s false = .agg #[.int .i64 p1, .int .i64 p2, .bool p3] := by unfold fenceR; split <;> exact ⟨_, _, _, rfl⟩
  obtain ⟨q1, q2, q3, hq⟩ : ∃ p1 p2 p3, fenceR u n o true = .agg #[.int .i64 p1, .int .i64 p2, .bool p3] := by unfold fenceR; split <;> exact ⟨_, _, _, rfl⟩
  have k1 := fun w9 => Raise_any x o n s c w9
  have k2 := fun w9 => refRaise_any x o n s c w9
  have k3 := fun w9 => Shut_any x o n c w9
  have k4 := fun w9 => refShut_any x o n c w9
  rw [hv, hp] at k1 k2
  rw [hu, hq] at k3 k4
  have K := Lib.hid (And.intro k1 (And.intro k2 (And.intro k3 k4)))
  have hB0 : Below w.heap.size w (w.alloc (.cells #[.int .i64 x, .int .i64 o, .bool c] 23)) := (Below.refl _ w).alloc (Nat.le_refl _) _
  clear hv hu hp hq k1 k2 k3 k4
  have heq := eq23
  go_enter Try.func4, Try.ntmps4
  go_wp2_with fail
  refine (K.out.1 _).mono ?_
  rintro e w1 ⟨rfl, hb1⟩
  obtain ⟨hc1, _⟩ := bcell hb1
  have hz1 : w.heap.size < w1.heap.size := by have := hb1.size; simp at this; omega
  have hB1 := hB0.trans (hb1.mono hB0.size)
  go_wp2_with fail
  refine (K.out.2.1 _).mono ?_
  rintro e w2 ⟨rfl, hb2⟩
  obtain ⟨hc2, _⟩ := bcell hb2
  have hz2 : w1.heap.size < w2.heap.size := by have := hb2.size; simp at this; omega
  have hz2_0 : w.heap.size < w2.heap.size := by omega
  have hB2 := (hB1.alloc hB1.size (.cells #[.int .i64 p1, .int .i64 p2, .bool p3] 23)).trans (hb2.mono (by simp; omega))
  go_wp2_with fail
  refine (K.out.2.2.1 _).mono ?_
  rintro e w3 ⟨rfl, hb3⟩
  obtain ⟨hc3, _⟩ := bcell hb3
  have hz3 : w2.heap.size < w3.heap.size := by have := hb3.size; simp at this; omega
  have hz3_0 : w.heap.size < w3.heap.size := by omega
  have hz3_1 : w1.heap.size < w3.heap.size := by omega
  have hB3 := (hB2.alloc hB2.size (.cells #[.int .i64 p1, .int .i64 p2, .bool p3] 23)).trans (hb3.mono (by simp; omega))
  go_wp2_with fail
  refine (K.out.2.2.2 _).mono ?_
  rintro e w4 ⟨rfl, hb4⟩
  obtain ⟨hc4, _⟩ := bcell hb4
  have hz4 : w3.heap.size < w4.heap.size := by have := hb4.size; simp at this; omega
  have hz4_0 : w.heap.size < w4.heap.size := by omega
  have hz4_1 : w1.heap.size < w4.heap.size := by omega
  have hz4_2 : w2.heap.size < w4.heap.size := by omega
  have hB4 := (hB3.alloc hB3.size (.cells #[.int .i64 q1, .int .i64 q2, .bool q3] 23)).trans (hb4.mono (by simp; omega))
  go_wp2_with fail
  refine (awake_any _).mono ?_
  rintro e w5 ⟨rfl, hb5⟩
  obtain ⟨hc5, _⟩ := bcell hb5
  have hz5 : w4.heap.size < w5.heap.size := by have := hb5.size; simp at this; omega
  have hz5_0 : w.heap.size < w5.heap.size := by omega
  have hz5_1 : w1.heap.size < w5.heap.size := by omega
  have hz5_2 : w2.heap.size < w5.heap.size := by omega
  have hz5_3 : w3.heap.size < w5.heap.size := by omega
  have hB5 := (hB4.alloc hB4.size (.cells #[.int .i64 q1, .int .i64 q2, .bool q3] 23)).trans (hb5.mono (by simp; omega))
  go_wp2_with fail
  go_ret
  exact ⟨by simp, hB5⟩
end Go.Proofs.Ytnhemndpnjhbfaa
