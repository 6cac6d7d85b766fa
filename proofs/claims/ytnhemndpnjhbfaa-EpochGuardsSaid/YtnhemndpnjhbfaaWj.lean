/- The closures of CheckLineage, of Extend. No condition. -/
import Derived.Test.YtnhemndpnjhbfaaWi
namespace Go.Proofs.Ytnhemndpnjhbfaa
open Go.RowKit
theorem lin1_any (X : Nat) (u f t : Int) (w : World) (h0 : w.cell? ⟨X, 0, none⟩ = some (.int .i64 u)) (h1 : w.cell? ⟨X, 1, none⟩ = some (.int .i64 f)) (h2 : w.cell? ⟨X, 2, none⟩ = some (.int .i64 t)) :
    Calls Try.prog 46 #[.pointer (some ⟨X, 0, none⟩)] w fun e w' => e = .returned (.bool (inB u 1 && inB f 1 && inB t 1)) ∧ w = w' := by
  go_enter Try.func46, Try.ntmps46
  go_wp2_with (go_at_call 40; refine (in_any _ _ _).mono ?_; rintro e w1 ⟨rfl, rfl⟩)
  all_goals
    go_ret
    refine ⟨ret_bool ?_, rfl⟩
    simp_all

theorem lin1_ok (X : Nat) (u f t : Int) (w : World) (l0 : X < w.heap.size) (l1 : X < w.heap.size) (l2 : X < w.heap.size) (h0 : w.cell? ⟨X, 0, none⟩ = some (.int .i64 u)) (h1 : w.cell? ⟨X, 1, none⟩ = some (.int .i64 f)) (h2 : w.cell? ⟨X, 2, none⟩ = some (.int .i64 t)) : Rl.Ok ⟨46, #[.pointer (some ⟨X, 0, none⟩)], inB u 1 && inB f 1 && inB t 1, 2⟩ w :=
  ⟨fun w' => by kernel_rfl, fun w' hb => lin1_any X u f t w' ((hb.cell (p := ⟨X, 0, none⟩) l0).trans h0) ((hb.cell (p := ⟨X, 1, none⟩) l1).trans h1) ((hb.cell (p := ⟨X, 2, none⟩) l2).trans h2)⟩
theorem lin2_any (X : Nat) (f t : Int) (w : World) (h0 : w.cell? ⟨X, 1, none⟩ = some (.int .i64 f)) (h1 : w.cell? ⟨X, 2, none⟩ = some (.int .i64 t)) :
    Calls Try.prog 47 #[.pointer (some ⟨X, 0, none⟩)] w fun e w' => e = .returned (.bool (decide (f ≤ t))) ∧ w = w' := by
  by_cases c0 : f ≤ t
  all_goals
    go_enter Try.func47, Try.ntmps47
    go_wp2
    go_ret
    exact ⟨ret_bool (by first | rfl | (simp; omega) | (simp; done) | simp_all), rfl⟩

theorem lin2_ok (X : Nat) (f t : Int) (w : World) (l0 : X < w.heap.size) (l1 : X < w.heap.size) (h0 : w.cell? ⟨X, 1, none⟩ = some (.int .i64 f)) (h1 : w.cell? ⟨X, 2, none⟩ = some (.int .i64 t)) : Rl.Ok ⟨47, #[.pointer (some ⟨X, 0, none⟩)], decide (f ≤ t), 3⟩ w :=
  ⟨fun w' => by kernel_rfl, fun w' hb => lin2_any X f t w' ((hb.cell (p := ⟨X, 1, none⟩) l0).trans h0) ((hb.cell (p := ⟨X, 2, none⟩) l1).trans h1)⟩
theorem lin4_any (X L : Nat) (u p : Int) (w : World) (h0 : w.cell? ⟨X, 0, none⟩ = some (.int .i64 u)) (h1 : w.cell? ⟨L, 0, none⟩ = some (.int .i64 p)) :
    Calls Try.prog 49 #[.pointer (some ⟨X, 0, none⟩), .pointer (some ⟨L, 0, none⟩)] w fun e w' => e = .returned (.bool (decide (p < u))) ∧ w = w' := by
  by_cases c0 : p < u
  all_goals
    go_enter Try.func49, Try.ntmps49
    go_wp2
    go_ret
    exact ⟨ret_bool (by first | rfl | (simp; omega) | (simp; done) | simp_all), rfl⟩

theorem lin4_ok (X L : Nat) (u p : Int) (w : World) (l0 : X < w.heap.size) (l1 : L < w.heap.size) (h0 : w.cell? ⟨X, 0, none⟩ = some (.int .i64 u)) (h1 : w.cell? ⟨L, 0, none⟩ = some (.int .i64 p)) : Rl.Ok ⟨49, #[.pointer (some ⟨X, 0, none⟩), .pointer (some ⟨L, 0, none⟩)], decide (p < u), 13⟩ w :=
  ⟨fun w' => by kernel_rfl, fun w' hb => lin4_any X L u p w' ((hb.cell (p := ⟨X, 0, none⟩) l0).trans h0) ((hb.cell (p := ⟨L, 0, none⟩) l1).trans h1)⟩
theorem ext1_any (E C : Nat) (n c : Int) (w : World) (h0 : w.cell? ⟨E, 0, none⟩ = some (.int .i64 n)) (h1 : w.cell? ⟨C, 0, none⟩ = some (.int .i64 c)) :
    Calls Try.prog 51 #[.pointer (some ⟨E, 0, none⟩), .pointer (some ⟨C, 0, none⟩)] w fun e w' => e = .returned (.bool (inB n 1 && inB c 1)) ∧ w = w' := by
  go_enter Try.func51, Try.ntmps51
  go_wp2_with (go_at_call 40; refine (in_any _ _ _).mono ?_; rintro e w1 ⟨rfl, rfl⟩)
  all_goals
    go_ret
    refine ⟨ret_bool ?_, rfl⟩
    simp_all

theorem ext1_ok (E C : Nat) (n c : Int) (w : World) (l0 : E < w.heap.size) (l1 : C < w.heap.size) (h0 : w.cell? ⟨E, 0, none⟩ = some (.int .i64 n)) (h1 : w.cell? ⟨C, 0, none⟩ = some (.int .i64 c)) : Rl.Ok ⟨51, #[.pointer (some ⟨E, 0, none⟩), .pointer (some ⟨C, 0, none⟩)], inB n 1 && inB c 1, 2⟩ w :=
  ⟨fun w' => by kernel_rfl, fun w' hb => ext1_any E C n c w' ((hb.cell (p := ⟨E, 0, none⟩) l0).trans h0) ((hb.cell (p := ⟨C, 0, none⟩) l1).trans h1)⟩
theorem ext2_any (E L : Nat) (n p : Int) (w : World) (h0 : w.cell? ⟨E, 0, none⟩ = some (.int .i64 n)) (h1 : w.cell? ⟨L, 0, none⟩ = some (.int .i64 p)) :
    Calls Try.prog 52 #[.pointer (some ⟨E, 0, none⟩), .pointer (some ⟨L, 0, none⟩)] w fun e w' => e = .returned (.bool (decide (p ≤ n))) ∧ w = w' := by
  by_cases c0 : p ≤ n
  all_goals
    go_enter Try.func52, Try.ntmps52
    go_wp2
    go_ret
    exact ⟨ret_bool (by first | rfl | (simp; omega) | (simp; done) | simp_all), rfl⟩

theorem ext2_ok (E L : Nat) (n p : Int) (w : World) (l0 : E < w.heap.size) (l1 : L < w.heap.size) (h0 : w.cell? ⟨E, 0, none⟩ = some (.int .i64 n)) (h1 : w.cell? ⟨L, 0, none⟩ = some (.int .i64 p)) : Rl.Ok ⟨52, #[.pointer (some ⟨E, 0, none⟩), .pointer (some ⟨L, 0, none⟩)], decide (p ≤ n), 13⟩ w :=
  ⟨fun w' => by kernel_rfl, fun w' hb => ext2_any E L n p w' ((hb.cell (p := ⟨E, 0, none⟩) l0).trans h0) ((hb.cell (p := ⟨L, 0, none⟩) l1).trans h1)⟩
theorem ext3_any (E L : Nat) (n p : Int) (w : World) (h0 : w.cell? ⟨E, 0, none⟩ = some (.int .i64 n)) (h1 : w.cell? ⟨L, 2, none⟩ = some (.int .i64 p)) :
    Calls Try.prog 53 #[.pointer (some ⟨E, 0, none⟩), .pointer (some ⟨L, 0, none⟩)] w fun e w' => e = .returned (.bool (decide (p < n))) ∧ w = w' := by
  by_cases c0 : p < n
  all_goals
    go_enter Try.func53, Try.ntmps53
    go_wp2
    go_ret
    exact ⟨ret_bool (by first | rfl | (simp; omega) | (simp; done) | simp_all), rfl⟩

theorem ext3_ok (E L : Nat) (n p : Int) (w : World) (l0 : E < w.heap.size) (l1 : L < w.heap.size) (h0 : w.cell? ⟨E, 0, none⟩ = some (.int .i64 n)) (h1 : w.cell? ⟨L, 2, none⟩ = some (.int .i64 p)) : Rl.Ok ⟨53, #[.pointer (some ⟨E, 0, none⟩), .pointer (some ⟨L, 0, none⟩)], decide (p < n), 8⟩ w :=
  ⟨fun w' => by kernel_rfl, fun w' hb => ext3_any E L n p w' ((hb.cell (p := ⟨E, 0, none⟩) l0).trans h0) ((hb.cell (p := ⟨L, 2, none⟩) l1).trans h1)⟩
end Go.Proofs.Ytnhemndpnjhbfaa
