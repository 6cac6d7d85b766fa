/- The closure of CheckLineage that adds one. No condition. -/
import Derived.Test.YtnhemndpnjhbfaaWj
namespace Go.Proofs.Ytnhemndpnjhbfaa
open Go.RowKit
theorem lin3_any (X L : Nat) (f p : Int) (hp0 : 0 ≤ p) (hp1 : p ≤ 1073741824) (w : World) (h0 : w.cell? ⟨X, 1, none⟩ = some (.int .i64 f)) (h1 : w.cell? ⟨L, 2, none⟩ = some (.int .i64 p)) :
    Calls Try.prog 48 #[.pointer (some ⟨X, 0, none⟩), .pointer (some ⟨L, 0, none⟩)] w fun e w' => e = .returned (.bool (decide (f = p + 1))) ∧ w = w' := by
  by_cases c0 : f = p + 1
  all_goals
    go_enter Try.func48, Try.ntmps48
    go_wp2
    go_ret
    exact ⟨ret_bool (by first | rfl | (simp; omega) | (simp; done) | simp_all), rfl⟩
theorem lin3_ok (X L : Nat) (f p : Int) (hp0 : 0 ≤ p) (hp1 : p ≤ 1073741824) (w : World) (l0 : X < w.heap.size) (l1 : L < w.heap.size) (h0 : w.cell? ⟨X, 1, none⟩ = some (.int .i64 f)) (h1 : w.cell? ⟨L, 2, none⟩ = some (.int .i64 p)) :
    Rl.Ok ⟨48, #[.pointer (some ⟨X, 0, none⟩), .pointer (some ⟨L, 0, none⟩)], decide (f = p + 1), 15⟩ w :=
  ⟨fun w' => by kernel_rfl, fun w' hb => lin3_any X L f p hp0 hp1 w' ((hb.cell (p := ⟨X, 1, none⟩) l0).trans h0) ((hb.cell (p := ⟨L, 2, none⟩) l1).trans h1)⟩
end Go.Proofs.Ytnhemndpnjhbfaa
