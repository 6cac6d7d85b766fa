/- The walks of Admit, Raise, Shut. No condition. -/
import Derived.Test.YtggaaajkbnhofaaWc
namespace Go.Proofs.Ytggaaajkbnhofaa
open Go.RowKit
theorem adm1_any (E F : Nat) (n x : Int) (w : World) (h0 : w.cell? ⟨E, 0, none⟩ = some (.int .i64 n)) (h1 : w.cell? ⟨F, 0, none⟩ = some (.int .i64 x)) :
    Calls Try.prog 38 #[.pointer (some ⟨E, 0, none⟩), .pointer (some ⟨F, 0, none⟩)] w fun e w' => e = .returned (.bool (decide (x ≤ n))) ∧ w = w' := by
  by_cases c0 : x ≤ n
  all_goals
    go_enter Try.func38, Try.ntmps38
    go_wp2
    go_ret
    exact ⟨ret_bool (by first | rfl | (simp; omega) | (simp; done) | simp_all), rfl⟩

theorem adm1_ok (E F : Nat) (n x : Int) (w : World) (l0 : E < w.heap.size) (l1 : F < w.heap.size) (h0 : w.cell? ⟨E, 0, none⟩ = some (.int .i64 n)) (h1 : w.cell? ⟨F, 0, none⟩ = some (.int .i64 x)) : Rl.Ok ⟨38, #[.pointer (some ⟨E, 0, none⟩), .pointer (some ⟨F, 0, none⟩)], decide (x ≤ n), 13⟩ w :=
  ⟨fun w' => by kernel_rfl, fun w' hb => adm1_any E F n x w' ((hb.cell (p := ⟨E, 0, none⟩) l0).trans h0) ((hb.cell (p := ⟨F, 0, none⟩) l1).trans h1)⟩
theorem adm2_any (E F : Nat) (n x : Int) (w : World) (h0 : w.cell? ⟨E, 0, none⟩ = some (.int .i64 n)) (h1 : w.cell? ⟨F, 0, none⟩ = some (.int .i64 x)) :
    Calls Try.prog 39 #[.pointer (some ⟨E, 0, none⟩), .pointer (some ⟨F, 0, none⟩)] w fun e w' => e = .returned (.bool (decide (n = x))) ∧ w = w' := by
  by_cases c0 : n = x
  all_goals
    go_enter Try.func39, Try.ntmps39
    go_wp2
    go_ret
    exact ⟨ret_bool (by first | rfl | (simp; omega) | (simp; done) | simp_all), rfl⟩

theorem adm2_ok (E F : Nat) (n x : Int) (w : World) (l0 : E < w.heap.size) (l1 : F < w.heap.size) (h0 : w.cell? ⟨E, 0, none⟩ = some (.int .i64 n)) (h1 : w.cell? ⟨F, 0, none⟩ = some (.int .i64 x)) : Rl.Ok ⟨39, #[.pointer (some ⟨E, 0, none⟩), .pointer (some ⟨F, 0, none⟩)], decide (n = x), 1⟩ w :=
  ⟨fun w' => by kernel_rfl, fun w' hb => adm2_any E F n x w' ((hb.cell (p := ⟨E, 0, none⟩) l0).trans h0) ((hb.cell (p := ⟨F, 0, none⟩) l1).trans h1)⟩
theorem rai2_any (E F : Nat) (n x : Int) (w : World) (h0 : w.cell? ⟨E, 0, none⟩ = some (.int .i64 n)) (h1 : w.cell? ⟨F, 0, none⟩ = some (.int .i64 x)) :
    Calls Try.prog 37 #[.pointer (some ⟨E, 0, none⟩), .pointer (some ⟨F, 0, none⟩)] w fun e w' => e = .returned (.bool (decide (x < n))) ∧ w = w' := by
  by_cases c0 : x < n
  all_goals
    go_enter Try.func37, Try.ntmps37
    go_wp2
    go_ret
    exact ⟨ret_bool (by first | rfl | (simp; omega) | (simp; done) | simp_all), rfl⟩

theorem rai2_ok (E F : Nat) (n x : Int) (w : World) (l0 : E < w.heap.size) (l1 : F < w.heap.size) (h0 : w.cell? ⟨E, 0, none⟩ = some (.int .i64 n)) (h1 : w.cell? ⟨F, 0, none⟩ = some (.int .i64 x)) : Rl.Ok ⟨37, #[.pointer (some ⟨E, 0, none⟩), .pointer (some ⟨F, 0, none⟩)], decide (x < n), 13⟩ w :=
  ⟨fun w' => by kernel_rfl, fun w' hb => rai2_any E F n x w' ((hb.cell (p := ⟨E, 0, none⟩) l0).trans h0) ((hb.cell (p := ⟨F, 0, none⟩) l1).trans h1)⟩
theorem adm3_any (F E : Nat) (o s : Int) (c : Bool) (w : World) (h0 : w.cell? ⟨F, 2, none⟩ = some (.bool c)) (h1 : w.cell? ⟨E, 0, none⟩ = some (.int .i64 s)) (h2 : w.cell? ⟨F, 1, none⟩ = some (.int .i64 o)) :
    Calls Try.prog 40 #[.pointer (some ⟨F, 0, none⟩), .pointer (some ⟨E, 0, none⟩)] w fun e w' => e = .returned (.bool (!c && decide (s = o))) ∧ w = w' := by
  cases c <;> by_cases c0 : s = o
  all_goals
    go_enter Try.func40, Try.ntmps40
    go_wp2
    go_ret
    exact ⟨ret_bool (by simp [c0]), rfl⟩

theorem adm3_ok (F E : Nat) (o s : Int) (c : Bool) (w : World) (l0 : F < w.heap.size) (l1 : E < w.heap.size) (l2 : F < w.heap.size) (h0 : w.cell? ⟨F, 2, none⟩ = some (.bool c)) (h1 : w.cell? ⟨E, 0, none⟩ = some (.int .i64 s)) (h2 : w.cell? ⟨F, 1, none⟩ = some (.int .i64 o)) : Rl.Ok ⟨40, #[.pointer (some ⟨F, 0, none⟩), .pointer (some ⟨E, 0, none⟩)], !c && decide (s = o), 14⟩ w :=
  ⟨fun w' => by kernel_rfl, fun w' hb => adm3_any F E o s c w' ((hb.cell (p := ⟨F, 2, none⟩) l0).trans h0) ((hb.cell (p := ⟨E, 0, none⟩) l1).trans h1) ((hb.cell (p := ⟨F, 1, none⟩) l2).trans h2)⟩
theorem rai1_any (E F : Nat) (n x : Int) (w : World) (h0 : w.cell? ⟨E, 0, none⟩ = some (.int .i64 n)) (h1 : w.cell? ⟨F, 0, none⟩ = some (.int .i64 x)) :
    Calls Try.prog 34 #[.pointer (some ⟨E, 0, none⟩), .pointer (some ⟨F, 0, none⟩)] w fun e w' => e = .returned (.bool (fenceB n x)) ∧ w = w' := by
  go_enter Try.func34, Try.ntmps34
  go_wp2_with first | (go_at_call 35; refine (in_any _ _ _).mono ?_; rintro e w1 ⟨rfl, rfl⟩) | (go_at_call 36; refine (site_any _ _).mono ?_; rintro e w1 ⟨rfl, rfl⟩)
  all_goals
    go_ret
    refine ⟨ret_bool ?_, rfl⟩
    simp_all [fenceB]

theorem rai1_ok (E F : Nat) (n x : Int) (w : World) (l0 : E < w.heap.size) (l1 : F < w.heap.size) (h0 : w.cell? ⟨E, 0, none⟩ = some (.int .i64 n)) (h1 : w.cell? ⟨F, 0, none⟩ = some (.int .i64 x)) : Rl.Ok ⟨34, #[.pointer (some ⟨E, 0, none⟩), .pointer (some ⟨F, 0, none⟩)], fenceB n x, 2⟩ w :=
  ⟨fun w' => by kernel_rfl, fun w' hb => rai1_any E F n x w' ((hb.cell (p := ⟨E, 0, none⟩) l0).trans h0) ((hb.cell (p := ⟨F, 0, none⟩) l1).trans h1)⟩
def admitV (x o : Int) (c : Bool) (n s : Int) : Int :=
  if fenceB x o then (if n < x then 13 else if n = x then (if !c && decide (s = o) then 0 else 14) else 1) else 2
set_option maxRecDepth 100000 in
theorem Admit_any (x o n s : Int) (c : Bool) (w : World) :
    Calls Try.prog 27 #[.agg #[.int .i64 x, .int .i64 o, .bool c], .int .i64 n, .int .i64 s] w fun e w' => e = .returned (.int .i64 (admitV x o c n s)) ∧ Below w.heap.size w w' := by
  have hB0 : Below w.heap.size w (((w.alloc (.cells #[.int .i64 x, .int .i64 o, .bool c] 37)).alloc (.cells #[.int .i64 n] 3)).alloc (.cells #[.int .i64 s] 3)) := (((Below.refl _ w).alloc (Nat.le_refl _) _).alloc (by simp) _).alloc (by simp; omega) _
  go_enter Try.func27, Try.ntmps27
  go_wp2_with fail
  refine (order_any _ _ _ _).mono ?_
  rintro e w1 ⟨⟨B, hB, rfl, hB1, hc0, hc1⟩, hb1⟩
  have hB2 := hB0.trans (hb1.mono hB0.size)
  obtain ⟨hc, _⟩ := bcell hb1
  have hz := hb1.size
  simp only [World.size_alloc] at hz
  go_wp2_with fail
  refine (first_new [⟨41, #[.pointer (some ⟨B, 0, none⟩)], fenceB x o, 2⟩, ⟨38, #[.pointer (some ⟨w.heap.size + 1, 0, none⟩), .pointer (some ⟨w.heap.size, 0, none⟩)], decide (x ≤ n), 13⟩, ⟨39, #[.pointer (some ⟨w.heap.size + 1, 0, none⟩), .pointer (some ⟨w.heap.size, 0, none⟩)], decide (n = x), 1⟩, ⟨40, #[.pointer (some ⟨w.heap.size, 0, none⟩), .pointer (some ⟨w.heap.size + 2, 0, none⟩)], !c && decide (s = o), 14⟩] 4 w1 _ rfl 4 rfl (by decide) ?_).mono ?_
  · intro r hr
    simp only [List.mem_cons, List.not_mem_nil, or_false] at hr
    rcases hr with rfl | rfl | rfl | rfl
    · exact order1_ok B x o w1 hB1 hc0 hc1
    · exact adm1_ok _ _ n x w1 (by omega) (by omega) ((hc _ _ (by simp <;> omega)).trans (by go_simp)) ((hc _ _ (by simp <;> omega)).trans (by go_simp))
    · exact adm2_ok _ _ n x w1 (by omega) (by omega) ((hc _ _ (by simp <;> omega)).trans (by go_simp)) ((hc _ _ (by simp <;> omega)).trans (by go_simp))
    · exact adm3_ok _ _ o s c w1 (by omega) (by omega) (by omega) ((hc _ _ (by simp <;> omega)).trans (by go_simp)) ((hc _ _ (by simp <;> omega)).trans (by go_simp)) ((hc _ _ (by simp <;> omega)).trans (by go_simp))
  · rintro e w2 ⟨rfl, hb2⟩
    go_wp2_with fail
    go_ret
    refine ⟨ret_int ?_, hB2.trans (hb2.mono hB2.size)⟩
    simp only [firstV, admitV]
    (repeat' split) <;> simp_all <;> omega
end Go.Proofs.Ytggaaajkbnhofaa
