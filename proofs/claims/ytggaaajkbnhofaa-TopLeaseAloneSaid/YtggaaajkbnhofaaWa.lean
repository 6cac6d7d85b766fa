/- The walks of the tests in, site, time; of a fence's order. No condition. -/
import Derived.Test.YtggaaajkbnhofaaRows
import Derived.Test.YtggaaajkbnhofaaLib
namespace Go.Proofs.Ytggaaajkbnhofaa
open Go.RowKit
theorem ret_int {k : IntKind} {a b : Int} (h : a = b) : Ending.returned (.int k a) = .returned (.int k b) := by rw [h]
theorem ret_bool {a b : Bool} (h : a = b) : Ending.returned (.bool a) = .returned (.bool b) := by rw [h]
/-- from a number up to MaxTime -/
def inB (n m : Int) : Bool := decide (m ≤ n ∧ n ≤ 1073741824)
/-- a site's number -/
def siteB (n : Int) : Bool := decide (0 ≤ n ∧ n < 4)
theorem in_any (n m : Int) (w : World) : Calls Try.prog 35 #[.int .i64 n, .int .i64 m] w fun e w' => e = .returned (.bool (inB n m)) ∧ w = w' := by
  by_cases h1 : n < m
  · have h1' : ¬ m ≤ n := by omega
    have e : inB n m = false := by simp [inB]; omega
    rw [e]
    go_enter Try.func35, Try.ntmps35
    go_wp2
    go_ret
    exact ⟨rfl, rfl⟩
  · have h1' : m ≤ n := by omega
    by_cases h2 : n ≤ 1073741824
    · have e : inB n m = true := by simp [inB]; omega
      rw [e]
      go_enter Try.func35, Try.ntmps35
      go_wp2
      go_ret
      exact ⟨rfl, rfl⟩
    · have e : inB n m = false := by simp [inB]; omega
      rw [e]
      go_enter Try.func35, Try.ntmps35
      go_wp2
      go_ret
      exact ⟨rfl, rfl⟩
theorem site_any (n : Int) (w : World) : Calls Try.prog 36 #[.int .i64 n] w fun e w' => e = .returned (.bool (siteB n)) ∧ w = w' := by
  by_cases h1 : n < 0
  · have h1' : ¬ 0 ≤ n := by omega
    have e : siteB n = false := by simp [siteB]; omega
    rw [e]
    go_enter Try.func36, Try.ntmps36
    go_wp2
    go_ret
    exact ⟨rfl, rfl⟩
  · have h1' : 0 ≤ n := by omega
    by_cases h2 : n < 4
    · have e : siteB n = true := by simp [siteB]; omega
      rw [e]
      go_enter Try.func36, Try.ntmps36
      go_wp2
      go_ret
      exact ⟨rfl, rfl⟩
    · have e : siteB n = false := by simp [siteB]; omega
      rw [e]
      go_enter Try.func36, Try.ntmps36
      go_wp2
      go_ret
      exact ⟨rfl, rfl⟩
/-- the condition of a fence: a closure over the block of the fence -/
theorem order1_any (B : Nat) (x o : Int) (w : World) (h0 : w.cell? ⟨B, 0, none⟩ = some (.int .i64 x)) (h1 : w.cell? ⟨B, 1, none⟩ = some (.int .i64 o)) :
    Calls Try.prog 41 #[.pointer (some ⟨B, 0, none⟩)] w fun e w' => e = .returned (.bool (inB x 0 && siteB o)) ∧ w = w' := by
  go_enter Try.func41, Try.ntmps41
  go_wp2_with first | (go_at_call 35; refine (in_any _ _ _).mono ?_; rintro e w1 ⟨rfl, rfl⟩) | (go_at_call 36; refine (site_any _ _).mono ?_; rintro e w1 ⟨rfl, rfl⟩)
  all_goals
    go_ret
    refine ⟨ret_bool ?_, rfl⟩
    simp_all
@[go_sem] theorem run_store_func_ {P : Program} {w : World} {a : Addr} {m : Mode} (f : Fn) (x y : Array Value) : (store a (.func f x y) m).run P w = stored P w a (.func f x y) m := run_store P w a _ m rfl
theorem order_any (x o : Int) (c : Bool) (w : World) :
    Calls Try.prog 29 #[.agg #[.int .i64 x, .int .i64 o, .bool c]] w fun e w' => (∃ B, w.heap.size ≤ B ∧ e = .returned (.agg #[.func (.func 41) #[] #[.pointer (some ⟨B, 0, none⟩)],   .int .i64 2]) ∧ B < w'.heap.size ∧ w'.cell? ⟨B, 0, none⟩ = some (.int .i64 x) ∧ w'.cell? ⟨B, 1, none⟩ = some (.int .i64 o)) ∧ Below w.heap.size w w' := by
  go_enter Try.func29, Try.ntmps29
  go_wp2_with fail
  refine bodyPost_ret (v := .agg #[.func (.func 41) #[] #[.pointer (some ⟨w.heap.size, 0, none⟩)], .int .i64 2]) (by simp [results, Try.results29, go_sem]) rfl ?_
  refine ⟨⟨w.heap.size, Nat.le_refl _, rfl, (by simp; omega), ?_, ?_⟩, ((Below.refl _ w).alloc (Nat.le_refl _) _).alloc (by simp) _⟩
  · exact (World.cell?_alloc_lt _ _ _ (by simp)).trans (by simp [World.cell?_alloc_at])
  · exact (World.cell?_alloc_lt _ _ _ (by simp)).trans (by simp [World.cell?_alloc_at])
end Go.Proofs.Ytggaaajkbnhofaa
