/- The walks of New and of its reference. No condition. -/
import Derived.Test.YthkpkjigfaannaaWa
namespace Go.Proofs.Ythkpkjigfaannaa
open Go.RowKit
def okN (o r : Int) : Bool := betwB o 1 1073741824 && betwB r 1 4096
def newE (o r : Int) : Int := if okN o r then 0 else 2
def newV (o r : Int) : Value := if okN o r then thV o r 0 0 none 0 0 else thV 0 0 0 0 none 0 0
theorem info24 : (Try.prog.info? 24).map (·.size) = some 5 := by kernel_rfl
set_option maxRecDepth 100000 in
theorem New_any (o r : Int) (w : World) :
    Calls Try.prog 12 #[.int .i64 o, .int .i64 r] w fun e w' => e = .returned (.tuple #[newV o r, .int .i64 (newE o r)]) ∧ Below w.heap.size w w' := by
  have h1 := fun w9 => between_any o 1 1073741824 w9
  have h2 := fun w9 => between_any r 1 4096 w9
  have hE : newE o r = if betwB o 1 1073741824 && betwB r 1 4096 then 0 else 2 := rfl
  have hV : newV o r = if betwB o 1 1073741824 && betwB r 1 4096 then thV o r 0 0 none 0 0 else thV 0 0 0 0 none 0 0 := rfl
  generalize newE o r = E at *
  generalize newV o r = V at *
  generalize betwB o 1 1073741824 = x at *
  generalize betwB r 1 4096 = y at *
  cases x
  · subst hE hV
    go_enter Try.func12, Try.ntmps12
    go_wp2_with fail
    refine (h1 _).mono ?_
    rintro e w1 ⟨rfl, rfl⟩
    go_wp2_with fail
    refine bodyPost_ret (results_cell_tmp rfl _ _ _ _ _ _ rfl (Blk.new w 24 _) Try.underlying24 rfl info24) rfl ?_
    exact ⟨rfl, (Below.refl _ w).alloc (Nat.le_refl _) _⟩
  · cases y
    · subst hE hV
      go_enter Try.func12, Try.ntmps12
      go_wp2_with fail
      refine (h1 _).mono ?_
      rintro e w1 ⟨rfl, rfl⟩
      go_wp2_with fail
      refine (h2 _).mono ?_
      rintro e w1 ⟨rfl, rfl⟩
      go_wp2_with fail
      refine bodyPost_ret (results_cell_tmp rfl _ _ _ _ _ _ rfl (Blk.new w 24 _) Try.underlying24 rfl info24) rfl ?_
      exact ⟨rfl, (Below.refl _ w).alloc (Nat.le_refl _) _⟩
    · subst hE hV
      go_enter Try.func12, Try.ntmps12
      go_wp2_with fail
      refine (h1 _).mono ?_
      rintro e w1 ⟨rfl, rfl⟩
      go_wp2_with fail
      refine (h2 _).mono ?_
      rintro e w1 ⟨rfl, rfl⟩
      go_wp2_with fail
      refine bodyPost_ret (results_cell_tmp rfl _ _ _ _ _ _ rfl (Blk.new w 24 _) Try.underlying24 rfl info24) rfl ?_
      exact ⟨rfl, (Below.refl _ w).alloc (Nat.le_refl _) _⟩
set_option maxRecDepth 100000 in
theorem refNew_any (o r : Int) (w : World) :
    Calls Try.prog 13 #[.int .i64 o, .int .i64 r] w fun e w' => e = .returned (.tuple #[newV o r, .int .i64 (newE o r)]) ∧ Below w.heap.size w w' := by
  by_cases h1 : 1 ≤ o
  · by_cases h2 : o ≤ 1073741824
    · by_cases h3 : 1 ≤ r
      · by_cases h4 : r ≤ 4096
        · have hq : okN o r = true := by simp [okN, betwB]; omega
          rw [show newE o r = 0 by rw [newE, hq]; rfl, show newV o r = thV o r 0 0 none 0 0 by rw [newV, hq]; rfl]
          clear hq
          go_enter Try.func13, Try.ntmps13
          go_wp2_with fail
          exact bodyPost_ret (results_cell_tmp rfl _ _ _ _ _ _ rfl (Blk.new w 24 _) Try.underlying24 rfl info24) rfl ⟨rfl, (Below.refl _ w).alloc (Nat.le_refl _) _⟩
        · have hq : okN o r = false := by simp [okN, betwB]; omega
          rw [show newE o r = 2 by rw [newE, hq]; rfl, show newV o r = thV 0 0 0 0 none 0 0 by rw [newV, hq]; rfl]
          clear hq
          go_enter Try.func13, Try.ntmps13
          go_wp2_with fail
          exact bodyPost_ret (results_cell_tmp rfl _ _ _ _ _ _ rfl (Blk.new w 24 _) Try.underlying24 rfl info24) rfl ⟨rfl, (Below.refl _ w).alloc (Nat.le_refl _) _⟩
      · have hq : okN o r = false := by simp [okN, betwB]; omega
        rw [show newE o r = 2 by rw [newE, hq]; rfl, show newV o r = thV 0 0 0 0 none 0 0 by rw [newV, hq]; rfl]
        clear hq
        go_enter Try.func13, Try.ntmps13
        go_wp2_with fail
        exact bodyPost_ret (results_cell_tmp rfl _ _ _ _ _ _ rfl (Blk.new w 24 _) Try.underlying24 rfl info24) rfl ⟨rfl, (Below.refl _ w).alloc (Nat.le_refl _) _⟩
    · have hq : okN o r = false := by simp [okN, betwB]; omega
      rw [show newE o r = 2 by rw [newE, hq]; rfl, show newV o r = thV 0 0 0 0 none 0 0 by rw [newV, hq]; rfl]
      clear hq
      go_enter Try.func13, Try.ntmps13
      go_wp2_with fail
      exact bodyPost_ret (results_cell_tmp rfl _ _ _ _ _ _ rfl (Blk.new w 24 _) Try.underlying24 rfl info24) rfl ⟨rfl, (Below.refl _ w).alloc (Nat.le_refl _) _⟩
  · have hq : okN o r = false := by simp [okN, betwB]; omega
    rw [show newE o r = 2 by rw [newE, hq]; rfl, show newV o r = thV 0 0 0 0 none 0 0 by rw [newV, hq]; rfl]
    clear hq
    go_enter Try.func13, Try.ntmps13
    go_wp2_with fail
    exact bodyPost_ret (results_cell_tmp rfl _ _ _ _ _ _ rfl (Blk.new w 24 _) Try.underlying24 rfl info24) rfl ⟨rfl, (Below.refl _ w).alloc (Nat.le_refl _) _⟩
end Go.Proofs.Ythkpkjigfaannaa
