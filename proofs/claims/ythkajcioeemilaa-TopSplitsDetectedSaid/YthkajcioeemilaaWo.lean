/- The walk of SameInts at equal lists. No condition. -/
import Derived.Test.YthkajcioeemilaaWd
namespace Go.Proofs.Ythkajcioeemilaa
open Go.RowKit
def i64s (l : List Int) : List Value := l.map fun x : Int => .int .i64 x
theorem i64s_len (l : List Int) : (i64s l).length = l.length := by simp [i64s]
set_option linter.unusedSimpArgs false in
set_option maxRecDepth 100000 in
set_option maxHeartbeats 1000000 in
theorem SameInts_true (A A' : Option Addr) (m c c' : Nat) (l : List Int) (w : World) (hR : Reads w w.heap.size 1 A m (i64s l)) (hR' : Reads w w.heap.size 1 A' m (i64s l)) (hm : m ≤ 10000) :
    Calls Try.prog 19 #[.slice A m c, .slice A' m c'] w fun e w' => e = .returned (.bool true) ∧ Below w.heap.size w w' := by
  have hl : l.length = m := by have := hR.1; rw [i64s_len] at this; omega
  have HX := Lib.hid (And.intro hR (And.intro hR' hl))
  clear hR hR' hl
  go_enter Try.func19, Try.ntmps19
  go_wp2_with fail
  go_loopw [5] (fun i wr => ∃ k : Nat, k ≤ m ∧ i = .int .i64 k ∧ Below w.heap.size w wr) (fun i _ => m - (intOf i).toNat)
  case atStart => exact ⟨0, by omega, rfl, Below.refl _ _⟩
  case round =>
    obtain ⟨k, hk, rfl, hbw⟩ := hrel
    by_cases hlt : k < m
    · have hkl : k < l.length := by have := HX.out.2.2; omega
      obtain ⟨b1, o1, rfl, _, hc1⟩ := (HX.out.1.up hbw).plain (by omega) (by omega)
      obtain ⟨b2, o2, rfl, _, hc2⟩ := (HX.out.2.1.up hbw).plain (by omega) (by omega)
      have d0 := hc1 k (.int .i64 l[k]) (by simp [i64s, List.getElem?_eq_getElem hkl])
      have d1 := hc2 k (.int .i64 l[k]) (by simp [i64s, List.getElem?_eq_getElem hkl])
      generalize l[k] = x at *
      clear hc1 hc2
      have HB := Lib.hid hbw
      clear hbw
      have i0 : (k : Int) < m := by omega
      go_wp2
      go_quiet (fail)
      go_wp2
      go_roundw
      case rel => exact ⟨k + 1, by omega, by go_num, below_drewN HB.out _⟩
      case measure => simp [intOf]; omega
    · go_wp2
      go_ret
      exact ⟨rfl, hbw⟩
end Go.Proofs.Ythkajcioeemilaa
