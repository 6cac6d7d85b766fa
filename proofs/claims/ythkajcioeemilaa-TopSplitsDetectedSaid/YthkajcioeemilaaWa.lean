/- The walks of the small tests; lineages: correct, the ancestor of two. No condition. -/
import Derived.Test.YthkajcioeemilaaRows
import Derived.Test.YthkajcioeemilaaLib
import Derived.Test.YthkajcioeemilaaLibE
import Derived.Deep.Cut
namespace Go.Proofs.Ythkajcioeemilaa
open Go.RowKit
/-- a span of a lineage -/
structure Sp where
  e : Int
  f : Int
  t : Int
def encSp (x : Sp) : List Value := [.int .i64 x.e, .int .i64 x.f, .int .i64 x.t]
/-- a lineage in order, behind a span -/
def CorF (e0 t0 : Int) : List Sp → Prop
  | [] => True
  | x :: l => x.f = t0 + 1 ∧ x.f ≤ x.t ∧ x.t ≤ 1073741824 ∧ 1 ≤ x.e ∧ x.e ≤ 1073741824 ∧ e0 < x.e ∧ CorF x.e x.t l
theorem in_yes (n a b : Int) (h : a ≤ n ∧ n ≤ b) (w : World) : Calls Try.prog 29 #[.int .i64 n, .int .i64 a, .int .i64 b] w fun x w' => x = .returned (.bool true) ∧ w = w' := by
  obtain ⟨h1, h2⟩ := h
  go_enter Try.func29, Try.ntmps29
  go_wp2_with fail
  go_ret
  exact ⟨rfl, rfl⟩
theorem din_yes (n a : Int) (h : a ≤ n ∧ n ≤ 1073741824) (w : World) : Calls Try.prog 34 #[.int .i64 n, .int .i64 a] w fun x w' => x = .returned (.bool true) ∧ w = w' := by
  obtain ⟨h1, h2⟩ := h
  go_enter Try.func34, Try.ntmps34
  go_wp2_with fail
  go_ret
  exact ⟨rfl, rfl⟩
/-- who receives -/
def recvB (r : Int) : Bool := decide (r = 2 ∨ r = 4)
theorem recv_any (r : Int) (w : World) : Calls Try.prog 32 #[.int .i64 r] w fun x w' => x = .returned (.bool (recvB r)) ∧ w = w' := by
  by_cases h1 : r = 2
  · subst h1
    go_enter Try.func32, Try.ntmps32
    go_wp2_with fail
    go_ret
    exact ⟨rfl, rfl⟩
  · by_cases h2 : r = 4
    · subst h2
      go_enter Try.func32, Try.ntmps32
      go_wp2_with fail
      go_ret
      exact ⟨rfl, rfl⟩
    · have e : recvB r = false := by simp [recvB, h1, h2]
      have k1 : (r == 2) = false := by rw [beq_eq_false_iff_ne]; exact h1
      have k2 : (r == 4) = false := by rw [beq_eq_false_iff_ne]; exact h2
      rw [e]
      go_enter Try.func32, Try.ntmps32
      go_wp2_with fail
      go_ret
      exact ⟨rfl, rfl⟩
set_option linter.unusedSimpArgs false in
set_option maxRecDepth 100000 in
set_option maxHeartbeats 4000000 in
theorem correct_ok (w : World) (A : Option Addr) (c : Nat) (l : List Sp) (hR : Reads w w.heap.size 3 A l.length (l.flatMap encSp)) (hn : l.length ≤ 1000) (hc : CorF 0 0 l) : Calls Try.prog 27 #[.slice A l.length c] w fun x w' => x = .returned (.bool true) ∧ Below w.heap.size w w' := by
  have HX := Lib.hid hR
  clear hR
  have b0 := Blk.new w 65 #[.int .i64 0, .int .i64 0, .int .i64 0]
  have hb0 : Below w.heap.size w (w.alloc (.cells #[.int .i64 0, .int .i64 0, .int .i64 0] 65)) := (Below.refl _ w).alloc (Nat.le_refl _) _
  have HB := Lib.hid (And.intro b0 hb0)
  clear b0 hb0
  go_enter Try.func27, Try.ntmps27
  go_upto_region 2 with fail
  generalize (w.alloc (.cells #[.int .i64 0, .int .i64 0, .int .i64 0] 65)) = V at *
  go_wp2_with fail
  go_loopw [5, 9] (fun _ u9 W => ∃ (k : Nat) (e f t : Int), k ≤ l.length ∧ u9 = .int .i64 (k : Nat) ∧ Blk W w.heap.size 65 #[.int .i64 e, .int .i64 f, .int .i64 t] ∧ 0 ≤ t ∧ t ≤ 1073741824 ∧ CorF e t (l.drop k) ∧ Below w.heap.size w W) (fun _ u9 _ => l.length + 1 - (intOf u9).toNat)
  case atStart => exact ⟨0, 0, 0, 0, Nat.zero_le _, rfl, HB.out.1, by omega, by omega, hc, HB.out.2⟩
  case round =>
    obtain ⟨k, e, f, t, hk, rfl, hB, ht0, ht1, hcd, hbel⟩ := hrel
    have hbl := hB.lt
    by_cases hlt : k < l.length
    · have hlt' : (k : Int) < l.length := by omega
      obtain ⟨bb, off, rfl, hbb, hcc⟩ := (HX.out.up hbel).elems (E := encSp) (fun _ => rfl) (by omega) (by omega)
      have e0 := hcc k hlt 0 _ rfl
      have e1 := hcc k hlt 1 _ rfl
      have e2 := hcc k hlt 2 _ rfl
      clear hcc
      rw [List.drop_eq_getElem_cons hlt] at hcd
      generalize l[k] = x at *
      obtain ⟨xe, xf, xt⟩ := x
      obtain ⟨q1, q2, q3, q4, q5, q6, q7⟩ := hcd
      dsimp only at e0 e1 e2 q1 q2 q3 q4 q5 q6 q7
      subst q1
      rw [Nat.add_zero] at e0
      simp only [← Nat.add_assoc] at e1 e2
      have bA := Blk.new wr 65 #[.int .i64 xe, .int .i64 (t + 1), .int .i64 xt]
      have hsA : wr.heap.size < (wr.alloc (.cells #[.int .i64 xe, .int .i64 (t + 1), .int .i64 xt] 65)).heap.size := by simp
      have hB2 := hB.alloc (.cells #[.int .i64 xe, .int .i64 (t + 1), .int .i64 xt] 65)
      have hbA := hbel.alloc hbel.size (.cells #[.int .i64 xe, .int .i64 (t + 1), .int .i64 xt] 65)
      have HA := Lib.hid (And.intro bA (And.intro hB2 (And.intro hbA q7)))
      have hws := hbel.size
      clear bA hB2 hbA hB hbel q7
      go_upto_region 5 with fail
      generalize (wr.alloc (.cells #[.int .i64 xe, .int .i64 (t + 1), .int .i64 xt] 65)) = V1 at *
      clear e0 e1 e2
      have x0 : V1.cell? ⟨wr.heap.size, 0, none⟩ = some (.int .i64 xe) := HA.out.1.cell 0
      have x1 : V1.cell? ⟨wr.heap.size, 1, none⟩ = some (.int .i64 (t + 1)) := HA.out.1.cell 1
      have x2 : V1.cell? ⟨wr.heap.size, 2, none⟩ = some (.int .i64 xt) := HA.out.1.cell 2
      have y0 : V1.cell? ⟨w.heap.size, 0, none⟩ = some (.int .i64 e) := HA.out.2.1.cell 0
      have y2 : V1.cell? ⟨w.heap.size, 2, none⟩ = some (.int .i64 t) := HA.out.2.1.cell 2
      have z0 : V1.frozen? ⟨w.heap.size, 0, none⟩ = false := HA.out.2.1.frozen 0
      have z1 : V1.frozen? ⟨w.heap.size, 1, none⟩ = false := HA.out.2.1.frozen 1
      have z2 : V1.frozen? ⟨w.heap.size, 2, none⟩ = false := HA.out.2.1.frozen 2
      have y1 : V1.cell? ⟨w.heap.size, 1, none⟩ = some (.int .i64 f) := HA.out.2.1.cell 1
      have kw : IntKind.i64.wrap (t + 1) = t + 1 := IntWalk.i64_in _ (by omega)
      have q2' : ¬ xt < t + 1 := by omega
      have q3' : ¬ (1073741824 : Int) < xt := by omega
      have q6' : ¬ xe ≤ e := by omega
      go_wp2_with fail
      refine (din_yes xe 1 ⟨q4, q5⟩ V1).mono ?_
      rintro _ _ ⟨rfl, rfl⟩
      go_wp2_with fail
      go_roundw
      case rel =>
        exact ⟨k + 1, xe, t + 1, xt, by omega, by go_num, ((HA.out.2.1.set_ 0 _).set_ 1 _).set_ 2 _, by omega, by omega, HA.out.2.2.2, ((HA.out.2.2.1.setCell (Nat.le_refl _) _).setCell (Nat.le_refl _) _).setCell (Nat.le_refl _) _⟩
      case measure => simp [intOf]; omega
    · obtain rfl : k = l.length := by omega
      go_wp2_with fail
      go_ret
      exact ⟨rfl, hbel⟩
end Go.Proofs.Ythkajcioeemilaa
