/- The walk of SamePairs at one pair, (0, 1). No condition. -/
import Derived.Test.YthkajcioeemilaaWo
namespace Go.Proofs.Ythkajcioeemilaa
open Go.RowKit
/-- a list of one list, 0 and 1 -/
structure PairR (w : World) (p q c : Nat) : Prop where
  hp : p < w.heap.size
  hq : q < w.heap.size
  c0 : w.cell? ⟨p, 0, none⟩ = some (.slice (some ⟨q, 0, none⟩) 2 c)
  d0 : w.cell? ⟨q, 0, none⟩ = some (.int .i64 0)
  d1 : w.cell? ⟨q, 1, none⟩ = some (.int .i64 1)
theorem PairR.below {w w' : World} {p q c : Nat} (h : PairR w p q c) (hb : Below w.heap.size w w') : PairR w' p q c :=
  ⟨Nat.lt_of_lt_of_le h.hp hb.size, Nat.lt_of_lt_of_le h.hq hb.size, (hb.cell (p := ⟨p, 0, none⟩) h.hp).trans h.c0, (hb.cell (p := ⟨q, 0, none⟩) h.hq).trans h.d0, (hb.cell (p := ⟨q, 1, none⟩) h.hq).trans h.d1⟩
set_option linter.unusedSimpArgs false in
set_option maxRecDepth 100000 in
set_option maxHeartbeats 4000000 in
theorem SamePairs_ok (w : World) (p q c c2 p' q' c' c2' : Nat) (h : PairR w p q c) (h' : PairR w p' q' c') : Calls Try.prog 18 #[.slice (some ⟨p, 0, none⟩) 1 c2, .slice (some ⟨p', 0, none⟩) 1 c2'] w fun x w' => x = .returned (.bool true) ∧ Below w.heap.size w w' := by
  have HX := Lib.hid (And.intro h h')
  clear h h'
  go_enter Try.func18, Try.ntmps18
  go_wp2_with fail
  go_loopw [5, 6] (fun u5 _ W => ∃ k : Nat, k ≤ 1 ∧ u5 = .int .i64 (k : Nat) ∧ Below w.heap.size w W) (fun u5 _ _ => 2 - (intOf u5).toNat)
  case atStart => exact ⟨0, Nat.zero_le _, rfl, Below.refl _ _⟩
  case round =>
    obtain ⟨k, hk, rfl, hbel⟩ := hrel
    rcases (show k = 0 ∨ k = 1 by omega) with rfl | rfl
    · obtain ⟨p1, p2, p3, p4, p5⟩ := HX.out.1.below hbel
      obtain ⟨r1, r2, r3, r4, r5⟩ := HX.out.2.below hbel
      go_wp2_with fail
      go_quiet (fail)
      have hb2 := below_drewN hbel nq
      generalize wr.drewN nq = V at *
      clear p1 p2 p3 p4 p5 r1 r2 r3 r4 r5 hbel
      go_wp2_with fail
      go_loopw [6] (fun u6 W => ∃ k : Nat, k ≤ 2 ∧ u6 = .int .i64 (k : Nat) ∧ Below w.heap.size w W) (fun u6 _ => 3 - (intOf u6).toNat)
      case atStart => exact ⟨0, Nat.zero_le _, rfl, hb2⟩
      case round =>
        obtain ⟨k, hk, rfl, hbel⟩ := hrel
        obtain ⟨p1, p2, p3, p4, p5⟩ := HX.out.1.below hbel
        obtain ⟨r1, r2, r3, r4, r5⟩ := HX.out.2.below hbel
        rcases (show k = 0 ∨ k = 1 ∨ k = 2 by omega) with rfl | rfl | rfl
        · go_wp2_with fail
          go_quiet (fail)
          go_wp2_with fail
          go_roundw
          case rel => exact ⟨1, by omega, by go_num, below_drewN hbel _⟩
          case measure => simp [intOf]
        · go_wp2_with fail
          go_quiet (fail)
          go_wp2_with fail
          go_roundw
          case rel => exact ⟨2, by omega, by go_num, below_drewN hbel _⟩
          case measure => simp [intOf]
        · go_wp2_with fail
          go_roundw
          case rel => exact ⟨1, by omega, by go_num, hbel⟩
          case measure => simp [intOf]
    · go_wp2_with fail
      go_ret
      exact ⟨rfl, hbel⟩
end Go.Proofs.Ythkajcioeemilaa
