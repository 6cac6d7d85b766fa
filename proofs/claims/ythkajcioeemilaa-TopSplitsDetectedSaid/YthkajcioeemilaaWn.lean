/- The walk of splitbrain.check: sites in order. No condition. -/
import Derived.Test.YthkajcioeemilaaWm
namespace Go.Proofs.Ythkajcioeemilaa
open Go.RowKit
/-- a site as a value -/
structure Sv where
  s : Si
  A : Option Addr
  c : Nat
def encSv (v : Sv) : List Value := [.int .i64 v.s.num, .int .i64 v.s.role, .int .i64 v.s.ep, .int .i64 v.s.ap, .slice v.A v.s.l.length v.c, .int .i64 v.s.src, .bool v.s.al, .bool v.s.co]
set_option linter.unusedSimpArgs false in
set_option maxRecDepth 100000 in
set_option maxHeartbeats 4000000 in
theorem check_ok (w : World) (A : Option Addr) (c : Nat) (L : List Sv) (hR : Reads w w.heap.size 8 A L.length (L.flatMap encSv)) (hn : L.length ≤ 4) (hs : ∀ v ∈ L, SiR w v.A v.s ∧ SiOk v.s) : Calls Try.prog 12 #[.slice A L.length c] w fun x w' => x = .returned (.int .i64 0) ∧ Below w.heap.size w w' := by
  have HX := Lib.hid (And.intro hR hs)
  clear hR hs
  have hn' : ¬ (4 : Int) < L.length := by omega
  go_enter Try.func12, Try.ntmps12
  go_wp2_with fail
  go_loopw [4, 5, 11] (fun _ _ u11 W => ∃ k : Nat, k ≤ L.length ∧ u11 = .int .i64 (k : Nat) ∧ Below w.heap.size w W) (fun _ _ u11 _ => L.length + 1 - (intOf u11).toNat)
  case atStart => exact ⟨0, Nat.zero_le _, rfl, Below.refl _ _⟩
  case round =>
    obtain ⟨k, hk, rfl, hbel⟩ := hrel
    by_cases hlt : k < L.length
    · have hlt' : (k : Int) < L.length := by omega
      obtain ⟨bb, off, rfl, hbb, hcc⟩ := (HX.out.1.up hbel).elems (E := encSv) (fun _ => rfl) (by omega) (by omega)
      have e0 := hcc k hlt 0 _ rfl
      have e1 := hcc k hlt 1 _ rfl
      have e2 := hcc k hlt 2 _ rfl
      have e3 := hcc k hlt 3 _ rfl
      have e4 := hcc k hlt 4 _ rfl
      have e5 := hcc k hlt 5 _ rfl
      have e6 := hcc k hlt 6 _ rfl
      have e7 := hcc k hlt 7 _ rfl
      clear hcc
      have hm := HX.out.2 L[k] (List.getElem_mem hlt)
      generalize L[k] = x at *
      obtain ⟨⟨num, role, ep, ap, l, src, al, co⟩, A1, c1⟩ := x
      dsimp only at e0 e1 e2 e3 e4 e5 e6 e7 hm
      rw [Nat.add_zero] at e0
      simp only [← Nat.add_assoc] at e1 e2 e3 e4 e5 e6 e7
      have bA := Blk.new wr 34 #[.int .i64 num, .int .i64 role, .int .i64 ep, .int .i64 ap, .slice A1 l.length c1, .int .i64 src, .bool al, .bool co]
      have hbA := hbel.alloc hbel.size (.cells #[.int .i64 num, .int .i64 role, .int .i64 ep, .int .i64 ap, .slice A1 l.length c1, .int .i64 src, .bool al, .bool co] 34)
      have HM := Lib.hid (And.intro hm (And.intro bA hbA))
      clear bA hbA hm hbel
      go_upto_region 6 with fail
      generalize (wr.alloc (.cells #[.int .i64 num, .int .i64 role, .int .i64 ep, .int .i64 ap, .slice A1 l.length c1, .int .i64 src, .bool al, .bool co] 34)) = V at *
      clear e0 e1 e2 e3 e4 e5 e6 e7
      have x0 : V.cell? ⟨wr.heap.size, 0, none⟩ = some (.int .i64 num) := HM.out.2.1.cell 0
      have x1 : V.cell? ⟨wr.heap.size, 1, none⟩ = some (.int .i64 role) := HM.out.2.1.cell 1
      have x2 : V.cell? ⟨wr.heap.size, 2, none⟩ = some (.int .i64 ep) := HM.out.2.1.cell 2
      have x3 : V.cell? ⟨wr.heap.size, 3, none⟩ = some (.int .i64 ap) := HM.out.2.1.cell 3
      have x4 : V.cell? ⟨wr.heap.size, 4, none⟩ = some (.slice A1 l.length c1) := HM.out.2.1.cell 4
      have x5 : V.cell? ⟨wr.heap.size, 5, none⟩ = some (.int .i64 src) := HM.out.2.1.cell 5
      have x6 : V.cell? ⟨wr.heap.size, 6, none⟩ = some (.bool al) := HM.out.2.1.cell 6
      have x7 : V.cell? ⟨wr.heap.size, 7, none⟩ = some (.bool co) := HM.out.2.1.cell 7
      go_wp2_with fail
      refine (Check_ok ⟨num, role, ep, ap, l, src, al, co⟩ A1 c1 V (HM.out.1.1.up HM.out.2.2) HM.out.1.2).mono ?_
      rintro z w2 ⟨rfl, hb2⟩
      go_wp2_with fail
      go_roundw
      case rel => exact ⟨k + 1, by omega, by go_num, HM.out.2.2.trans (hb2.mono HM.out.2.2.size)⟩
      case measure => simp [intOf]; omega
    · obtain rfl : k = L.length := by omega
      go_wp2_with fail
      go_ret
      exact ⟨rfl, hbel⟩
end Go.Proofs.Ythkajcioeemilaa
