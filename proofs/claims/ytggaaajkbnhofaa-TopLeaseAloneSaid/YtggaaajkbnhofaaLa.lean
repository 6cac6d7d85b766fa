/- The walk of the law TopLeaseAlone. No condition. -/
import Derived.Test.YtggaaajkbnhofaaMathC
import Derived.Test.YtggaaajkbnhofaaArgs
namespace Go.Proofs.Ytggaaajkbnhofaa
open Go.RowKit
set_option linter.unusedSimpArgs false in
set_option maxRecDepth 100000 in
set_option maxHeartbeats 8000000 in
theorem walkTopLeaseAlone (w : World) (v0 v1 v2 : Value) (h0 : Arg5 w v0) (h1 : Arg5 w v1) (h2 : Arg22 w v2) : Calls Try.prog 3 #[v0, v1, v2] w fun e w' => e = .returned (.bool true) ∧ Below w.heap.size w w' := by
  obtain ⟨a, rfl, ha⟩ := h0
  obtain ⟨b, rfl, hb⟩ := h1
  obtain ⟨A, c, l, rfl, hR, hlc, hcm⟩ := h2
  have HX := Lib.hid hR
  clear hR
  go_enter Try.func3, Try.ntmps3
  go_wp2_with fail
  refine (granted_ok w a b ⟨ha, hb⟩).mono ?_
  rintro z w1 ⟨g, rfl, tm, mg, htm, hmg, hI⟩
  have HI := Lib.hid hI
  clear hI
  by_cases hl : 60 < l.length
  · have hl' : (60 : Int) < l.length := by omega
    go_wp2_with fail
    go_ret
    exact ⟨rfl, HI.out.bel⟩
  · have hl' : ¬ (60 : Int) < l.length := by omega
    go_wp2_with fail
    go_loopw [10, 11, 12, 24] (fun _ _ _ u24 W => ∃ (k : Nat) (s : St) (b' : Int), k ≤ l.length ∧ u24 = .int .i64 (k : Nat) ∧ Inv (1 + 6 * (k : Nat)) k b' s ∧ StI w g w.heap.size s W) (fun _ _ _ u24 _ => l.length + 1 - (intOf u24).toNat)
    case atStart => exact ⟨0, _, 0, Nat.zero_le _, rfl, inv0 htm hmg, HI.out⟩
    case round =>
      obtain ⟨k, s, b', hk, rfl, hV, hI⟩ := hrel
      by_cases hlt : k < l.length
      · have hlt' : (k : Int) < l.length := by omega
        obtain ⟨bb, off, rfl, hbb, hc⟩ := (HX.out.up hI.bel).elems (E := enS) (fun _ => rfl) (by omega) (by omega)
        have e0 := hc k hlt 0 _ rfl
        have e1 := hc k hlt 1 _ rfl
        have e2 := hc k hlt 2 _ rfl
        clear hc
        generalize l[k] = x at *
        obtain ⟨⟨kd, hkd⟩, ⟨si, hsi⟩, ⟨wh, hwh⟩⟩ := x
        dsimp only at e0 e1 e2
        rw [Nat.add_zero] at e0
        simp only [← Nat.add_assoc] at e1 e2
        have bA := Blk.new wr 27 #[.int .i64 kd, .int .i64 si, .int .i64 wh]
        have hbA : Below wr.heap.size wr (wr.alloc (.cells #[.int .i64 kd, .int .i64 si, .int .i64 wh] 27)) := (Below.refl _ wr).alloc (Nat.le_refl _) _
        have HV := Lib.hid (And.intro hV hI)
        clear hV hI
        go_upto_region 7 with fail
        generalize (wr.alloc (.cells #[.int .i64 kd, .int .i64 si, .int .i64 wh] 27)) = V1 at *
        have c0 : V1.cell? ⟨wr.heap.size, 0, none⟩ = some (.int .i64 kd) := bA.cell 0
        have c1 : V1.cell? ⟨wr.heap.size, 1, none⟩ = some (.int .i64 si) := bA.cell 1
        have c2 : V1.cell? ⟨wr.heap.size, 2, none⟩ = some (.int .i64 wh) := bA.cell 2
        have HB := Lib.hid hbA
        clear hbA bA e0 e1 e2
        go_wp2_with fail
        refine (step_ok w V1 g w.heap.size k s b' kd si wh (HV.out.2.below HB.out) HV.out.1 (by omega)).mono ?_
        rintro z w2 ⟨rfl, s', b'', hI2, hV2⟩
        clear c0 c1 c2 HV HB
        have HV := Lib.hid hV2
        clear hV2
        go_wp2_with fail
        refine (holders_ok w w2 g w.heap.size s' hI2 (HV.out.lsOk (by omega))).mono ?_
        rintro z w3 ⟨rfl, hb3⟩
        have hI3 := hI2.below hb3
        clear hI2 hb3
        obtain ⟨vL, vR, vA, hB⟩ := hI3.blk
        have HI3 := Lib.hid hI3
        clear hI3
        obtain ⟨AL, cL, rfl, _, _, _⟩ := own_slice hB.L
        obtain ⟨bl, rfl, hbl, hlb, _, hcl⟩ := ls_cells hB.L
        have c0 : w3.cell? ⟨g, 0, none⟩ = some (.int .i64 s'.now) := hB.blk.cell 0
        have c3 : w3.cell? ⟨g, 3, none⟩ = some (.int .i64 s'.we) := hB.blk.cell 3
        have c4 : w3.cell? ⟨g, 4, none⟩ = some (.int .i64 s'.wh) := hB.blk.cell 4
        have c5 : w3.cell? ⟨g, 5, none⟩ = some (.int .i64 s'.wu) := hB.blk.cell 5
        have c6 : w3.cell? ⟨g, 6, none⟩ = some (.slice (some ⟨bl, 0, none⟩) 3 cL) := hB.blk.cell 6
        clear hB
        rcases hold_law HV.out with hz | ⟨i, hi, hz, q1, q2, q3⟩
        · rw [hz]
          clear hz
          go_wp2_with fail
          go_quiet (fail)
          go_wp2_with fail
          go_roundw
          case rel =>
            exact ⟨k + 1, s', b'', by omega, by go_num, HV.out, HI3.out.below (below_drewN (Below.refl _ _) _)⟩
          case measure => simp [intOf]; omega
        · rw [hz]
          clear hz
          obtain ⟨l0, l1, l2⟩ := hcl i hi
          clear hcl
          rw [q1] at c4
          generalize s'.now = now at *
          generalize s'.wu = wu at *
          generalize s'.we = we at *
          generalize (s'.ls i).1 = ep at *
          have q2' : ¬ we < ep := by omega
          have q3' : ¬ wu ≤ now := by omega
          have hi' : (i : Int) < 3 := by omega
          go_wp2_with fail
          go_quiet (fail)
          go_wp2_with fail
          go_roundw
          case rel =>
            exact ⟨k + 1, s', b'', by omega, by go_num, HV.out, HI3.out.below (below_drewN (Below.refl _ _) _)⟩
          case measure => simp [intOf]; omega
      · obtain rfl : k = l.length := by omega
        go_wp2_with fail
        go_ret
        exact ⟨rfl, hI.bel⟩
end Go.Proofs.Ytggaaajkbnhofaa
