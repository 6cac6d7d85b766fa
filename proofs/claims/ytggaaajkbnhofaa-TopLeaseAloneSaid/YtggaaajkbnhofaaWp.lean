/- The walk of runGranted. No condition. -/
import Derived.Test.YtggaaajkbnhofaaMathB
namespace Go.Proofs.Ytggaaajkbnhofaa
open Go.RowKit
def ls0 : Nat → Int × Int := fun _ => (0, 0)
def st0 (tm mg : Int) : St := ⟨0, tm, mg, 0, -1, 0, ls0, [], [], 0, 0⟩
theorem inv0 {tm mg : Int} (h1 : 1 ≤ tm ∧ tm ≤ 12) (h2 : 0 ≤ mg ∧ mg ≤ 3) : Inv 1 0 0 (st0 tm mg) :=
  ⟨by simp [st0], h1, h2, by simp [st0], .inl rfl, by simp [st0]; omega, fun h => absurd rfl h, fun i _ => by simp [st0, ls0]; omega, fun i _ h => by simp [st0, ls0] at h, Nat.le_refl _, Nat.le_refl _, fun j q hq => by simp [st0] at hq, nofun, nofun, by simp [st0], by simp [st0], .inl rfl⟩
theorem lsRow_snoc (k : Nat) : (List.range (k + 1)).flatMap (leC ls0) = (List.range k).flatMap (leC ls0) ++ leC ls0 k := by
  rw [List.range_succ, List.flatMap_append]
  simp
set_option linter.unusedSimpArgs false in
set_option maxRecDepth 100000 in
set_option maxHeartbeats 8000000 in
theorem granted_ok (w : World) (a b : Nat) (hab : a < 256 ∧ b < 256) : Calls Try.prog 4 #[.int .u8 (a : Nat), .int .u8 (b : Nat)] w fun z w' => ∃ g, z = .returned (.tuple #[.pointer (some ⟨g, 0, none⟩), .bool true]) ∧ ∃ tm mg : Int, (1 ≤ tm ∧ tm ≤ 12) ∧ (0 ≤ mg ∧ mg ≤ 3) ∧ StI w g w.heap.size (st0 tm mg) w' := by
  obtain ⟨i0, hi0, hz0, hz1, hz2⟩ := info_parts (show (Try.prog.info? 41).map (fun i => (i.zero, i.size, i.bytes)) = some (some (.agg #[.int .i64 0, .int .i64 0, .int .i64 0]), 3, 24) by kernel_rfl)
  have HII := Lib.hid (And.intro hi0 (And.intro hz0 (And.intro hz1 hz2)))
  clear hi0 hz0 hz1 hz2
  obtain ⟨x, hx⟩ : ∃ x : Int, ((a : Nat) : Int).tmod 12 = x := ⟨_, rfl⟩
  obtain ⟨y, hy⟩ : ∃ y : Int, ((b : Nat) : Int).tmod 4 = y := ⟨_, rfl⟩
  have hx1 : 0 ≤ x ∧ x < 12 := by rw [← hx]; exact ⟨Int.tmod_nonneg _ (by omega), Int.tmod_lt_of_pos _ (by omega)⟩
  have hy1 : 0 ≤ y ∧ y < 4 := by rw [← hy]; exact ⟨Int.tmod_nonneg _ (by omega), Int.tmod_lt_of_pos _ (by omega)⟩
  have z1 : IntKind.i64.wrap (x + 1) = x + 1 := IntWalk.i64_in _ (by omega)
  go_enter Try.func4, Try.ntmps4
  go_wp2_with fail
  refine (New_any 0 0 w).mono ?_
  rintro z w1 ⟨rfl, hb1⟩
  rw [show fenceB 0 0 = true from rfl, show checkF 0 0 = 0 from rfl, if_pos rfl]
  have hb2 : Below w1.heap.size w1 (w1.alloc (.cells #[.int .i64 0, .int .i64 0, .bool false] 37)) := (Below.refl _ w1).alloc (Nat.le_refl _) _
  have f0 := Blk.new w1 37 #[.int .i64 0, .int .i64 0, .bool false]
  go_upto_region 2 with fail
  generalize (w1.alloc (.cells #[.int .i64 0, .int .i64 0, .bool false] 37)) = V at *
  have c0 : V.cell? ⟨w1.heap.size, 0, none⟩ = some (.int .i64 0) := f0.cell 0
  have c1 : V.cell? ⟨w1.heap.size, 1, none⟩ = some (.int .i64 0) := f0.cell 1
  have c2 : V.cell? ⟨w1.heap.size, 2, none⟩ = some (.bool false) := f0.cell 2
  have g0 := Blk.new V 39 #[.int .i64 0, .int .i64 (x + 1), .int .i64 y, .int .i64 0, .int .i64 (-1), .int .i64 0, .slice none 0 0, .slice none 0 0, .slice none 0 0, .int .i64 0, .int .i64 0, .bool false]
  have hb3 : Below V.heap.size V (V.alloc (.cells #[.int .i64 0, .int .i64 (x + 1), .int .i64 y, .int .i64 0, .int .i64 (-1), .int .i64 0, .slice none 0 0, .slice none 0 0, .slice none 0 0, .int .i64 0, .int .i64 0, .bool false] 39)) := (Below.refl _ V).alloc (Nat.le_refl _) _
  have hs3 : V.heap.size < (V.alloc (.cells #[.int .i64 0, .int .i64 (x + 1), .int .i64 y, .int .i64 0, .int .i64 (-1), .int .i64 0, .slice none 0 0, .slice none 0 0, .slice none 0 0, .int .i64 0, .int .i64 0, .bool false] 39)).heap.size := by simp
  have HB := Lib.hid ((hb1.trans (hb2.mono hb1.size)).trans (hb3.mono (by have := hb1.size; have := hb2.size; omega)))
  have hsV : w.heap.size ≤ V.heap.size := by have := hb1.size; have := hb2.size; omega
  clear hb1 hb2 hb3 f0
  go_upto_region 3 with fail
  clear c0 c1 c2 z1 hx hy
  generalize (V.alloc (.cells #[.int .i64 0, .int .i64 (x + 1), .int .i64 y, .int .i64 0, .int .i64 (-1), .int .i64 0, .slice none 0 0, .slice none 0 0, .slice none 0 0, .int .i64 0, .int .i64 0, .bool false] 39)) = V2 at *
  obtain ⟨g, hg⟩ : ∃ g, V.heap.size = g := ⟨_, rfl⟩
  have HG := Lib.hid (And.intro hg (And.intro g0 (And.intro hs3 hsV)))
  clear g0 hs3 hsV hg
  go_wp2_with fail
  go_loopw [9, 25] (fun _ u25 W => ∃ (k : Nat) (vL : Value), k ≤ 3 ∧ u25 = .int .i64 (k : Nat) ∧ Blk W V.heap.size 39 #[.int .i64 0, .int .i64 (x + 1), .int .i64 y, .int .i64 0, .int .i64 (-1), .int .i64 0, vL, .slice none 0 0, .slice none 0 0, .int .i64 0, .int .i64 0, .bool false] ∧ W.ownsRow w.heap.size 41 3 vL k ((List.range k).flatMap (leC ls0)) ∧ Below w.heap.size w W) (fun _ u25 _ => 4 - (intOf u25).toNat)
  case atStart => exact ⟨0, .slice none 0 0, by omega, rfl, HG.out.2.1, World.ownsRow_nil _ _ _ _, HB.out⟩
  case round =>
    obtain ⟨k, vL, hk, rfl, hB, hrow, hbw⟩ := hrel
    obtain ⟨AL, cL, rfl, _, _, _⟩ := own_slice hrow
    have hgr := hB.lt
    have HR := Lib.hid (And.intro hB (And.intro hrow hbw))
    have c6 : wr.cell? ⟨V.heap.size, 6, none⟩ = some (.slice AL k cL) := hB.cell 6
    clear hB hrow hbw
    by_cases hlt : k < 3
    · have hlt' : (k : Int) < 3 := by omega
      have hr2 := own_alloc HR.out.2.1 (.cells #[.int .i64 (k : Nat), .int .i64 0, .int .i64 0] 41)
      have her := elem_reads wr #[.int .i64 (k : Nat), .int .i64 0, .int .i64 0] 41
      have hs2 : (wr.alloc (.cells #[.int .i64 (k : Nat), .int .i64 0, .int .i64 0] 41)).heap.size = wr.heap.size + 1 := by simp
      have hB2 := HR.out.1.alloc (.cells #[.int .i64 (k : Nat), .int .i64 0, .int .i64 0] 41)
      have hws := HR.out.2.2.size
      have hbA := HR.out.2.2.alloc hws (.cells #[.int .i64 (k : Nat), .int .i64 0, .int .i64 0] 41)
      have HA := Lib.hid (And.intro hr2 (And.intro her (And.intro hs2 (And.intro hB2 hbA))))
      clear hr2 her hs2 hB2 hbA
      go_wp2_with (at_builtin; go_must (refine wpList_append_any (wr.alloc (.cells #[.int .i64 (k : Nat), .int .i64 0, .int .i64 0] 41)) rfl (.tmp 32) (.tmp 35) _ rfl w.heap.size 41 i0 _ 3 24 Try.underlying33 HII.out.1 HII.out.2.1 HII.out.2.2.1 HII.out.2.2.2 rfl (by omega) (.slice AL k cL) k ((List.range k).flatMap (leC ls0)) rfl HA.out.1 (wr.heap.size + 1) (some ⟨wr.heap.size, 0, none⟩) 1 1 (leC ls0 k) rfl HA.out.2.1 (by simp [leC, Value.oneCell']) (by simp only [maxLen]; omega) (by omega) (by have := HA.out.2.2.1; omega) ?_; intro v9 w9 ho9 hg9 hv9; have k9 := HA.out.2.2.2.1.grown hg9 (fun e9 => tag_ne HA.out.1 HA.out.2.2.2.1 (by decide) _ e9.symm rfl); have c9 : w9.cell? ⟨V.heap.size, 6, none⟩ = some (.slice AL k cL) := k9.cell 6; have f9 : w9.frozen? ⟨V.heap.size, 6, none⟩ = false := k9.frozen 6; obtain ⟨A9, c9', rfl, _, _, _⟩ := own_slice ho9))
      have hz9 := HA.out.2.2.1
      have hg9s := hg9.size
      have hng : (Value.slice A9 (k + 1) c9').ownBlock ≠ some V.heap.size := fun e9 => tag_ne ho9 k9 (by decide) _ e9 rfl
      have hb9 := HA.out.2.2.2.2.grown hg9 (by omega) (fun q hq => own_block_ge HR.out.2.1 q hq)
      go_roundw
      case rel =>
        refine ⟨k + 1, _, by omega, by go_num, k9.set_ 6 _, ?_, hb9.setCell HG.out.2.2.2 _⟩
        rw [lsRow_snoc]
        exact own_far ho9 (p := ⟨V.heap.size, 6, none⟩) hng _
      case measure => simp [intOf]; omega
    · obtain rfl : k = 3 := by omega
      go_wp2_with fail
      refine bodyPost_ret (results_tmp2 rfl _ _ _) rfl ⟨V.heap.size, rfl, x + 1, y, by omega, by omega, ⟨⟨_, _, _, HR.out.1, HR.out.2.1, World.ownsRow_nil _ _ _ _, World.ownsRow_nil _ _ _ _⟩, Nat.le_refl _, HG.out.2.2.2, HR.out.2.2.size, HR.out.2.2⟩⟩
end Go.Proofs.Ytggaaajkbnhofaa
