/- The walk of payload. Condition: the number is a byte. -/
import Derived.Test.YtjaoppopfeonhaaWr
namespace Go.Proofs.Ytjaoppopfeonhaa
open Go.RowKit
/-- the payload of a step -/
def payM (s k : Nat) : List Nat := k :: List.range (s % 9)
theorem u8_wrap {k : Nat} (hk : k < 256) : IntKind.u8.wrap (k : Int) = (k : Int) := IntWalk.u8_in _ (by omega)
theorem pay_snoc (k j : Nat) : u8s (k :: List.range (j + 1)) = u8s (k :: List.range j) ++ [.int .u8 (j : Int)] := by
  rw [List.range_succ]
  simp [u8s]
set_option linter.unusedSimpArgs false in
set_option maxRecDepth 100000 in
set_option maxHeartbeats 2000000 in
theorem payload_any (s wt k : Nat) (w : World) (hs : s < 256) (hk : k < 256) :
    Calls Try.prog 24 #[.agg #[.int .u8 (s : Nat), .int .u8 (wt : Nat)], .int .i64 (k : Nat)] w fun e w' => (∃ v, e = .returned v ∧ w'.ownsRow w.heap.size 5 1 v (payM s k).length (u8s (payM s k))) ∧ Below w.heap.size w w' := by
  obtain ⟨i0, hi0, hz0, hz1, hz2⟩ := info_parts info5b
  have HI := Lib.hid (And.intro hi0 (And.intro hz0 (And.intro hz1 hz2)))
  clear hi0 hz0 hz1 hz2
  have kw : IntKind.u8.wrap (k : Int) = (k : Int) := u8_wrap hk
  obtain ⟨q, hq⟩ : ∃ q, s % 9 = q := ⟨_, rfl⟩
  have hq9 : q < 9 := by rw [← hq]; exact Nat.mod_lt _ (by omega)
  have hrem : (s : Int).tmod 9 = (q : Int) := by rw [← hq, Int.tmod_eq_emod_of_nonneg (by omega)]; simp
  have HP : Hid (payM s k = k :: List.range q) := by show _ = _; unfold payM; rw [hq]
  have hb0 : Below w.heap.size w ((w.alloc (.cells #[.int .u8 s, .int .u8 wt] 58)).alloc (.cells #[.int .u8 k] 5)) := ((Below.refl _ _).alloc (Nat.le_refl _) _).alloc (by simp) _
  have g0 : Blk ((w.alloc (.cells #[.int .u8 s, .int .u8 wt] 58)).alloc (.cells #[.int .u8 k] 5)) w.heap.size 58 #[.int .u8 s, .int .u8 wt] := (Blk.new w 58 #[.int .u8 s, .int .u8 wt]).alloc _
  have g1 := Blk.new (w.alloc (.cells #[.int .u8 s, .int .u8 wt] 58)) 5 #[.int .u8 k]
  rw [World.size_alloc] at g1
  have hs0 : w.heap.size + 2 ≤ ((w.alloc (.cells #[.int .u8 s, .int .u8 wt] 58)).alloc (.cells #[.int .u8 k] 5)).heap.size := by simp
  have hr0 : ((w.alloc (.cells #[.int .u8 s, .int .u8 wt] 58)).alloc (.cells #[.int .u8 k] 5)).ownsRow (w.heap.size + 1) 5 1 (.slice (some ⟨w.heap.size + 1, 0, none⟩) 1 1) 1 (u8s (k :: List.range 0)) := ⟨rfl, .inr ⟨_, 1, _, rfl, Nat.le_refl _, g1, Nat.le_refl _, by unfold maxLen; omega, rfl, rfl⟩⟩
  have H0 := Lib.hid (And.intro hb0 (And.intro g0 hr0))
  clear hb0 g0 g1 hr0 hq
  go_enter Try.func24, Try.ntmps24
  go_upto_region 2 with fail
  generalize ((w.alloc (.cells #[.int .u8 s, .int .u8 wt] 58)).alloc (.cells #[.int .u8 k] 5)) = V at *
  go_wp2_with fail
  go_loopw [5, 6] (fun u5 u6 W => ∃ j : Nat, j ≤ q ∧ u6 = .int .i64 (j : Nat) ∧ W.ownsRow (w.heap.size + 1) 5 1 u5 (j + 1) (u8s (k :: List.range j)) ∧ Below w.heap.size w W ∧ Blk W w.heap.size 58 #[.int .u8 s, .int .u8 wt] ∧ w.heap.size + 1 ≤ W.heap.size) (fun _ u6 _ => q + 1 - (intOf u6).toNat)
  case atStart => exact ⟨0, by omega, rfl, H0.out.2.2, H0.out.1, H0.out.2.1, by omega⟩
  case round =>
    obtain ⟨j, hj, rfl, hrow, hb, hB, hsz⟩ := hrel
    obtain ⟨A5, c5, rfl, hca, hcm, _⟩ := own_slice hrow
    have s0 : wr.cell? ⟨w.heap.size, 0, none⟩ = some (.int .u8 (s : Nat)) := hB.cell 0
    have HR := Lib.hid (And.intro hrow (And.intro hb hB))
    have hkwq : IntKind.u8.wrap (q : Int) = (q : Int) := u8_wrap (by omega)
    clear hrow hb hB
    by_cases hlt : j < q
    · have hlt' : (j : Int) < q := by omega
      have kwj : IntKind.u8.wrap (j : Int) = (j : Int) := u8_wrap (by omega)
      have hr2 := own_alloc HR.out.1 (.cells #[.int .u8 j] 5)
      have her := elem_reads wr #[.int .u8 j] 5
      have hs2 : (wr.alloc (.cells #[.int .u8 j] 5)).heap.size = wr.heap.size + 1 := by simp
      go_wp2_with (at_builtin; go_must (refine wpList_append_any (wr.alloc (.cells #[.int .u8 j] 5)) rfl (.tmp 18) (.tmp 21) _ rfl (w.heap.size + 1) 5 i0 _ 1 1 Try.underlying37 HI.out.1 HI.out.2.1 HI.out.2.2.1 HI.out.2.2.2 rfl (by omega) (.slice A5 (j + 1) c5) (j + 1) (u8s (k :: List.range j)) rfl hr2 (wr.heap.size + 1) (some ⟨wr.heap.size, 0, none⟩) 1 1 [.int .u8 j] rfl her (by simp [Value.oneCell']) (by simp only [maxLen]; omega) (by omega) (by omega) ?_; intro v9 w9 ho9 hg9 hv9))
      go_roundw
      case rel =>
        refine ⟨j + 1, by omega, by go_num, by rw [pay_snoc]; exact ho9, (HR.out.2.1.alloc HR.out.2.1.size _).grown hg9 (by omega) (fun g hg => by have := own_block_ge HR.out.1 g hg; omega), (HR.out.2.2.alloc _).grown hg9 (fun e => by have := own_block_ge HR.out.1 _ e.symm; omega), by have := hg9.size; omega⟩
      case measure => simp [intOf]; omega
    · obtain rfl : j = q := by omega
      go_wp2_with fail
      go_ret
      refine ⟨⟨_, rfl, ?_⟩, HR.out.2.1⟩
      rw [HP.out]
      have h := own_base HR.out.1 (show w.heap.size ≤ w.heap.size + 1 by omega)
      simpa using h
end Go.Proofs.Ytjaoppopfeonhaa
