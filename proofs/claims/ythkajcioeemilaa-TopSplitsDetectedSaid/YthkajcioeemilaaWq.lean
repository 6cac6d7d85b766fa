/- The iterator of the pairs of two: one pair, (0, 1). No condition. -/
import Derived.Test.YthkajcioeemilaaWn
import Derived.Test.YthkajcioeemilaaLibS
import Derived.RangeFuncNested
import Derived.RangeFuncBound
import Derived.RangeFuncCalls
import Derived.RangeFuncLeaves
import Derived.OwnWalkIn
import Derived.TacticsInMore
import Derived.LoopIn
import Derived.Shelf.Abstract
import Derived.Shelf.RegionOpen
namespace Go.Proofs.Ythkajcioeemilaa
open Go.RowKit Go.Shelf
attribute [local go_sem] Oper.semAt_some
/-- the iterator's own box is as it was -/
def BK (B : Nat) (W W' : World) : Prop := W.heap.size ≤ W'.heap.size ∧ W'.heap[B]? = W.heap[B]?
theorem BK.trans {B : Nat} {X Y Z : World} (h : BK B X Y) (h' : BK B Y Z) : BK B X Z := ⟨Nat.le_trans h.1 h'.1, h'.2.trans h.2⟩
theorem BK.refl (B : Nat) (W : World) : BK B W W := ⟨Nat.le_refl _, rfl⟩
theorem BK.of_below {B m : Nat} {W W' : World} (h : Below m W W') (hm : B < m) : BK B W W' := ⟨h.size, h.block _ hm⟩
theorem BK.b {B : Nat} {w : World} (hm : B < w.heap.size) (W : World) (l : Nat) (o o' : Obj) (hl : w.heap.size ≤ l) (h : W.heap[l]? = some o) (ho : o.isCells = false) (hw : o.isWalk = false) : BK B W (W.putObj l o') :=
  BK.of_below (belowK_b (Nat.le_refl _) W l o o' hl h ho hw) hm
theorem BK.blk {B : Nat} {W W' : World} (h : BK B W W') {t : TypeId} {cs : Array Value} (hb : Blk W B t cs) : Blk W' B t cs := h.2.trans hb
set_option linter.unusedSimpArgs false in
set_option maxRecDepth 100000 in
set_option maxHeartbeats 2000000 in
theorem pair_in (n : Nat) (hn : 1 ≤ n) (l Bs : Nat) (J Jx : List Unit → World → Prop)
    (hY : ∀ pre x W, J pre W → pre.length < 1 → YieldAt Fence.wide (n - 1) Try.prog l #[.int .i64 0, .int .i64 1] W fun e W' =>
      (e = .returned (.bool true) ∧ J (pre ++ [x]) W' ∧ BK Bs W W') ∨ (e = .returned (.bool false) ∧ Jx (pre ++ [x]) W'))
    (W : World) (hBs : Blk W Bs 3 #[.int .i64 2]) (h0 : J [] W) :
    CallsIn Fence.wide n Try.prog 26 #[.func (.yield l) #[] #[], .pointer (some ⟨Bs, 0, none⟩)] W fun e W' => (∃ v, e = .returned v) ∧
      ((∃ ys, ys = [()] ∧ J ys W') ∨ (∃ pre, pre <+: [()] ∧ Jx pre W')) := by
  refine callsIn_of_wp Try.func26 rfl trivial ?_ rfl
  simp only [Try.ntmps26, List.size_toArray, List.length_cons, List.length_nil, Nat.reduceAdd, Nat.reduceSub, Array.replicate_succ, Array.replicate_zero, List.push_toArray, List.append_toArray, List.nil_append, List.cons_append]
  have HBS := Lib.hid hBs
  have c0 : W.cell? ⟨Bs, 0, none⟩ = some (.int .i64 2) := hBs.cell 0
  clear hBs
  gi_wp2
  gi_loopw [3, 4, 6] (fun _ _ u6 wr => ∃ k : Nat, k ≤ 2 ∧ u6 = .int .i64 k ∧ J (if k = 0 then [] else [()]) wr ∧ BK Bs W wr) (fun _ _ u6 _ => 3 - (intOf u6).toNat)
  case atStart => exact ⟨0, Nat.zero_le _, rfl, h0, BK.refl _ _⟩
  case round =>
    obtain ⟨k, hk, rfl, hJ, hnx⟩ := hrel
    rcases (show k = 0 ∨ k = 1 ∨ k = 2 by omega) with rfl | rfl | rfl
    · have c0 : wr.cell? ⟨Bs, 0, none⟩ = some (.int .i64 2) := (hnx.blk HBS.out).cell 0
      gi_wp2
      gi_loopw [4] (fun u4 wr => ∃ k : Nat, 1 ≤ k ∧ k ≤ 2 ∧ u4 = .int .i64 k ∧ J (if k = 1 then [] else [()]) wr ∧ BK Bs W wr) (fun u4 _ => 3 - (intOf u4).toNat)
      case atStart => exact ⟨1, by omega, by omega, rfl, hJ, hnx⟩
      case round =>
        obtain ⟨k, hk1, hk2, rfl, hJ, hnx⟩ := hrel
        have c0 : wr.cell? ⟨Bs, 0, none⟩ = some (.int .i64 2) := (hnx.blk HBS.out).cell 0
        rcases (show k = 1 ∨ k = 2 by omega) with rfl | rfl
        · obtain ⟨fn, tmps, assign, body, hy, hRd⟩ := hY [] () _ hJ (by simp)
          gi_wp2
          refine hRd.mono ?_
          rintro e W3 (⟨rfl, hJ3, hk3⟩ | ⟨rfl, hJx3⟩)
          · gi_wp2
            go_roundw
            case rel => exact ⟨2, by omega, by omega, by simp, hJ3, hnx.trans hk3⟩
            case measure => simp [intOf]
          · gi_wp2
            refine bodyPost_ret (results_none rfl _ _ _) rfl ?_
            exact ⟨⟨_, rfl⟩, .inr ⟨_, by simp, hJx3⟩⟩
        · gi_wp2
          go_roundw
          case rel => exact ⟨1, by omega, by simp, hJ, hnx⟩
          case measure => simp [intOf]
    · have c0 : wr.cell? ⟨Bs, 0, none⟩ = some (.int .i64 2) := (hnx.blk HBS.out).cell 0
      gi_wp2
      gi_loopw [4] (fun u4 wr => u4 = .int .i64 2 ∧ J [()] wr ∧ BK Bs W wr) (fun _ _ => 0)
      case atStart => exact ⟨rfl, hJ, hnx⟩
      case round =>
        obtain ⟨rfl, hJ, hnx⟩ := hrel
        have c0 : wr.cell? ⟨Bs, 0, none⟩ = some (.int .i64 2) := (hnx.blk HBS.out).cell 0
        gi_wp2
        go_roundw
        case rel => exact ⟨2, by omega, by simp, hJ, hnx⟩
        case measure => simp [intOf]
    · have c0 : wr.cell? ⟨Bs, 0, none⟩ = some (.int .i64 2) := (hnx.blk HBS.out).cell 0
      gi_wp2
      go_end0
      exact ⟨⟨_, rfl⟩, .inl ⟨_, rfl, hJ⟩⟩
theorem pair_stops (n : Nat) (hn : 1 ≤ n) (Bs : Nat) (w : World) (hBs : Blk w Bs 3 #[.int .i64 2]) :
    SeqStopsK Fence.wide n Try.prog 26 #[.pointer (some ⟨Bs, 0, none⟩)] (fun _ : Unit => #[Value.int .i64 0, .int .i64 1]) (BK Bs) (fun ys => ys = [()]) (fun pre => pre <+: [()]) 1 w := fun l J Jx W hW _ _ hY h0 =>
  pair_in n hn l Bs J Jx hY W (hBs.below hW hBs.lt) h0
theorem pairs_ok (n : Nat) (w : World) : Calls Try.prog 13 #[.int .i64 n] w fun e w' => e = .returned (.func (.func 26) #[] #[.pointer (some ⟨w.heap.size, 0, none⟩)]) ∧ w' = w.alloc (.cells #[.int .i64 n] 3) := by
  go_enter Try.func13, Try.ntmps13
  go_wp2_with fail
  go_ret
  exact ⟨rfl, rfl⟩
theorem enters26 : ∀ (args : Array Value) (w : World), (callFunc 26 args).run Try.prog w = .ok (.enter 26 args) w := enters_of Try.func26 (by kernel_rfl) rfl
end Go.Proofs.Ythkajcioeemilaa
