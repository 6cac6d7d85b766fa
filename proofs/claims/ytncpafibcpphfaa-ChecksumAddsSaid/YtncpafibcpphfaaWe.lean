/- The walks of Digest and its parts. Conditions: the bytes are bytes, at most 1000000 of them. -/
import Derived.Test.YtncpafibcpphfaaLib
import Derived.Test.YtncpafibcpphfaaRows
import Derived.Laws.BitsAllLaws
import Derived.RangeFuncNested
import Derived.RangeFuncBound
import Derived.RangeFuncCalls
import Derived.RangeFuncLeaves
import Derived.Shelf.Abstract
import Derived.Shelf.RegionOpen
import Derived.OwnWalkIn
import Derived.TacticsInMore
import Derived.LoopNIn
import Derived.LoopIn
import Derived.BigFrameIn
namespace Go.Proofs.Ytncpafibcpphfaa
open Go.RowKit Go.Shelf
attribute [local go_sem] Oper.semAt_some
abbrev B8 := { x : Nat // x < 256 }
def b8s (l : List B8) : List Value := l.map fun x => .int .u8 (x.1 : Int)
theorem b8s_len (l : List B8) : (b8s l).length = l.length := by simp [b8s]
theorem b8s_get (l : List B8) (k : Nat) (h : k < l.length) : (b8s l)[k]? = some (.int .u8 (l[k].1 : Int)) := by simp [b8s, h]
set_option maxRecDepth 100000 in
set_option maxHeartbeats 2000000 in
theorem dig1_in (n : Nat) (hn : 1 ≤ n) (l Bs n₀ len cap : Nat) (A : Option Addr) (xs : List B8) (hlen : len ≤ 1000000) (J Jx : List B8 → World → Prop)
    (hY : ∀ pre x W, J pre W → pre.length < len → YieldAt Fence.wide (n - 1) Try.prog l #[.int .u8 (x.1 : Int)] W fun e W' =>
      (e = .returned (.bool true) ∧ J (pre ++ [x]) W' ∧ Below n₀ W W') ∨ (e = .returned (.bool false) ∧ Jx (pre ++ [x]) W'))
    (W : World) (hBs : W.cell? ⟨Bs, 0, none⟩ = some (.slice A len cap)) (hR : Reads W n₀ 1 A len (b8s xs)) (h0 : J [] W) :
    CallsIn Fence.wide n Try.prog 24 #[.func (.yield l) #[] #[], .pointer (some ⟨Bs, 0, none⟩)] W fun e W' => (∃ v, e = .returned v) ∧
      ((∃ ys, ys = xs ∧ J ys W') ∨ (∃ pre, pre <+: xs ∧ Jx pre W')) := by
  have hl : xs.length = len := by have := hR.1; rw [b8s_len] at this; omega
  have HL := Lib.hid hl
  clear hl
  refine callsIn_of_wp Try.func24 rfl trivial ?_ rfl
  simp only [Try.ntmps24, List.size_toArray, List.length_cons, List.length_nil, Nat.reduceAdd, Nat.reduceSub, Array.replicate_succ, Array.replicate_zero, List.push_toArray, List.append_toArray, List.nil_append, List.cons_append]
  gi_wp2
  gi_loopw [7] (fun i wr => ∃ k : Nat, k ≤ len ∧ i = .int .i64 k ∧ J (xs.take k) wr ∧ Below n₀ W wr)
    (fun i _ => len - (intOf i).toNat)
  case atStart => exact ⟨0, Nat.zero_le _, rfl, h0, Below.refl _ _⟩
  case round =>
    obtain ⟨k, hk, rfl, hJs, hnx⟩ := hrel
    by_cases hlt : k < len
    · obtain ⟨ad, u, rfl, hb, hu, hc⟩ := (hR.below hnx).at_ hlt
      have hkl : k < xs.length := by rw [HL.out]; exact hlt
      rw [b8s_get xs k hkl] at hu
      obtain rfl := Option.some.inj hu
      clear hu
      obtain ⟨fn, tmps, assign, body, hy, hRd⟩ := hY (xs.take k) xs[k] wr hJs (by rw [List.length_take]; omega)
      gi_wp2
      refine hRd.mono ?_
      rintro e W3 (⟨rfl, hJ3, hk3⟩ | ⟨rfl, hJx3⟩)
      · gi_wp2
        go_roundw
        case rel => exact ⟨k + 1, by omega, by simp, by rw [← List.take_append_getElem hkl]; exact hJ3, hnx.trans hk3⟩
        case measure => simp [intOf]; omega
      · gi_wp2
        refine bodyPost_ret (results_none rfl _ _ _) rfl ?_
        exact ⟨⟨_, rfl⟩, .inr ⟨_, List.take_prefix (k + 1) xs, by rw [← List.take_append_getElem hkl]; exact hJx3⟩⟩
    · have hkl : k = len := by omega
      gi_wp2
      go_end0
      rw [List.take_of_length_le (by rw [HL.out]; omega)] at hJs
      exact ⟨⟨_, rfl⟩, .inl ⟨_, rfl, hJs⟩⟩
end Go.Proofs.Ytncpafibcpphfaa
