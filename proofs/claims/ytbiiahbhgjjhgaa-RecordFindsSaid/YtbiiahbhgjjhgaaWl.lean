/- The walks of Chunk and its iterator, with a period of four. Condition: at most 5000 bytes. -/
import Derived.Test.YtbiiahbhgjjhgaaWh
import Derived.RangeFuncNested
import Derived.RangeFuncBound
import Derived.RangeFuncCalls
import Derived.RangeFuncLeaves
import Derived.Shelf.Abstract
import Derived.Shelf.RegionOpen
import Derived.OwnWalkIn
import Derived.TacticsInMore
import Derived.LoopNIn
import Derived.LoopIn
import Derived.BigFrameIn
import Derived.Laws.EntriesVeiled
namespace Go.Proofs.Ytbiiahbhgjjhgaa
open Go.RowKit Go.Shelf
attribute [local go_sem] Oper.semAt_some
theorem Chunk_any (A : Option Addr) (m c : Nat) (w : World) :
    Calls Try.prog 26 #[.slice A m c, .int .i64 4] w fun e w' => e = .returned (.func (.func 35) #[] #[.pointer (some ⟨w.heap.size, 0, none⟩), .pointer (some ⟨w.heap.size + 1, 0, none⟩)]) ∧ w' = (w.alloc (.cells #[.slice A m c] 25)).alloc (.cells #[.int .i64 4] 3) := by
  go_enter Try.func26, Try.ntmps26
  go_wp2_with fail
  go_ret
  exact ⟨rfl, rfl⟩
theorem range_pre {k m : Nat} (h : k ≤ m) : List.range k <+: List.range m := by
  have h1 := List.take_prefix k (List.range m)
  rw [List.take_range, Nat.min_eq_left h] at h1
  exact h1
/-- the two boxes of Chunk are as they were -/
def BK (B : Nat) (W W' : World) : Prop := W.heap.size ≤ W'.heap.size ∧ W'.heap[B]? = W.heap[B]? ∧ W'.heap[B + 1]? = W.heap[B + 1]?
theorem BK.trans {B : Nat} {X Y Z : World} (h : BK B X Y) (h' : BK B Y Z) : BK B X Z := ⟨Nat.le_trans h.1 h'.1, h'.2.1.trans h.2.1, h'.2.2.trans h.2.2⟩
theorem BK.refl (B : Nat) (W : World) : BK B W W := ⟨Nat.le_refl _, rfl, rfl⟩
theorem BK.of_below {B m : Nat} {W W' : World} (h : Below m W W') (hm : B + 2 ≤ m) : BK B W W' := ⟨h.size, h.block _ (by omega), h.block _ (by omega)⟩
theorem BK.b {B : Nat} {w : World} (hm : B + 2 ≤ w.heap.size) (W : World) (l : Nat) (o o' : Obj) (hl : w.heap.size ≤ l) (h : W.heap[l]? = some o) (ho : o.isCells = false) (hw : o.isWalk = false) : BK B W (W.putObj l o') :=
  BK.of_below (belowK_b (Nat.le_refl _) W l o o' hl h ho hw) hm
theorem BK.cell {B k : Nat} {W W' : World} (h : BK B W W') (hk : k = B ∨ k = B + 1) (t : TypeId) (cs : Array Value) (hb : Blk W k t cs) : Blk W' k t cs := by
  rcases hk with rfl | rfl
  · exact h.2.1.trans hb
  · exact h.2.2.trans hb
/-- how many chunks; the length of chunk i -/
def nCh (m : Nat) : Nat := (m + 3) / 4
def lCh (m i : Nat) : Nat := if 4 * i + 4 ≤ m then 4 else m - 4 * i
set_option maxRecDepth 100000 in
set_option maxHeartbeats 2000000 in
theorem chunk1_in (n : Nat) (hn : 1 ≤ n) (l B m c g off : Nat) (A : Option Addr) (hA : 0 < m → A = some ⟨g, off, none⟩) (hm : m ≤ 5000) (hcm : m ≤ c) (J Jx : List {i : Nat // i < nCh m} → World → Prop) (hJd : ∀ s W, J s W → J s W.drew)
    (hY : ∀ pre x W, J pre W → pre.length < nCh m → YieldAt Fence.wide (n - 1) Try.prog l #[.slice (some ⟨g, off + 4 * x.1, none⟩) (lCh m x.1) (lCh m x.1)] W fun e W' =>
      (e = .returned (.bool true) ∧ J (pre ++ [x]) W' ∧ BK B W W') ∨ (e = .returned (.bool false) ∧ Jx (pre ++ [x]) W'))
    (W : World) (hBs : Blk W B 25 #[.slice A m c]) (hB1 : Blk W (B + 1) 3 #[.int .i64 4]) (h0 : J [] W) :
    CallsIn Fence.wide n Try.prog 35 #[.func (.yield l) #[] #[], .pointer (some ⟨B, 0, none⟩), .pointer (some ⟨B + 1, 0, none⟩)] W fun e W' => (∃ v, e = .returned v) ∧
      ((∃ ys : List {i : Nat // i < nCh m}, ys.map Subtype.val = List.range (nCh m) ∧ J ys W') ∨ (∃ pre : List {i : Nat // i < nCh m}, pre.map Subtype.val <+: List.range (nCh m) ∧ Jx pre W')) := by
  refine callsIn_of_wp Try.func35 rfl trivial ?_ rfl
  simp only [Try.ntmps35, List.size_toArray, List.length_cons, List.length_nil, Nat.reduceAdd, Nat.reduceSub, Array.replicate_succ, Array.replicate_zero, List.push_toArray, List.append_toArray, List.nil_append, List.cons_append]
  gi_wp2
  gi_loopw [4] (fun i wr => ∃ (k : Nat) (pre : List {i : Nat // i < nCh m}), k ≤ nCh m ∧ i = .int .i64 (4 * k : Nat) ∧ pre.map Subtype.val = List.range k ∧ J pre wr ∧ BK B W wr)
    (fun i _ => 4 * nCh m - (intOf i).toNat)
  case atStart => exact ⟨0, [], Nat.zero_le _, rfl, rfl, h0, BK.refl _ _⟩
  case round =>
    obtain ⟨k, pre, hk, rfl, hpre, hJs, hnx⟩ := hrel
    have k0 := hnx.cell (.inl rfl) _ _ hBs
    have k1 := hnx.cell (.inr rfl) _ _ hB1
    have hpl : pre.length = k := by have h := congrArg List.length hpre; simpa using h
    have c0 : wr.cell? ⟨B, 0, none⟩ = some (.slice A m c) := k0.cell 0
    have c1 : wr.cell? ⟨B + 1, 0, none⟩ = some (.int .i64 4) := k1.cell 0
    have HPR := Lib.hid hpre
    have HK1 := Lib.hid k1
    have HNX := Lib.hid hnx
    clear hpre k0 k1 hnx
    have hnc : Hid (nCh m = (m + 3) / 4) := rfl
    by_cases hlt : 4 * k < m
    · have ik : ((4 * k : Nat) : Int) < m := by omega
      have hlk : k < nCh m := by rw [hnc.out]; omega
      obtain rfl := hA (by omega)
      obtain ⟨fn, tmps, assign, body, hy, hRd⟩ := hY pre ⟨k, hlk⟩ wr.drew (hJd _ _ hJs) (by omega)
      have hk0 : (0 : Int) ≤ ((4 * k : Nat) : Int) := by omega
      obtain ⟨i, hi⟩ : ∃ i, 4 * k = i := ⟨_, rfl⟩
      have HII := Lib.hid hi
      change (Instr.yield l #[.slice (some ⟨g, off + 4 * k, none⟩) (lCh m k) (lCh m k)]).run Try.prog wr.drew = _ at hy
      have hik : k * 4 = i := by omega
      by_cases h4 : i + 4 ≤ m
      · have hl4 : lCh m k = 4 := by unfold lCh; rw [if_pos (by omega)]
        rw [hl4, hi] at hy
        rw [hi] at hk0 ik hlt ⊢
        have h4' : (4 : Int) ≤ ((m : Int) - i) := by omega
        clear hi hl4
        gi_wp2
        gi_region
        have c0' : wr.drew.cell? ⟨B, 0, none⟩ = some (.slice (some ⟨g, off, none⟩) m c) := c0
        gi_wp2
        refine hRd.mono ?_
        rintro e W3 (⟨rfl, hJ3, hk3⟩ | ⟨rfl, hJx3⟩)
        · have c1'' : W3.cell? ⟨B + 1, 0, none⟩ = some (.int .i64 4) := (hk3.cell (.inr rfl) 3 #[.int .i64 4] HK1.out).cell 0
          gi_wp2
          go_roundw
          case rel => exact ⟨k + 1, _, by omega, by rw [← HII.out]; go_num, by rw [List.map_append, HPR.out, List.range_succ]; rfl, hJ3, HNX.out.trans (BK.trans (BK.of_below (m := B + 2) (Below.refl _ wr).drew (Nat.le_refl _)) hk3)⟩
          case measure => simp [intOf]; omega
        · gi_wp2
          refine bodyPost_ret (results_none rfl _ _ _) rfl ?_
          exact ⟨⟨_, rfl⟩, .inr ⟨_, by rw [List.map_append, HPR.out]; show List.range k ++ [k] <+: _; rw [← List.range_succ]; exact range_pre (by omega), hJx3⟩⟩
      · have hl4 : lCh m k = m - i := by unfold lCh; rw [if_neg (by omega), hi]
        rw [hl4, hi] at hy
        rw [hi] at hk0 ik hlt ⊢
        clear hi hl4
        obtain ⟨z, hz⟩ : ∃ z, m - i = z := ⟨_, rfl⟩
        have hzm : i + z = m := by omega
        have hzc : i + z ≤ c := by omega
        have HZ := Lib.hid hz
        have hz4 : (if ((z : Nat) : Int) < 4 then ((z : Nat) : Int) else 4) = (z : Int) := by rw [if_pos (by omega)]
        have HZ4 := Lib.hid hz4
        clear hz hz4
        gi_wp2
        gi_region
        rw [HZ.out]
        try rw [HZ4.out]
        have c0' : wr.drew.cell? ⟨B, 0, none⟩ = some (.slice (some ⟨g, off, none⟩) m c) := c0
        gi_wp2
        refine hRd.mono ?_
        rintro e W3 (⟨rfl, hJ3, hk3⟩ | ⟨rfl, hJx3⟩)
        · have c1'' : W3.cell? ⟨B + 1, 0, none⟩ = some (.int .i64 4) := (hk3.cell (.inr rfl) 3 #[.int .i64 4] HK1.out).cell 0
          gi_wp2
          go_roundw
          case rel => exact ⟨k + 1, _, by omega, by rw [← HII.out]; go_num, by rw [List.map_append, HPR.out, List.range_succ]; rfl, hJ3, HNX.out.trans (BK.trans (BK.of_below (m := B + 2) (Below.refl _ wr).drew (Nat.le_refl _)) hk3)⟩
          case measure => simp [intOf]; omega
        · gi_wp2
          refine bodyPost_ret (results_none rfl _ _ _) rfl ?_
          exact ⟨⟨_, rfl⟩, .inr ⟨_, by rw [List.map_append, HPR.out]; show List.range k ++ [k] <+: _; rw [← List.range_succ]; exact range_pre (by omega), hJx3⟩⟩
    · have hkl : k = nCh m := by rw [hnc.out] at hk ⊢; omega
      gi_wp2
      go_end0
      exact ⟨⟨_, rfl⟩, .inl ⟨_, by rw [HPR.out, hkl], hJs⟩⟩
theorem chunk1_stops (n : Nat) (hn : 1 ≤ n) (B m c g off : Nat) (A : Option Addr) (hA : 0 < m → A = some ⟨g, off, none⟩) (hm : m ≤ 5000) (hcm : m ≤ c) (w : World) (hBs : Blk w B 25 #[.slice A m c]) (hB1 : Blk w (B + 1) 3 #[.int .i64 4]) :
    SeqStopsK Fence.wide n Try.prog 35 #[.pointer (some ⟨B, 0, none⟩), .pointer (some ⟨B + 1, 0, none⟩)] (fun x : {i : Nat // i < nCh m} => #[Value.slice (some ⟨g, off + 4 * x.1, none⟩) (lCh m x.1) (lCh m x.1)]) (BK B) (fun ys => ys.map Subtype.val = List.range (nCh m)) (fun pre => pre.map Subtype.val <+: List.range (nCh m)) (nCh m) w := fun l J Jx W hW hJ _ hY h0 =>
  chunk1_in n hn l B m c g off A hA hm hcm J Jx (fun s W9 h => hJ s W9 W9.drew none h ⟨rfl, rfl, rfl, Nat.le_refl _, fun _ _ _ => rfl⟩ (fun _ h => by cases h)) hY W (hBs.below hW hBs.lt) (hB1.below hW hB1.lt) h0
theorem enters35 : ∀ (args : Array Value) (w : World), (callFunc 35 args).run Try.prog w = .ok (.enter 35 args) w := enters_of Try.func35 (by kernel_rfl) rfl
end Go.Proofs.Ytbiiahbhgjjhgaa
