/- The walk of begins and of its iterator. No condition. -/
import Derived.Test.YtnhemndpnjhbfaaWg
import Derived.Test.YtnhemndpnjhbfaaLibO
import Derived.RangeFuncBound
import Derived.RangeFuncCalls
import Derived.RangeFuncLeaves
import Derived.Shelf.Abstract
import Derived.Shelf.RegionOpen
import Derived.OwnWalkIn
import Derived.TacticsInMore
import Derived.LoopNIn
import Derived.LoopIn
import Derived.BigFrameIn
namespace Go.Proofs.Ytnhemndpnjhbfaa
open Go.RowKit Go.Shelf
attribute [local go_sem] Oper.semAt_some
structure Span where
  e : Int
  f : Int
  t : Int
def encS (s : Span) : List Value := [.int .i64 s.e, .int .i64 s.f, .int .i64 s.t]
def spanV (s : Span) : Value := .agg #[.int .i64 s.e, .int .i64 s.f, .int .i64 s.t]
/-- the slice holds the lineage l -/
def RdS (w : World) (A : Option Addr) (n : Nat) (l : List Span) : Prop := Reads w w.heap.size 3 A n (l.flatMap encS)
def prevS (l : List Span) (i : Nat) : Span := if i = 0 then ⟨0, 0, 0⟩ else l.getD (i - 1) ⟨0, 0, 0⟩
def atS (l : List Span) (i : Nat) : Span := l.getD i ⟨0, 0, 0⟩
theorem prevS_succ (l : List Span) (i : Nat) : prevS l (i + 1) = atS l i := rfl
/-- what a round must keep: what lay below n₀, the iterator's box -/
def BKeep (n₀ B1 : Nat) (A C : World) : Prop := Below n₀ A C ∧ C.heap[B1]? = A.heap[B1]?
set_option maxRecDepth 100000 in
set_option maxHeartbeats 1000000 in
theorem begins1_in (n : Nat) (hn : 1 ≤ n) (A : Option Addr) (lf B1 g off cap n₀ : Nat) (l : List Span) (J Jx : List Nat → World → Prop) (W : World)
    (hJa : ∀ s A C, J s A → Aside (· = W.heap.size) A C → J s C)
    (hY : ∀ pre x W0 W1, J pre W0 → Aside (· = W.heap.size) W0 W1 → W.heap.size < W0.heap.size → W1.heap.size = W0.heap.size + 1 → (∃ k, k < l.length ∧ pre ++ [x] = List.range (k + 1)) → YieldAt Fence.wide (n - 1) Try.prog lf #[spanV (prevS l x), spanV (atS l x)] W1 fun e W' =>
      (e = .returned (.bool true) ∧ J (pre ++ [x]) W' ∧ W'.heap[W.heap.size]? = W1.heap[W.heap.size]? ∧ W'.heap[W0.heap.size]? = W1.heap[W0.heap.size]? ∧ BKeep n₀ B1 W1 W') ∨ (e = .returned (.bool false) ∧ Jx (pre ++ [x]) W'))
    (hB1 : B1 < W.heap.size) (hg : 0 < l.length → A = some ⟨g, off, none⟩ ∧ g < n₀) (hn₀ : n₀ ≤ W.heap.size) (hl : l.length ≤ 1000)
    (h1 : Blk W B1 39 #[.slice A l.length cap])
    (hc : ∀ i, i < l.length → W.cell? ⟨g, off + i * 3, none⟩ = some (.int .i64 (atS l i).e) ∧ W.cell? ⟨g, off + i * 3 + 1, none⟩ = some (.int .i64 (atS l i).f) ∧ W.cell? ⟨g, off + i * 3 + 2, none⟩ = some (.int .i64 (atS l i).t)) (h0 : J [] W) :
    CallsIn Fence.wide n Try.prog 57 #[.func (.yield lf) #[] #[], .pointer (some ⟨B1, 0, none⟩)] W fun e W' => (∃ v, e = .returned v) ∧
      ((∃ ys : List Nat, ys = List.range l.length ∧ J ys W') ∨ (∃ pre : List Nat, (∃ k, k < l.length ∧ pre = List.range (k + 1)) ∧ Jx pre W')) := by
  have b1 := h1.cell 0
  simp only [List.getElem?_toArray, List.getElem?_cons_zero] at b1
  obtain ⟨m, hm⟩ : ∃ m, l.length = m := ⟨_, rfl⟩
  have HJ := Lib.hid hJa
  have HY := Lib.hid hY
  have HC := Lib.hid hc
  have HM := Lib.hid hm
  have HG := Lib.hid hg
  have H1 := Lib.hid h1
  rw [hm] at b1
  rw [hm]
  have hl' : m ≤ 1000 := by omega
  clear hm hJa hY hc h1 hl hg
  refine callsIn_of_wp Try.func57 rfl trivial ?_ rfl
  simp only [Try.ntmps57, List.size_toArray, List.length_cons, List.length_nil, Nat.reduceAdd, Nat.reduceSub, Array.replicate_succ, Array.replicate_zero, List.push_toArray, List.append_toArray, List.nil_append, List.cons_append]
  gi_wp2
  gi_loopw [9] (fun i wr => ∃ k : Nat, k ≤ m ∧ i = .int .i64 k ∧ J (List.range k) wr ∧ Blk wr W.heap.size 68 #[.int .i64 (prevS l k).e, .int .i64 (prevS l k).f, .int .i64 (prevS l k).t] ∧ Below n₀ W wr) (fun i _ => m - (intOf i).toNat)
  case atStart => exact ⟨0, by omega, rfl, HJ.out _ _ _ h0 ((Aside.refl _ _).alloc _), Blk.new W 68 _, (Below.refl _ _).alloc hn₀ _⟩
  case round =>
    obtain ⟨k, hk, rfl, hJ, hK, hb⟩ := hrel
    have HJ0 := Lib.hid hJ
    have HK := Lib.hid hK
    have p0 := hK.cell 0
    have p1 := hK.cell 1
    have p2 := hK.cell 2
    have f0 := hK.frozen 0
    have f1 := hK.frozen 1
    have f2 := hK.frozen 2
    have hlt := hK.lt
    simp only [List.getElem?_toArray, List.getElem?_cons_zero, List.getElem?_cons_succ] at p0 p1 p2
    clear hJ hK
    by_cases c : k < m
    · have hkl : k < l.length := by rw [HM.out]; exact c
      obtain ⟨rfl, hg⟩ := HG.out (by omega)
      obtain ⟨d0, d1, d2⟩ := HC.out k hkl
      replace d0 := (hb.cell (p := ⟨g, off + k * 3, none⟩) hg).trans d0
      replace d1 := (hb.cell (p := ⟨g, off + k * 3 + 1, none⟩) hg).trans d1
      replace d2 := (hb.cell (p := ⟨g, off + k * 3 + 2, none⟩) hg).trans d2
      have hyy := HY.out (List.range k) k wr (wr.alloc (.cells #[.int .i64 (atS l k).e, .int .i64 (atS l k).f, .int .i64 (atS l k).t] 68)) HJ0.out ((Aside.refl _ _).alloc _) hlt (by simp) ⟨k, hkl, by rw [List.range_succ]⟩
      obtain ⟨fn, tmps, assign, body, hy, hRd⟩ := hyy
      simp only [spanV] at hy
      gi_wp2
      refine hRd.mono ?_
      rintro e W3 (⟨rfl, hJ3, hq1, hq2, hk3⟩ | ⟨rfl, hJx3⟩)
      · have hK3 : Blk W3 W.heap.size 68 #[.int .i64 (prevS l k).e, .int .i64 (prevS l k).f, .int .i64 (prevS l k).t] := hq1.trans (HK.out.alloc _)
        have hX3 : Blk W3 wr.heap.size 68 #[.int .i64 (atS l k).e, .int .i64 (atS l k).f, .int .i64 (atS l k).t] := hq2.trans (Blk.new _ _ _)
        have x0 := hX3.cell 0
        have x1 := hX3.cell 1
        have x2 := hX3.cell 2
        have g0 := hK3.frozen 0
        have g1 := hK3.frozen 1
        have g2 := hK3.frozen 2
        have y0 := hK3.cell 0
        have y1 := hK3.cell 1
        have y2 := hK3.cell 2
        simp only [List.getElem?_toArray, List.getElem?_cons_zero, List.getElem?_cons_succ] at x0 x1 x2 y0 y1 y2
        have HK3 := Lib.hid hK3
        have HJ3 := Lib.hid hJ3
        have HB3 := Lib.hid ((hb.alloc (Nat.le_trans hn₀ hb.size) _).trans hk3.1)
        have hlt3 := HK3.out.lt
        clear hK3 hJ3 hX3 hq1 hq2 hk3 hb hy d0 d1 d2 p0 p1 p2 f0 f1 f2 b1
        gi_wp2
        go_roundw
        case rel =>
          refine ⟨k + 1, by omega, by go_num, ?_, ((HK3.out.set_ 0 _).set_ 1 _).set_ 2 _, ((HB3.out.setCell (p := ⟨W.heap.size, 0, none⟩) hn₀ _).setCell (p := ⟨W.heap.size, 1, none⟩) hn₀ _).setCell (p := ⟨W.heap.size, 2, none⟩) hn₀ _⟩
          rw [List.range_succ]
          exact HJ.out _ _ _ HJ3.out ((((Aside.refl (· = W.heap.size) W3).set (p := ⟨W.heap.size, 0, none⟩) rfl _).set (p := ⟨W.heap.size, 1, none⟩) rfl _).set (p := ⟨W.heap.size, 2, none⟩) rfl _)
        case measure => simp [intOf]; omega
      · clear hb hy d0 d1 d2 p0 p1 p2 f0 f1 f2 b1
        gi_wp2
        refine bodyPost_ret (results_none rfl _ _ _) rfl ?_
        exact ⟨⟨_, rfl⟩, .inr ⟨_, ⟨k, c, rfl⟩, by rw [List.range_succ]; exact hJx3⟩⟩
    · have hkm : k = m := by omega
      have HKM := Lib.hid hkm
      clear hkm
      gi_wp2
      go_end0
      exact ⟨⟨_, rfl⟩, .inl ⟨_, rfl, by rw [← HKM.out]; exact HJ0.out⟩⟩
end Go.Proofs.Ytnhemndpnjhbfaa
