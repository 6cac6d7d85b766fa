/- The walk of a path's iterator. Conditions: parents are below their children; the cells it reads stay. -/
import Derived.Test.YtehfnanhamaenaaWk
import Derived.Test.YtehfnanhamaenaaMathC
import Derived.RangeFuncNested
import Derived.RangeFuncBound
import Derived.RangeFuncCalls
import Derived.RangeFuncLeaves
import Derived.Shelf.Abstract
import Derived.Shelf.RegionOpen
import Derived.OwnWalkIn
import Derived.TacticsInMore
import Derived.LoopNIn
import Derived.LoopIn
import Derived.BigFrameIn
namespace Go.Proofs.Ytehfnanhamaenaa
open Go.RowKit Go.Shelf
attribute [local go_sem] Oper.semAt_some
/-- what a round must keep: the two boxes, the parents' cells, and what is below n₀ -/
def PKeep (n₀ B1 B2 g off : Nat) (W W' : World) : Prop :=
  Below n₀ W W' ∧ W'.cell? ⟨B1, 0, none⟩ = W.cell? ⟨B1, 0, none⟩ ∧ W'.cell? ⟨B2, 0, none⟩ = W.cell? ⟨B2, 0, none⟩ ∧ ∀ k, W'.cell? ⟨g, off + k * 4, none⟩ = W.cell? ⟨g, off + k * 4, none⟩
theorem PKeep.refl {n₀ B1 B2 g off : Nat} (W : World) : PKeep n₀ B1 B2 g off W W := ⟨Below.refl _ _, rfl, rfl, fun _ => rfl⟩
theorem PKeep.trans {n₀ B1 B2 g off : Nat} {A B C : World} (h : PKeep n₀ B1 B2 g off A B) (h' : PKeep n₀ B1 B2 g off B C) : PKeep n₀ B1 B2 g off A C :=
  ⟨h.1.trans h'.1, h'.2.1.trans h.2.1, h'.2.2.1.trans h.2.2.1, fun k => (h'.2.2.2 k).trans (h.2.2.2 k)⟩
theorem PKeep.of_below {n₀ B1 B2 g off m : Nat} {W W' : World} (h : Below m W W') (h0 : n₀ ≤ m) (h1 : B1 < m) (h2 : B2 < m) (h3 : g < m) : PKeep n₀ B1 B2 g off W W' :=
  ⟨h.mono h0, h.cell (p := ⟨B1, 0, none⟩) h1, h.cell (p := ⟨B2, 0, none⟩) h2, fun k => h.cell (p := ⟨g, off + k * 4, none⟩) h3⟩
set_option maxRecDepth 100000 in
set_option maxHeartbeats 2000000 in
theorem path1_in (n : Nat) (hn : 1 ≤ n) (lf B1 B2 g off cap n₀ : Nat) (l : List Bk) (k : Nat) (hu : Up l) (hk : k < l.length) (J Jx : List { i : Nat // i < l.length } → World → Prop)
    (hY : ∀ pre (x : { i : Nat // i < l.length }) W, J pre W → pre.length < l.length → YieldAt Fence.wide (n - 1) Try.prog lf #[.pointer (some ⟨g, off + x.1 * 4, none⟩)] W fun e W' =>
      (e = .returned (.bool true) ∧ J (pre ++ [x]) W' ∧ PKeep n₀ B1 B2 g off W W') ∨ (e = .returned (.bool false) ∧ Jx (pre ++ [x]) W'))
    (W : World) (h1 : W.cell? ⟨B1, 0, none⟩ = some (.int .i64 k)) (h2 : W.cell? ⟨B2, 0, none⟩ = some (.slice (some ⟨g, off, none⟩) l.length cap))
    (hc : ∀ i, i < l.length → W.cell? ⟨g, off + i * 4, none⟩ = some (.int .i64 (bkAt l i).par)) (h0 : J [] W) :
    CallsIn Fence.wide n Try.prog 39 #[.func (.yield lf) #[] #[], .pointer (some ⟨B1, 0, none⟩), .pointer (some ⟨B2, 0, none⟩)] W fun e W' => (∃ v, e = .returned v) ∧
      ((∃ ys : List { i : Nat // i < l.length }, ys.map Subtype.val = pathL l k ∧ J ys W') ∨ (∃ pre : List { i : Nat // i < l.length }, pre.map Subtype.val <+: pathL l k ∧ Jx pre W')) := by
  refine callsIn_of_wp Try.func39 rfl trivial ?_ rfl
  simp only [Try.ntmps39, List.size_toArray, List.length_cons, List.length_nil, Nat.reduceAdd, Nat.reduceSub, Array.replicate_succ, Array.replicate_zero, List.push_toArray, List.append_toArray, List.nil_append, List.cons_append]
  have hle := pathL_le hu k (by omega)
  gi_wp2
  gi_loopw [4] (fun i wr => ∃ (pre : List { i : Nat // i < l.length }) (j : Int), i = .int .i64 j ∧ -1 ≤ j ∧ j < l.length ∧ pre.map Subtype.val ++ pathL l j = pathL l k ∧ J pre wr ∧ PKeep n₀ B1 B2 g off W wr)
    (fun i _ => (intOf i + 1).toNat)
  case atStart => exact ⟨[], k, rfl, by omega, by omega, rfl, h0, PKeep.refl _⟩
  case round =>
    obtain ⟨pre, j, rfl, hj1, hj2, hp, hJ, hK⟩ := hrel
    by_cases c : j < 0
    · gi_wp2
      go_end0
      rw [pathL_neg l c, List.append_nil] at hp
      exact ⟨⟨_, rfl⟩, .inl ⟨_, hp, hJ⟩⟩
    · obtain ⟨i, rfl⟩ : ∃ i : Nat, j = i := ⟨j.toNat, by omega⟩
      have hi : i < l.length := by omega
      have hui := hu i hi
      have hst := pathL_step hu i hi
      have hplen : pre.length < l.length := by
        have := congrArg List.length hp
        rw [hst] at this
        simp at this
        omega
      rw [hst] at hp
      have b1 : wr.cell? ⟨B1, 0, none⟩ = some (.int .i64 k) := hK.2.1.trans h1
      have b2 : wr.cell? ⟨B2, 0, none⟩ = some (.slice (some ⟨g, off, none⟩) l.length cap) := hK.2.2.1.trans h2
      have hpc : wr.cell? ⟨g, off + i * 4, none⟩ = some (.int .i64 (bkAt l i).par) := (hK.2.2.2 i).trans (hc i hi)
      obtain ⟨fn, tmps, assign, body, hy, hRd⟩ := hY pre ⟨i, hi⟩ wr hJ hplen
      gi_wp2
      refine hRd.mono ?_
      rintro e W3 (⟨rfl, hJ3, hk3⟩ | ⟨rfl, hJx3⟩)
      · have b2' : W3.cell? ⟨B2, 0, none⟩ = some (.slice (some ⟨g, off, none⟩) l.length cap) := hk3.2.2.1.trans b2
        have hpc' : W3.cell? ⟨g, off + i * 4, none⟩ = some (.int .i64 (bkAt l i).par) := (hk3.2.2.2 i).trans hpc
        gi_wp2
        go_roundw
        case rel => exact ⟨pre ++ [⟨i, hi⟩], _, rfl, by omega, by omega, by rw [← hp]; simp, hJ3, hK.trans hk3⟩
        case measure => simp [intOf]; omega
      · gi_wp2
        refine bodyPost_ret (results_none rfl _ _ _) rfl ?_
        exact ⟨⟨_, rfl⟩, .inr ⟨_, ⟨pathL l (bkAt l i).par, by rw [← hp]; simp⟩, hJx3⟩⟩
theorem path1_stops (n : Nat) (hn : 1 ≤ n) (B1 B2 g off cap n₀ : Nat) (l : List Bk) (k : Nat) (hu : Up l) (hk : k < l.length) (w : World)
    (hB1 : B1 < w.heap.size) (hB2 : B2 < w.heap.size) (hg : g < w.heap.size)
    (h1 : w.cell? ⟨B1, 0, none⟩ = some (.int .i64 k)) (h2 : w.cell? ⟨B2, 0, none⟩ = some (.slice (some ⟨g, off, none⟩) l.length cap))
    (hc : ∀ i, i < l.length → w.cell? ⟨g, off + i * 4, none⟩ = some (.int .i64 (bkAt l i).par)) :
    SeqStopsK Fence.wide n Try.prog 39 #[.pointer (some ⟨B1, 0, none⟩), .pointer (some ⟨B2, 0, none⟩)] (fun x : { i : Nat // i < l.length } => #[Value.pointer (some ⟨g, off + x.1 * 4, none⟩)]) (PKeep n₀ B1 B2 g off) (fun ys => ys.map Subtype.val = pathL l k) (fun pre => pre.map Subtype.val <+: pathL l k) l.length w := fun lf J Jx W hW _ _ hY h0 =>
  path1_in n hn lf B1 B2 g off cap n₀ l k hu hk J Jx hY W ((hW.cell (p := ⟨B1, 0, none⟩) hB1).trans h1) ((hW.cell (p := ⟨B2, 0, none⟩) hB2).trans h2) (fun i hi => (hW.cell (p := ⟨g, off + i * 4, none⟩) hg).trans (hc i hi)) h0
theorem enters39 : ∀ (args : Array Value) (w : World), (callFunc 39 args).run Try.prog w = .ok (.enter 39 args) w := enters_of Try.func39 (by kernel_rfl) rfl
set_option maxHeartbeats 400000 in
theorem path_any (A : Option Addr) (n c : Nat) (k : Int) (w : World) :
    Calls Try.prog 36 #[.slice A n c, .int .i64 k] w fun e w' => e = .returned (.func (.func 39) #[] #[.pointer (some ⟨w.heap.size + 1, 0, none⟩), .pointer (some ⟨w.heap.size, 0, none⟩)]) ∧ Below w.heap.size w w' ∧ Blk w' w.heap.size 22 #[.slice A n c] ∧ Blk w' (w.heap.size + 1) 3 #[.int .i64 k] := by
  go_enter Try.func36, Try.ntmps36
  go_wp2
  go_ret
  refine ⟨rfl, ((Below.refl _ w).alloc (Nat.le_refl _) _).alloc (by simp) _, (Blk.new w 22 #[.slice A n c]).alloc _, ?_⟩
  have := Blk.new (w.alloc (.cells #[.slice A n c] 22)) 3 #[.int .i64 k]
  rwa [World.size_alloc] at this
end Go.Proofs.Ytehfnanhamaenaa
