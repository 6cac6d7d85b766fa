/- Four rows of numbers of their own, their values in the cells of one block: for the planner's plan. No condition. -/
import Derived.Test.YthkpkjigfaannaaLibX
import Derived.Test.YthkpkjigfaannaaXa
namespace Go.Proofs.Ythkpkjigfaannaa
open Go.RowKit
theorem Que.form2 {W : World} {low : Nat} {e : TypeId} {v : Value} {b : Option Nat} {xs : List Value} (h : Que W low e v b xs) : ∃ A N c, v = .slice A N c :=
  let ⟨A, c, hv, _⟩ := h.rd
  ⟨A, _, c, hv⟩
theorem flat_i' (l : List Int) : l.flatMap encI = l.map (Value.int .i64) := by
  induction l with
  | nil => rfl
  | cons a l ih => rw [List.flatMap_cons, ih]; rfl
theorem Que.rdI {W : World} {low : Nat} {v : Value} {b : Option Nat} {l : List Int} (h : Que W low 3 v b (l.map (Value.int .i64))) : ∃ A N c, v = .slice A N c ∧ RdI W A N l := by
  obtain ⟨A, c, hv, hr, _⟩ := h.rd
  refine ⟨A, _, c, hv, ?_⟩
  unfold RdI
  rw [flat_i']
  exact hr
/-- all blocks below n but one are as they were -/
structure KeepB (n gp : Nat) (W0 W : World) : Prop where
  os : W.os = W0.os
  tape : W.tape = W0.tape
  output : W.output = W0.output
  size : W0.heap.size ≤ W.heap.size
  block : ∀ k, k < n → k ≠ gp → W.heap[k]? = W0.heap[k]?
theorem KeepB.refl (n gp : Nat) (W : World) : KeepB n gp W W := ⟨rfl, rfl, rfl, Nat.le_refl _, fun _ _ _ => rfl⟩
theorem KeepB.below {n gp m : Nat} {W0 W W' : World} (h : KeepB n gp W0 W) (hb : Below m W W') (hm : n ≤ m) : KeepB n gp W0 W' :=
  ⟨hb.os.trans h.os, hb.tape.trans h.tape, hb.output.trans h.output, Nat.le_trans h.size hb.size, fun k h1 h2 => (hb.block k (by omega)).trans (h.block k h1 h2)⟩
theorem KeepB.to_below {n gp m : Nat} {W0 W : World} (h : KeepB n gp W0 W) (hm : m ≤ n) (hg : m ≤ gp) : Below m W0 W :=
  ⟨h.os, h.tape, h.output, h.size, fun k hk => h.block k (by omega) (by omega)⟩
theorem KeepB.grown {n gp : Nat} {W0 W W' : World} {row : Option Nat} (h : KeepB n gp W0 W) (hg : W.grownBy W' row) (hn : n ≤ W.heap.size) (hr : ∀ g, row = some g → n ≤ g) : KeepB n gp W0 W' :=
  ⟨hg.os.trans h.os, hg.tape.trans h.tape, hg.output.trans h.output, Nat.le_trans h.size hg.size, fun k h1 h2 => (hg.block k (by omega) (fun e => by have := hr k e.symm; omega)).trans (h.block k h1 h2)⟩
theorem KeepB.set {n gp i : Nat} {W0 W : World} (h : KeepB n gp W0 W) (u : Value) : KeepB n gp W0 (W.setCell ⟨gp, i, none⟩ u) :=
  ⟨h.os, h.tape, h.output, by rw [World.size_setCell]; exact h.size, fun k h1 h2 => (Below.heap_setCell W ⟨gp, i, none⟩ u k h2).trans (h.block k h1 h2)⟩
structure Four (n gp : Nat) (W0 : World) (cp : Array Value) (v0 v1 v2 v3 : Value) (b0 b1 b2 b3 : Option Nat) (l0 l1 l2 l3 : List Int) (W : World) : Prop where
  p : Blk W gp 61 cp
  q0 : Que W n 3 v0 b0 (l0.map (.int .i64))
  q1 : Que W n 3 v1 b1 (l1.map (.int .i64))
  q2 : Que W n 3 v2 b2 (l2.map (.int .i64))
  q3 : Que W n 3 v3 b3 (l3.map (.int .i64))
  d01 : ∀ g, b0 = some g → b1 ≠ some g
  d02 : ∀ g, b0 = some g → b2 ≠ some g
  d03 : ∀ g, b0 = some g → b3 ≠ some g
  d12 : ∀ g, b1 = some g → b2 ≠ some g
  d13 : ∀ g, b1 = some g → b3 ≠ some g
  d23 : ∀ g, b2 = some g → b3 ≠ some g
  keep : KeepB n gp W0 W
  gn : gp < n
  nW : n ≤ W.heap.size
section
variable {n gp : Nat} {W0 W W' : World} {cp : Array Value} {v0 v1 v2 v3 : Value} {b0 b1 b2 b3 : Option Nat} {l0 l1 l2 l3 : List Int}
theorem Four.up (h : Four n gp W0 cp v0 v1 v2 v3 b0 b1 b2 b3 l0 l1 l2 l3 W) (hb : Below W.heap.size W W') : Four n gp W0 cp v0 v1 v2 v3 b0 b1 b2 b3 l0 l1 l2 l3 W' :=
  ⟨h.p.below hb h.p.lt, h.q0.below hb, h.q1.below hb, h.q2.below hb, h.q3.below hb, h.d01, h.d02, h.d03, h.d12, h.d13, h.d23, h.keep.below hb h.nW, h.gn, Nat.le_trans h.nW hb.size⟩
theorem Four.swap01 (h : Four n gp W0 cp v0 v1 v2 v3 b0 b1 b2 b3 l0 l1 l2 l3 W) : Four n gp W0 cp v1 v0 v2 v3 b1 b0 b2 b3 l1 l0 l2 l3 W :=
  ⟨h.p, h.q1, h.q0, h.q2, h.q3, fun g e e' => h.d01 g e' e, h.d12, h.d13, h.d02, h.d03, h.d23, h.keep, h.gn, h.nW⟩
theorem Four.swap02 (h : Four n gp W0 cp v0 v1 v2 v3 b0 b1 b2 b3 l0 l1 l2 l3 W) : Four n gp W0 cp v2 v1 v0 v3 b2 b1 b0 b3 l2 l1 l0 l3 W :=
  ⟨h.p, h.q2, h.q1, h.q0, h.q3, fun g e e' => h.d12 g e' e, fun g e e' => h.d02 g e' e, h.d23, fun g e e' => h.d01 g e' e, h.d13, h.d03, h.keep, h.gn, h.nW⟩
theorem Four.swap03 (h : Four n gp W0 cp v0 v1 v2 v3 b0 b1 b2 b3 l0 l1 l2 l3 W) : Four n gp W0 cp v3 v1 v2 v0 b3 b1 b2 b0 l3 l1 l2 l0 W :=
  ⟨h.p, h.q3, h.q1, h.q2, h.q0, fun g e e' => h.d13 g e' e, fun g e e' => h.d23 g e' e, fun g e e' => h.d03 g e' e, h.d12, fun g e e' => h.d01 g e' e, fun g e e' => h.d02 g e' e, h.keep, h.gn, h.nW⟩
theorem Four.app0 {v' : Value} {b' : Option Nat} {x : Int} (h : Four n gp W0 cp v0 v1 v2 v3 b0 b1 b2 b3 l0 l1 l2 l3 W) (hq : Que W' n 3 v' b' (l0.map (.int .i64) ++ [.int .i64 x])) (hg : W.grownBy W' b0) (hb : b' = b0 ∨ b' = some W.heap.size) :
    Four n gp W0 cp v' v1 v2 v3 b' b1 b2 b3 (l0 ++ [x]) l1 l2 l3 W' := by
  have hge : ∀ g, b0 = some g → n ≤ g := fun g e => (h.q0.lt g e).2
  have hK : ∀ {e : TypeId} {v : Value} {b : Option Nat} {xs : List Value}, Que W n e v b xs → (∀ g, b0 = some g → b ≠ some g) → Que W' n e v b xs := fun hq hd => hq.keep fun g e => hg.block g (hq.lt g e).1 (fun e' => hd g e'.symm e)
  have hD : ∀ {v : Value} {b : Option Nat} {xs : List Value}, Que W n 3 v b xs → (∀ g, b0 = some g → b ≠ some g) → ∀ g, b' = some g → b ≠ some g := fun hq hd g e e' => by
    rcases hb with hb | hb
    · exact hd g (hb ▸ e) e'
    · rw [hb] at e
      injection e with e
      have := (hq.lt g e').1
      omega
  refine ⟨h.p.grown hg (fun e => by have := hge gp e.symm; have := h.gn; omega), by rw [List.map_append]; exact hq, hK h.q1 h.d01, hK h.q2 h.d02, hK h.q3 h.d03, hD h.q1 h.d01, hD h.q2 h.d02, hD h.q3 h.d03, h.d12, h.d13, h.d23, h.keep.grown hg h.nW hge, h.gn, Nat.le_trans h.nW hg.size⟩
theorem Four.app1 {v' : Value} {b' : Option Nat} {x : Int} (h : Four n gp W0 cp v0 v1 v2 v3 b0 b1 b2 b3 l0 l1 l2 l3 W) (hq : Que W' n 3 v' b' (l1.map (.int .i64) ++ [.int .i64 x])) (hg : W.grownBy W' b1) (hb : b' = b1 ∨ b' = some W.heap.size) :
    Four n gp W0 cp v0 v' v2 v3 b0 b' b2 b3 l0 (l1 ++ [x]) l2 l3 W' := (h.swap01.app0 hq hg hb).swap01
theorem Four.app2 {v' : Value} {b' : Option Nat} {x : Int} (h : Four n gp W0 cp v0 v1 v2 v3 b0 b1 b2 b3 l0 l1 l2 l3 W) (hq : Que W' n 3 v' b' (l2.map (.int .i64) ++ [.int .i64 x])) (hg : W.grownBy W' b2) (hb : b' = b2 ∨ b' = some W.heap.size) :
    Four n gp W0 cp v0 v1 v' v3 b0 b1 b' b3 l0 l1 (l2 ++ [x]) l3 W' := (h.swap02.app0 hq hg hb).swap02
theorem Four.app3 {v' : Value} {b' : Option Nat} {x : Int} (h : Four n gp W0 cp v0 v1 v2 v3 b0 b1 b2 b3 l0 l1 l2 l3 W) (hq : Que W' n 3 v' b' (l3.map (.int .i64) ++ [.int .i64 x])) (hg : W.grownBy W' b3) (hb : b' = b3 ∨ b' = some W.heap.size) :
    Four n gp W0 cp v0 v1 v2 v' b0 b1 b2 b' l0 l1 l2 (l3 ++ [x]) W' := (h.swap03.app0 hq hg hb).swap03
theorem Four.set (h : Four n gp W0 cp v0 v1 v2 v3 b0 b1 b2 b3 l0 l1 l2 l3 W) (i : Nat) (u : Value) : Four n gp W0 (cp.setIfInBounds i u) v0 v1 v2 v3 b0 b1 b2 b3 l0 l1 l2 l3 (W.setCell ⟨gp, i, none⟩ u) := by
  have hne : ∀ {v : Value} {b : Option Nat} {xs : List Value}, Que W n 3 v b xs → b ≠ some gp := fun hq e => by have := (hq.lt gp e).2; have := h.gn; omega
  exact ⟨h.p.set_ i u, h.q0.far (p := ⟨gp, i, none⟩) (hne h.q0) u, h.q1.far (p := ⟨gp, i, none⟩) (hne h.q1) u, h.q2.far (p := ⟨gp, i, none⟩) (hne h.q2) u, h.q3.far (p := ⟨gp, i, none⟩) (hne h.q3) u, h.d01, h.d02, h.d03, h.d12, h.d13, h.d23, h.keep.set u, h.gn, by rw [World.size_setCell]; exact h.nW⟩
end
end Go.Proofs.Ythkpkjigfaannaa
