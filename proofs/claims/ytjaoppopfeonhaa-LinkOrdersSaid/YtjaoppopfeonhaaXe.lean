/- What run has made beside what its step has sent: words. No condition. -/
import Derived.Test.YtjaoppopfeonhaaXb
namespace Go.Proofs.Ytjaoppopfeonhaa
open Go.RowKit
/-- what a step has sent, wherever it lies -/
structure SentT (X : World) (SR : SendA) (g : Nat) (v : Value) (es : List Ev) (A : Option Addr) (c : Nat) (W : World) : Prop where
  bg : Blk W g 26 (lkV SR.l v)
  hg : X.heap.size ≤ g
  own : OwnE W X.heap.size v es
  new : NewP X.heap.size es
  em : es.map Ev.em = SR.l.fl
  rd : Reads W W.heap.size 1 A SR.r.length (i64s SR.r)
  rc : SR.r.length ≤ c
  rm : c ≤ maxLen
  rn : ∀ ad, 0 < SR.r.length → A = some ad → X.heap.size ≤ ad.block
  sz : X.heap.size ≤ W.heap.size
section
variable {X : World} {SR : SendA} {g : Nat} {v1 : Value} {es1 : List Ev} {A1 : Option Addr} {c1 : Nat} {W W' : World}
theorem SentS.t (h : SentS X SR g v1 es1 A1 c1 W) : SentT X SR g v1 es1 A1 c1 W := ⟨h.bg, h.hg, h.own, h.new, h.em, h.rd, h.rc, h.rm, h.rn, h.bel.size⟩
theorem SentT.below (h : SentT X SR g v1 es1 A1 c1 W) (hb : Below W.heap.size W W') : SentT X SR g v1 es1 A1 c1 W' :=
  ⟨h.bg.below hb h.bg.lt, h.hg, h.own.below hb, h.new, h.em, h.rd.up hb, h.rc, h.rm, h.rn, Nat.le_trans h.sz hb.size⟩
theorem SentT.grown (h : SentT X SR g v1 es1 A1 c1 W) {o : Option Nat} (hg : W.grownBy W' o) (ho : ∀ b, o = some b → b < X.heap.size) : SentT X SR g v1 es1 A1 c1 W' := by
  have hk : ∀ k, X.heap.size ≤ k → k < W.heap.size → W'.heap[k]? = W.heap[k]? := fun k h1 h2 => hg.block k h2 (fun e => by have := ho k e.symm; omega)
  exact ⟨h.bg.grown hg (fun e => by have := ho g e.symm; have := h.hg; omega), h.hg, h.own.keepN h.new hk hg.size, h.new, h.em, reads_far h.rd h.rn hk hg.size, h.rc, h.rm, h.rn, Nat.le_trans h.sz hg.size⟩
end
/-- both: what run has made, and what its step has sent -/
structure Two (w : World) (C1 : Array Value) (low : Nat) (l : Lm) (v : Value) (es : List Ev) (A : Option Addr) (c : Nat) (rs : List Int) (X : World) (SR : SendA) (g : Nat) (v1 : Value) (es1 : List Ev) (A1 : Option Addr) (c1 : Nat) (u3 u4 u5 : Value) (x3 x4 x5 : List Int) (W : World) : Prop where
  rn : RnI w C1 low l v es A c rs u3 u4 u5 x3 x4 x5 W
  st : SentT X SR g v1 es1 A1 c1 W
  e3 : FarE u3 es1
  e4 : FarE u4 es1
  e5 : FarE u5 es1
  r3 : FarA u3 A1 SR.r.length
  r4 : FarA u4 A1 SR.r.length
  r5 : FarA u5 A1 SR.r.length
section
variable {w : World} {C1 : Array Value} {low : Nat} {l : Lm} {v : Value} {es : List Ev} {A : Option Addr} {c : Nat} {rs : List Int} {X : World} {SR : SendA} {g : Nat} {v1 : Value} {es1 : List Ev} {A1 : Option Addr} {c1 : Nat} {u3 u4 u5 : Value} {x3 x4 x5 : List Int} {W W' : World}
theorem Two.of (h : RnI w C1 low l v es A c rs u3 u4 u5 x3 x4 x5 X) (h' : RnI w C1 low l v es A c rs u3 u4 u5 x3 x4 x5 W) (hs : SentS X SR g v1 es1 A1 c1 W) : Two w C1 low l v es A c rs X SR g v1 es1 A1 c1 u3 u4 u5 x3 x4 x5 W := by
  have hE : ∀ {u : Value} {xs : List Int}, X.ownsRow low 3 1 u xs.length (i64s xs) → FarE u es1 := fun {u xs} k e he ad h0 hA hb => by
    have := own_lt k _ hb
    have := hs.new e he ad h0 hA
    omega
  have hA : ∀ {u : Value} {xs : List Int}, X.ownsRow low 3 1 u xs.length (i64s xs) → FarA u A1 SR.r.length := fun {u xs} k ad h0 hA hb => by
    have := own_lt k _ hb
    have := hs.rn ad h0 hA
    omega
  exact ⟨h', hs.t, hE h.tri.o3, hE h.tri.o4, hE h.tri.o5, hA h.tri.o3, hA h.tri.o4, hA h.tri.o5⟩
theorem Two.below (h : Two w C1 low l v es A c rs X SR g v1 es1 A1 c1 u3 u4 u5 x3 x4 x5 W) (hb : Below W.heap.size W W') : Two w C1 low l v es A c rs X SR g v1 es1 A1 c1 u3 u4 u5 x3 x4 x5 W' := ⟨h.rn.below hb, h.st.below hb, h.e3, h.e4, h.e5, h.r3, h.r4, h.r5⟩
theorem Two.s34 (h : Two w C1 low l v es A c rs X SR g v1 es1 A1 c1 u3 u4 u5 x3 x4 x5 W) : Two w C1 low l v es A c rs X SR g v1 es1 A1 c1 u4 u3 u5 x4 x3 x5 W := ⟨h.rn.s34, h.st, h.e4, h.e3, h.e5, h.r4, h.r3, h.r5⟩
theorem Two.s35 (h : Two w C1 low l v es A c rs X SR g v1 es1 A1 c1 u3 u4 u5 x3 x4 x5 W) : Two w C1 low l v es A c rs X SR g v1 es1 A1 c1 u5 u4 u3 x5 x4 x3 W := ⟨h.rn.s35, h.st, h.e5, h.e4, h.e3, h.r5, h.r4, h.r3⟩
theorem Two.push (h : Two w C1 low l v es A c rs X SR g v1 es1 A1 c1 u3 u4 u5 x3 x4 x5 W) {u : Value} {x : Int} (ho : W'.ownsRow low 3 1 u (x3.length + 1) (i64s x3 ++ [.int .i64 x])) (hg : W.grownBy W' u3.ownBlock) (hv : u.ownBlock = u3.ownBlock ∨ u.ownBlock = some W.heap.size) (hl : w.heap.size + 2 ≤ low) (h3 : ∀ b, u3.ownBlock = some b → b < X.heap.size) :
    Two w C1 low l v es A c rs X SR g v1 es1 A1 c1 u u4 u5 (x3 ++ [x]) x4 x5 W' := by
  refine ⟨h.rn.push ho hg hv hl, h.st.grown hg h3, fun e he ad h0 hA => ?_, h.e4, h.e5, fun ad h0 hA => ?_, h.r4, h.r5⟩
  · rcases hv with e1 | e1
    · rw [e1]; exact h.e3 e he ad h0 hA
    · rw [e1]
      have := lt_of_ev (h.st.own.ev e he).1 h0 hA
      intro e2
      injection e2 with e2
      omega
  · rcases hv with e1 | e1
    · rw [e1]; exact h.r3 ad h0 hA
    · rw [e1]
      obtain ⟨ad', hA', hb, _⟩ := h.st.rd.2 h0
      rw [hA] at hA'
      cases hA'
      intro e2
      injection e2 with e2
      omega
/-- the step's link is laid into run's own -/
theorem Two.fin (h : Two w C1 low l v es A c rs X SR g v1 es1 A1 c1 u3 u4 u5 x3 x4 x5 W) (hl : w.heap.size + 2 ≤ low) (hX : low ≤ X.heap.size) :
    RnI w C1 low SR.l v1 es1 A1 c1 SR.r u3 u4 u5 x3 x4 x5 (W.setRow (w.heap.size + 1) (lkV SR.l v1)) := by
  have hn : ∀ ad, 0 < SR.r.length → A1 = some ad → ad.block ≠ w.heap.size + 1 := fun ad h0 hA => by have := h.st.rn ad h0 hA; omega
  exact (h.rn.link hl (h.st.own.low hX) (h.st.new.low hX) h.st.em h.e3 h.e4 h.e5).rest ((h.st.rd.row hn _).more (by simp)) h.st.rc h.st.rm hn h.r3 h.r4 h.r5
end
end Go.Proofs.Ytjaoppopfeonhaa
