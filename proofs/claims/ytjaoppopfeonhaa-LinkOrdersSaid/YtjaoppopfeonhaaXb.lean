/- What run has made: words. No condition. -/
import Derived.Test.YtjaoppopfeonhaaXa
import Derived.Test.YtjaoppopfeonhaaMathD
import Derived.Test.YtjaoppopfeonhaaLibZ
namespace Go.Proofs.Ytjaoppopfeonhaa
open Go.RowKit
theorem i64s_snoc (l : List Int) (x : Int) : i64s (l ++ [x]) = i64s l ++ [.int .i64 x] := by simp [i64s]
/-- two rows of their own do not meet -/
def Apart (u v : Value) : Prop := ∀ b, u.ownBlock = some b → v.ownBlock ≠ some b
theorem Apart.symm {u v : Value} (h : Apart u v) : Apart v u := fun b h1 h2 => h b h2 h1
/-- a row of its own meets neither these bytes nor these choices -/
def FarE (u : Value) (es : List Ev) : Prop := ∀ e ∈ es, ∀ ad, 0 < e.p.length → e.A = some ad → u.ownBlock ≠ some ad.block
def FarA (u : Value) (A : Option Addr) (n : Nat) : Prop := ∀ ad, 0 < n → A = some ad → u.ownBlock ≠ some ad.block
/-- three rows of numbers -/
structure Tri (W : World) (low : Nat) (es : List Ev) (A : Option Addr) (n : Nat) (u3 u4 u5 : Value) (x3 x4 x5 : List Int) : Prop where
  o3 : W.ownsRow low 3 1 u3 x3.length (i64s x3)
  o4 : W.ownsRow low 3 1 u4 x4.length (i64s x4)
  o5 : W.ownsRow low 3 1 u5 x5.length (i64s x5)
  d34 : Apart u3 u4
  d35 : Apart u3 u5
  d45 : Apart u4 u5
  e3 : FarE u3 es
  e4 : FarE u4 es
  e5 : FarE u5 es
  r3 : FarA u3 A n
  r4 : FarA u4 A n
  r5 : FarA u5 A n
theorem Tri.s34 {W : World} {low : Nat} {es : List Ev} {A : Option Addr} {n : Nat} {u3 u4 u5 : Value} {x3 x4 x5 : List Int} (h : Tri W low es A n u3 u4 u5 x3 x4 x5) : Tri W low es A n u4 u3 u5 x4 x3 x5 :=
  ⟨h.o4, h.o3, h.o5, h.d34.symm, h.d45, h.d35, h.e4, h.e3, h.e5, h.r4, h.r3, h.r5⟩
theorem Tri.s35 {W : World} {low : Nat} {es : List Ev} {A : Option Addr} {n : Nat} {u3 u4 u5 : Value} {x3 x4 x5 : List Int} (h : Tri W low es A n u3 u4 u5 x3 x4 x5) : Tri W low es A n u5 u4 u3 x5 x4 x3 :=
  ⟨h.o5, h.o4, h.o3, h.d45.symm, h.d35.symm, h.d34.symm, h.e5, h.e4, h.e3, h.r5, h.r4, h.r3⟩
/-- what run has made -/
structure RnI (w : World) (C1 : Array Value) (low : Nat) (l : Lm) (v : Value) (es : List Ev) (A : Option Addr) (c : Nat) (rs : List Int) (u3 u4 u5 : Value) (x3 x4 x5 : List Int) (W : World) : Prop where
  b1 : Blk W w.heap.size 49 C1
  b2 : Blk W (w.heap.size + 1) 26 (lkV l v)
  own : OwnE W low v es
  new : NewP low es
  em : es.map Ev.em = l.fl
  tri : Tri W low es A rs.length u3 u4 u5 x3 x4 x5
  rd : Reads W W.heap.size 1 A rs.length (i64s rs)
  rc : rs.length ≤ c
  rm : c ≤ maxLen
  rn : ∀ ad, 0 < rs.length → A = some ad → ad.block ≠ w.heap.size + 1
  bel : Below w.heap.size w W
section
variable {w : World} {C1 : Array Value} {low : Nat} {l : Lm} {v : Value} {es : List Ev} {A : Option Addr} {c : Nat} {rs : List Int} {u3 u4 u5 : Value} {x3 x4 x5 : List Int} {W W' : World}
theorem Tri.below {n : Nat} (h : Tri W low es A n u3 u4 u5 x3 x4 x5) (hb : Below W.heap.size W W') : Tri W' low es A n u3 u4 u5 x3 x4 x5 :=
  ⟨own_below h.o3 hb, own_below h.o4 hb, own_below h.o5 hb, h.d34, h.d35, h.d45, h.e3, h.e4, h.e5, h.r3, h.r4, h.r5⟩
theorem RnI.below (h : RnI w C1 low l v es A c rs u3 u4 u5 x3 x4 x5 W) (hb : Below W.heap.size W W') : RnI w C1 low l v es A c rs u3 u4 u5 x3 x4 x5 W' :=
  ⟨h.b1.below hb h.b1.lt, h.b2.below hb h.b2.lt, h.own.below hb, h.new, h.em, h.tri.below hb, h.rd.up hb, h.rc, h.rm, h.rn, h.bel.trans (hb.mono h.bel.size)⟩
theorem RnI.s34 (h : RnI w C1 low l v es A c rs u3 u4 u5 x3 x4 x5 W) : RnI w C1 low l v es A c rs u4 u3 u5 x4 x3 x5 W := ⟨h.b1, h.b2, h.own, h.new, h.em, h.tri.s34, h.rd, h.rc, h.rm, h.rn, h.bel⟩
theorem RnI.s35 (h : RnI w C1 low l v es A c rs u3 u4 u5 x3 x4 x5 W) : RnI w C1 low l v es A c rs u5 u4 u3 x5 x4 x3 W := ⟨h.b1, h.b2, h.own, h.new, h.em, h.tri.s35, h.rd, h.rc, h.rm, h.rn, h.bel⟩
theorem lt_of_ev {e : Ev} (h : EvR W e) {ad : Addr} (h0 : 0 < e.p.length) (hA : e.A = some ad) : ad.block < W.heap.size := by
  obtain ⟨ad', hA', hb, _⟩ := h.2 h0
  rw [hA] at hA'
  cases hA'
  exact hb
theorem apart_push {u u' x : Value} {n : Nat} {xs : List Value} (h : Apart u x) (hx : W.ownsRow low 3 1 x n xs) (hv : u'.ownBlock = u.ownBlock ∨ u'.ownBlock = some W.heap.size) : Apart u' x := by
  intro b h1 h2
  rcases hv with e | e
  · exact h b (e ▸ h1) h2
  · rw [e] at h1
    injection h1 with h1
    have := own_lt hx b h2
    omega
theorem own_other {u x : Value} {n : Nat} {xs : List Value} (h : Apart u x) (hx : W.ownsRow low 3 1 x n xs) (hg : W.grownBy W' u.ownBlock) : W'.ownsRow low 3 1 x n xs :=
  own_keep hx (fun b hb => hg.block b (own_lt hx b hb) (fun e => h b e.symm hb))
theorem RnI.push (h : RnI w C1 low l v es A c rs u3 u4 u5 x3 x4 x5 W) {u : Value} {x : Int} (ho : W'.ownsRow low 3 1 u (x3.length + 1) (i64s x3 ++ [.int .i64 x])) (hg : W.grownBy W' u3.ownBlock) (hv : u.ownBlock = u3.ownBlock ∨ u.ownBlock = some W.heap.size) (hl : w.heap.size + 2 ≤ low) :
    RnI w C1 low l v es A c rs u u4 u5 (x3 ++ [x]) x4 x5 W' := by
  have hge : ∀ b, u3.ownBlock = some b → w.heap.size + 2 ≤ b := fun b hb => by have := own_block_ge h.tri.o3 b hb; omega
  have hrow : ∀ b, u3.ownBlock = some b → ∃ cur, Blk W b 3 cur := fun b hb => own_tag h.tri.o3 hb
  have hE : FarE u es := by
    intro e he ad h0 hA
    rcases hv with e1 | e1
    · rw [e1]; exact h.tri.e3 e he ad h0 hA
    · rw [e1]
      have := lt_of_ev (h.own.ev e he).1 h0 hA
      intro e2
      injection e2 with e2
      omega
  have hR : FarA u A rs.length := by
    intro ad h0 hA
    rcases hv with e1 | e1
    · rw [e1]; exact h.tri.r3 ad h0 hA
    · rw [e1]
      obtain ⟨ad', hA', hb, _⟩ := h.rd.2 h0
      rw [hA] at hA'
      cases hA'
      intro e2
      injection e2 with e2
      omega
  refine ⟨h.b1.grown hg (fun e => by have := hge _ e.symm; omega), h.b2.grown hg (fun e => by have := hge _ e.symm; omega), ⟨?_, fun e he => ⟨?_, (h.own.ev e he).2⟩⟩, h.new, h.em, ⟨?_, own_other h.tri.d34 h.tri.o4 hg, own_other h.tri.d35 h.tri.o5 hg, apart_push h.tri.d34 h.tri.o4 hv, apart_push h.tri.d35 h.tri.o5 hv, h.tri.d45, hE, h.tri.e4, h.tri.e5, hR, h.tri.r4, h.tri.r5⟩, ?_, h.rc, h.rm, h.rn, h.bel.grown hg h.bel.size (fun b hb => by have := hge b hb; omega)⟩
  · refine own_keep h.own.own (fun b hb => hg.block b (own_lt h.own.own b hb) (fun e => ?_))
    obtain ⟨c1, k1⟩ := hrow b e.symm
    obtain ⟨c2, k2⟩ := own_tag h.own.own hb
    exact k1.tag k2 (by decide) rfl
  · exact evR_grown (h.own.ev e he).1 (fun ad h0 hA => h.tri.e3 e he ad h0 hA) hg
  · rw [List.length_append, List.length_singleton, i64s_snoc]
    exact ho
  · refine ⟨h.rd.1, fun h0 => ?_⟩
    obtain ⟨ad, hA, hb, hc⟩ := h.rd.2 h0
    refine ⟨ad, hA, Nat.lt_of_lt_of_le hb hg.size, fun j y hy => ?_⟩
    refine (World.cell?_of_block (hg.block _ (by rw [block_of_add]; exact hb) ?_)).trans (hc j y hy)
    rw [block_of_add]
    exact fun e1 => h.tri.r3 ad h0 hA e1.symm
/-- the link is laid anew -/
theorem RnI.link (h : RnI w C1 low l v es A c rs u3 u4 u5 x3 x4 x5 W) (hl : w.heap.size + 2 ≤ low) {l' : Lm} {v' : Value} {es' : List Ev} (hE : OwnE W low v' es') (hn : NewP low es') (hem : es'.map Ev.em = l'.fl) (h3 : FarE u3 es') (h4 : FarE u4 es') (h5 : FarE u5 es') :
    RnI w C1 low l' v' es' A c rs u3 u4 u5 x3 x4 x5 (W.setRow (w.heap.size + 1) (lkV l' v')) := by
  have hg := grown_setRow W (w.heap.size + 1) (lkV l' v')
  have ho : ∀ {u : Value} {xs : List Int}, W.ownsRow low 3 1 u xs.length (i64s xs) → (W.setRow (w.heap.size + 1) (lkV l' v')).ownsRow low 3 1 u xs.length (i64s xs) := fun {u xs} k => own_keep k (fun b hb => setRow_other _ _ _ _ (by have := own_block_ge k b hb; omega))
  exact ⟨h.b1.grown hg (by intro e; injection e with e; omega), h.b2.setRow _, hE.put h.b2 (by decide) (noU8v _ h.own.own) hg, hn, hem, ⟨ho h.tri.o3, ho h.tri.o4, ho h.tri.o5, h.tri.d34, h.tri.d35, h.tri.d45, h3, h4, h5, h.tri.r3, h.tri.r4, h.tri.r5⟩, (h.rd.row h.rn _).more (by simp), h.rc, h.rm, h.rn, below_setRow h.bel (by omega) _⟩
/-- other choices are left -/
theorem RnI.rest (h : RnI w C1 low l v es A c rs u3 u4 u5 x3 x4 x5 W) {A' : Option Addr} {c' : Nat} {rs' : List Int} (hr : Reads W W.heap.size 1 A' rs'.length (i64s rs')) (hc : rs'.length ≤ c') (hm : c' ≤ maxLen) (hn : ∀ ad, 0 < rs'.length → A' = some ad → ad.block ≠ w.heap.size + 1) (h3 : FarA u3 A' rs'.length) (h4 : FarA u4 A' rs'.length) (h5 : FarA u5 A' rs'.length) :
    RnI w C1 low l v es A' c' rs' u3 u4 u5 x3 x4 x5 W := ⟨h.b1, h.b2, h.own, h.new, h.em, ⟨h.tri.o3, h.tri.o4, h.tri.o5, h.tri.d34, h.tri.d35, h.tri.d45, h.tri.e3, h.tri.e4, h.tri.e5, h3, h4, h5⟩, hr, hc, hm, hn, h.bel⟩
end
/-- what a step has sent: the new link in its block, the choices that are left -/
structure SentS (X : World) (SR : SendA) (g : Nat) (v : Value) (es : List Ev) (A : Option Addr) (c : Nat) (W : World) : Prop where
  bg : Blk W g 26 (lkV SR.l v)
  bel : Below X.heap.size X W
  hg : X.heap.size ≤ g
  own : OwnE W X.heap.size v es
  new : NewP X.heap.size es
  em : es.map Ev.em = SR.l.fl
  rd : Reads W W.heap.size 1 A SR.r.length (i64s SR.r)
  rc : SR.r.length ≤ c
  rm : c ≤ maxLen
  rn : ∀ ad, 0 < SR.r.length → A = some ad → X.heap.size ≤ ad.block
theorem SentS.below {X : World} {SR : SendA} {g : Nat} {v : Value} {es : List Ev} {A : Option Addr} {c : Nat} {W W' : World} (h : SentS X SR g v es A c W) (hb : Below W.heap.size W W') : SentS X SR g v es A c W' :=
  ⟨h.bg.below hb h.bg.lt, h.bel.trans (hb.mono h.bel.size), h.hg, h.own.below hb, h.new, h.em, h.rd.up hb, h.rc, h.rm, h.rn⟩
/-- the new link is stored into its block -/
theorem SentS.of {X W : World} {SR : SendA} {g : Nat} {v : Value} {es : List Ev} {A : Option Addr} {c : Nat} {C : Array Value} (hB : Blk W g 26 C) (hC : ∀ (i : Nat) (x : Int), C[i]? ≠ some (Value.int .u8 x)) (hb : Below X.heap.size X W) (hg : X.heap.size ≤ g) (ho : OwnE W X.heap.size v es) (hn : NewP X.heap.size es) (hem : es.map Ev.em = SR.l.fl)
    (hr : Reads W W.heap.size 1 A SR.r.length (i64s SR.r)) (hc : SR.r.length ≤ c) (hm : c ≤ maxLen) (hrn : ∀ ad, 0 < SR.r.length → A = some ad → X.heap.size ≤ ad.block) (hne : ∀ ad, 0 < SR.r.length → A = some ad → ad.block ≠ g) : SentS X SR g v es A c (W.setRow g (lkV SR.l v)) :=
  ⟨hB.setRow _, below_setRow hb hg _, hg, ho.put hB (by decide) hC (grown_setRow _ _ _), hn, hem, (hr.row hne _).more (by simp), hc, hm, hrn⟩
end Go.Proofs.Ytjaoppopfeonhaa
