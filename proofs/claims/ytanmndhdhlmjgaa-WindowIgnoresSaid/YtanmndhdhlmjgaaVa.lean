/- The plain model of the window protocol. No condition. -/
import Derived.Test.YtanmndhdhlmjgaaLib
import Derived.Test.YtanmndhdhlmjgaaChecked
import Derived.RangeFuncFrom
import Derived.RangeFuncNested
import Derived.RangeFuncOne
namespace Go.Proofs.Ytanmndhdhlmjgaa
/-- an outstanding payload -/
structure Om where
  seq : Int
  time : Int
  cnt : Int
  ak : Bool
  p : List Nat
/-- a sender -/
structure Sm where
  ses : Int
  lim : Int
  tmo : Int
  base : Int
  next : Int
  cred : Int
  out : List Om
  q : List (List Nat)
/-- a payload that has arrived -/
structure Am where
  seq : Int
  p : List Nat
/-- a receiver -/
structure Rm where
  ses : Int
  lim : Int
  next : Int
  early : List Am
/-- an extent -/
structure Xm where
  s : Int
  c : Int
/-- a packet -/
structure Pm where
  kind : Int
  ses : Int
  seq : Int
  ack : Int
  cred : Int
  sel : List Xm
  p : List Nat
def inB (n a b : Int) : Bool := decide (a ≤ n ∧ n ≤ b)
def mT : Int := 1073741824
/-- the error of one outstanding payload, at index i -/
def outE (base : Int) (i : Nat) (o : Om) : Nat :=
  if o.seq ≠ base + i then 3 else if ¬ (1 ≤ o.cnt ∧ o.cnt ≤ 1073741824) then 3 else if i = 0 ∧ o.ak = true then 3
  else if ¬ (0 ≤ o.time ∧ o.time ≤ 1073741824) then 24 else if 4096 < o.p.length then 5 else 0
/-- the first error of the outstanding payloads from index i on -/
def outsE (base : Int) : Nat → List Om → Nat
  | _, [] => 0
  | i, o :: l => if outE base i o = 0 then outsE base (i + 1) l else outE base i o
def chkS (s : Sm) : Nat :=
  if ¬ ((0 ≤ s.ses ∧ s.ses ≤ 1073741824) ∧ (1 ≤ s.lim ∧ s.lim ≤ 64) ∧ (1 ≤ s.tmo ∧ s.tmo ≤ 1073741824) ∧ (0 ≤ s.base ∧ s.base ≤ 1073741824) ∧ (0 ≤ s.next ∧ s.next ≤ 1073741824) ∧ (0 ≤ s.cred ∧ s.cred ≤ 64)) then 2
  else if s.lim < s.out.length ∨ 4096 < s.q.length then 6
  else if outsE s.base 0 s.out ≠ 0 then outsE s.base 0 s.out
  else if s.next ≠ s.base + s.out.length then 3
  else if s.q.any (fun p => decide (4096 < p.length)) = true then 5 else 0
/-- the first error of the early payloads behind a number -/
def earE (next lim : Int) : Int → List Am → Nat
  | _, [] => 0
  | last, a :: l => if a.seq ≤ last ∨ min (next + lim) 1073741824 ≤ a.seq then 3 else if 4096 < a.p.length then 5 else earE next lim a.seq l
def chkR (r : Rm) : Nat :=
  if ¬ ((0 ≤ r.ses ∧ r.ses ≤ 1073741824) ∧ (1 ≤ r.lim ∧ r.lim ≤ 64) ∧ (0 ≤ r.next ∧ r.next ≤ 1073741824)) then 2
  else if r.lim ≤ r.early.length then 6 else earE r.next r.lim r.next r.early
/-- extents in order behind a number, within a window -/
def selB (ack : Int) : Int → List Xm → Bool
  | _, [] => true
  | e, x :: l => if x.s ≤ e ∨ x.c < 1 ∨ ack + 64 < x.s ∨ ack + 64 - x.s < x.c then false else selB ack (x.s + x.c) l
def chkP (p : Pm) : Nat :=
  if p.kind < 0 ∨ 2 < p.kind then 1
  else if ¬ (0 ≤ p.ses ∧ p.ses ≤ 1073741824) ∨ ¬ (0 ≤ p.seq ∧ p.seq ≤ 1073741824) ∨ ¬ (0 ≤ p.ack ∧ p.ack ≤ 1073741824) ∨ p.cred < 0 ∨ 64 < p.cred then 2
  else if selB p.ack p.ack p.sel = false then 3
  else if 4096 < p.p.length then 5
  else if 0 < p.p.length ∧ p.kind ≠ 0 then 3 else 0
def newS (ses lim tmo : Int) : Sm × Nat :=
  if (0 ≤ ses ∧ ses ≤ 1073741824) ∧ (1 ≤ lim ∧ lim ≤ 64) ∧ (1 ≤ tmo ∧ tmo ≤ 1073741824) then (⟨ses, lim, tmo, 0, 0, lim, [], []⟩, 0) else (⟨0, 0, 0, 0, 0, 0, [], []⟩, 2)
def newR (ses lim : Int) : Rm × Nat :=
  if (0 ≤ ses ∧ ses ≤ 1073741824) ∧ (1 ≤ lim ∧ lim ≤ 64) then (⟨ses, lim, 0, []⟩, 0) else (⟨0, 0, 0, []⟩, 2)
def zeroS : Sm := ⟨0, 0, 0, 0, 0, 0, [], []⟩
def pushS (s : Sm) (p : List Nat) : Sm × Nat :=
  if chkS s ≠ 0 then (zeroS, chkS s) else if 4096 < p.length then (zeroS, 5) else if 4096 ≤ s.q.length then (zeroS, 11) else ({ s with q := s.q ++ [p] }, 0)
def dataP (ses : Int) (o : Om) : Pm := ⟨0, ses, o.seq, 0, 0, [], o.p⟩
/-- what Poll does to one outstanding payload -/
def again (now tmo : Int) (o : Om) : Bool := !o.ak && decide (tmo ≤ now - o.time) && decide (o.cnt < 1073741824)
def againO (now tmo : Int) (o : Om) : Om := if again now tmo o then { o with time := now, cnt := o.cnt + 1 } else o
def againP (ses now tmo : Int) (o : Om) : List Pm := if again now tmo o then [dataP ses (againO now tmo o)] else []
/-- new payloads leave the queue while there is room -/
def fillS (now : Int) (s : Sm) : Nat → Sm × List Pm
  | 0 => (s, [])
  | k + 1 => match s.q with
    | [] => (s, [])
    | p :: q => if (s.out.length : Int) < min s.lim s.cred ∧ s.next < 1073741824 then
        let o : Om := ⟨s.next, now, 1, false, p⟩
        let r := fillS now { s with q := q, out := s.out ++ [o], next := s.next + 1 } k
        (r.1, dataP s.ses o :: r.2)
      else (s, [])
def probeP (s : Sm) : List Pm := if s.out = [] ∧ s.q ≠ [] ∧ s.next < 1073741824 then [⟨2, s.ses, s.next, 0, 0, [], []⟩] else []
def pollS (s : Sm) (now : Int) : Sm × List Pm :=
  if chkS s ≠ 0 ∨ ¬ (0 ≤ now ∧ now ≤ 1073741824) then (s, []) else
    let s1 := { s with out := s.out.map (againO now s.tmo) }
    let r := fillS now s1 s.q.length
    (r.1, s.out.flatMap (againP s.ses now s.tmo) ++ r.2 ++ probeP r.1)
def ackedB (p : Pm) (n : Int) : Bool := decide (n < p.ack) || p.sel.any fun x => decide (x.s ≤ n ∧ n < x.s + x.c)
def acceptB (s : Sm) (now : Int) (p : Pm) : Bool :=
  decide (chkS s = 0 ∧ (0 ≤ now ∧ now ≤ 1073741824) ∧ chkP p = 0 ∧ p.kind = 1 ∧ p.ses = s.ses ∧ s.base ≤ p.ack ∧ p.ack ≤ s.next) && !(p.sel.any fun x => decide (s.next < x.s + x.c))
def ackO (p : Pm) (o : Om) : Om := if !o.ak && ackedB p o.seq then { o with ak := true } else o
/-- the sample that one payload leaves -/
def samp (p : Pm) (now : Int) (v : Int) (o : Om) : Int := if (!o.ak && ackedB p o.seq) = true ∧ o.cnt = 1 ∧ o.time ≤ now then now - o.time else v
def ackS (s : Sm) (now : Int) (p : Pm) : Sm × Int :=
  if acceptB s now p = false then (s, -1) else
    let l := s.out.map (ackO p)
    let f := (l.takeWhile (·.ak)).length
    ({ s with base := s.base + f, out := l.drop f, cred := max (max (s.base + s.cred) (p.ack + p.cred) - (s.base + f)) 0 }, s.out.foldl (samp p now) (-1))
def insA (a : Am) : List Am → List Am
  | [] => [a]
  | b :: l => if b.seq < a.seq then b :: insA a l else if b.seq = a.seq then b :: l else a :: b :: l
def keepR (r : Rm) (p : Pm) : Rm :=
  if p.seq < r.next ∨ min (r.next + r.lim) 1073741824 ≤ p.seq then r else { r with early := insA ⟨p.seq, p.p⟩ r.early }
/-- the payloads in order from a number on, how far they reach, and what is left -/
def deliv : Int → List Am → List (List Nat) × Int × List Am
  | n, [] => ([], n, [])
  | n, a :: l => if a.seq = n then let r := deliv (n + 1) l; (a.p :: r.1, r.2) else ([], n, a :: l)
def addX (l : List Xm) (n : Int) : List Xm :=
  match l.getLast? with
  | some x => if x.s + x.c = n then l.dropLast ++ [⟨x.s, x.c + 1⟩] else l ++ [⟨n, 1⟩]
  | none => [⟨n, 1⟩]
def selA (l : List Am) : List Xm := l.foldl (fun x a => addX x a.seq) []
def answP (r : Rm) : Pm := ⟨1, r.ses, 0, r.next, r.lim, selA r.early, []⟩
def recvR (r : Rm) (p : Pm) : Rm × List (List Nat) × List Pm :=
  if chkR r ≠ 0 ∨ chkP p ≠ 0 ∨ p.kind = 1 ∨ p.ses ≠ r.ses then (r, [], []) else
    let r1 := if p.kind = 0 then keepR r p else r
    let d := deliv r1.next r1.early
    let r2 : Rm := { r1 with next := d.2.1, early := d.2.2 }
    (r2, d.1, [answP r2])
def unackS (s : Sm) : Int := if chkS s ≠ 0 then 0 else s.q.length + (s.out.filter fun o => !o.ak).length
end Go.Proofs.Ytanmndhdhlmjgaa

/- The first element that a test holds of. No condition. -/
namespace Go.Proofs.Ytanmndhdhlmjgaa
def idxB {α : Type} (f : α → Bool) : List α → Option Nat
  | [] => none
  | e :: l => if f e then some 0 else (idxB f l).map (· + 1)
def idxI {α : Type} (f : α → Bool) (l : List α) : Int := match idxB f l with | some k => (k : Int) | none => -1
theorem idxB_some {α : Type} {f : α → Bool} {l : List α} {k : Nat} {e : α} (h : ∀ j x, j < k → l[j]? = some x → f x = false) (hk : l[k]? = some e) (he : f e = true) : idxB f l = some k := by
  induction l generalizing k with
  | nil => simp at hk
  | cons x l ih =>
    cases k with
    | zero => simp at hk; subst hk; simp [idxB, he]
    | succ k =>
      have h0 := h 0 x (by omega) (by simp)
      rw [idxB, h0, ih (k := k) (fun j y hj hy => h (j + 1) y (Nat.succ_lt_succ hj) (by simpa using hy)) (by simpa using hk)]
      rfl
theorem idxB_none {α : Type} {f : α → Bool} {l : List α} (h : ∀ x ∈ l, f x = false) : idxB f l = none := by
  induction l with
  | nil => rfl
  | cons x l ih => rw [idxB, h x (by simp), ih (fun y hy => h y (by simp [hy]))]; rfl
theorem idxB_lt {α : Type} {f : α → Bool} {l : List α} {k : Nat} (h : idxB f l = some k) : k < l.length ∧ (∀ j x, j < k → l[j]? = some x → f x = false) ∧ ∃ e, l[k]? = some e ∧ f e = true := by
  induction l generalizing k with
  | nil => cases h
  | cons x l ih =>
    rw [idxB] at h
    split at h
    · rename_i hx
      injection h with h
      subst h
      exact ⟨by simp, fun j y hj => by omega, x, by simp, hx⟩
    · rename_i hx
      cases hq : idxB f l with
      | none => rw [hq] at h; cases h
      | some q =>
        rw [hq] at h
        injection h with h
        subst h
        obtain ⟨h1, h2, e, h3, h4⟩ := ih hq
        refine ⟨by simp; omega, fun j y hj hy => ?_, e, by simpa using h3, h4⟩
        cases j with
        | zero => simp at hy; subst hy; simpa using hx
        | succ j => exact h2 j y (by simpa using hj) (by simpa using hy)
theorem idxB_nil {α : Type} {f : α → Bool} {l : List α} (h : idxB f l = none) : ∀ x ∈ l, f x = false := by
  induction l with
  | nil => simp
  | cons x l ih =>
    rw [idxB] at h
    split at h
    · cases h
    · rename_i hx
      cases hq : idxB f l with
      | some q => rw [hq] at h; cases h
      | none =>
        intro y hy
        rcases List.mem_cons.1 hy with rfl | hy
        · simpa using hx
        · exact ih hq y hy
theorem idxB_any {α : Type} (f : α → Bool) (l : List α) : (idxB f l).isSome = l.any f := by
  induction l with
  | nil => rfl
  | cons x l ih =>
    rw [idxB, List.any_cons]
    split
    · rename_i h; rw [h]; rfl
    · rename_i h
      rw [Bool.not_eq_true] at h
      rw [h, Bool.false_or, ← ih, Option.isSome_map]
theorem idxB_map {α β : Type} (f : β → Bool) (g : α → β) (l : List α) : idxB f (l.map g) = idxB (fun x => f (g x)) l := by
  induction l with
  | nil => rfl
  | cons x l ih => rw [List.map_cons, idxB, idxB, ih]
/-- the place behind all that are not later, for the code and for the reference -/
theorem idxI_ge {α : Type} (f : α → Bool) (l : List α) : decide (0 ≤ idxI f l) = l.any f := by
  rw [← idxB_any]
  unfold idxI
  cases idxB f l with
  | none => rfl
  | some k => simp
end Go.Proofs.Ytanmndhdhlmjgaa

/- Words for values in memory: slices of elements that hold slices, told by the type of their blocks; what a change of some types of blocks keeps. No condition. -/
namespace Go.Proofs.Ytanmndhdhlmjgaa
open Go.RowKit
/-- block g holds elements of type t -/
def TagAt (W : World) (g : Nat) (t : TypeId) : Prop := ∃ cs, Blk W g t cs
theorem TagAt.lt {W : World} {g : Nat} {t : TypeId} (h : TagAt W g t) : g < W.heap.size := by
  obtain ⟨_, h⟩ := h
  exact h.lt
/-- nothing has changed but blocks from base on whose type is in T, and new ones -/
structure Turn (base : Nat) (T : List TypeId) (A C : World) : Prop where
  os : C.os = A.os
  tape : C.tape = A.tape
  output : C.output = A.output
  size : A.heap.size ≤ C.heap.size
  low : ∀ k, k < base → k < A.heap.size → C.heap[k]? = A.heap[k]?
  block : ∀ (k : Nat) (o : Obj), A.heap[k]? = some o → (∀ t cs, t ∈ T → o ≠ Obj.cells cs t (0, 0)) → C.heap[k]? = some o
theorem Turn.refl (base : Nat) (T : List TypeId) (A : World) : Turn base T A A := ⟨rfl, rfl, rfl, Nat.le_refl _, fun _ _ _ => rfl, fun _ _ h _ => h⟩
theorem Turn.trans {base : Nat} {T : List TypeId} {A B C : World} (h : Turn base T A B) (k : Turn base T B C) : Turn base T A C :=
  ⟨k.os.trans h.os, k.tape.trans h.tape, k.output.trans h.output, Nat.le_trans h.size k.size, fun i hi hs => (k.low i hi (Nat.lt_of_lt_of_le hs h.size)).trans (h.low i hi hs),
    fun i o hi ho => k.block i o (h.block i o hi ho) ho⟩
theorem Turn.mono {base : Nat} {T T' : List TypeId} {A C : World} (h : Turn base T A C) (ht : ∀ t ∈ T, t ∈ T') : Turn base T' A C :=
  ⟨h.os, h.tape, h.output, h.size, h.low, fun k o hk ho => h.block k o hk (fun t cs hm => ho t cs (ht t hm))⟩
theorem Turn.of_below {base : Nat} {T : List TypeId} {A C : World} (h : Below A.heap.size A C) : Turn base T A C :=
  ⟨h.os, h.tape, h.output, h.size, fun k _ hk => h.block k hk, fun k _ hk _ => (h.block k (Array.getElem?_eq_some_iff.1 hk).1).trans hk⟩
theorem Turn.below {base : Nat} {T : List TypeId} {A C : World} (h : Turn base T A C) (hb : base ≤ A.heap.size) : Below base A C :=
  ⟨h.os, h.tape, h.output, h.size, fun k hk => h.low k hk (by omega)⟩
theorem Turn.belowT {base B : Nat} {T : List TypeId} {w A C : World} (hb : Below B w A) (h : Turn base T A C) (hB : B ≤ base) (hs : B ≤ A.heap.size) : Below B w C :=
  hb.trans ⟨h.os, h.tape, h.output, h.size, fun k hk => h.low k (by omega) (by omega)⟩
theorem Turn.set {base : Nat} {T : List TypeId} {A C : World} (h : Turn base T A C) {g : Nat} {t : TypeId} {cs : Array Value} (hg : Blk C g t cs) (ht : t ∈ T) (hb : base ≤ g) (i : Nat) (u : Value) : Turn base T A (C.setCell ⟨g, i, none⟩ u) := by
  refine h.trans ⟨rfl, rfl, rfl, by simp [World.setCell], fun k hk _ => Below.heap_setCell C ⟨g, i, none⟩ u k (by dsimp only; omega), fun k o hk ho => ?_⟩
  by_cases e : k = g
  · subst e
    unfold Blk at hg
    rw [hg] at hk
    injection hk with hk
    exact absurd hk.symm (ho t cs ht)
  · exact (Below.heap_setCell C ⟨g, i, none⟩ u k e).trans hk
theorem Turn.row {base : Nat} {T : List TypeId} {A C : World} (h : Turn base T A C) {g : Nat} {t : TypeId} {cs : Array Value} (hg : Blk C g t cs) (ht : t ∈ T) (hb : base ≤ g) (cs2 : Array Value) : Turn base T A (C.setRow g cs2) := by
  refine h.trans ⟨rfl, rfl, rfl, by simp, fun k hk _ => setRow_other C g k cs2 (by omega), fun k o hk ho => ?_⟩
  by_cases e : k = g
  · subst e
    unfold Blk at hg
    rw [hg] at hk
    injection hk with hk
    exact absurd hk.symm (ho t cs ht)
  · exact (setRow_other C g k cs2 e).trans hk
theorem Turn.alloc {base : Nat} {T : List TypeId} {A C : World} (h : Turn base T A C) (o : Obj) : Turn base T A (C.alloc o) := h.trans (Turn.of_below ((Below.refl _ C).alloc (Nat.le_refl _) o))
theorem Turn.then_ {base : Nat} {T : List TypeId} {A C D : World} (h : Turn base T A C) (hb : Below C.heap.size C D) : Turn base T A D := h.trans (Turn.of_below hb)
theorem Turn.drew {base : Nat} {T : List TypeId} {A C : World} (h : Turn base T A C) : Turn base T A C.drew := h.then_ (Below.refl _ C).drew
theorem Turn.drewN {base : Nat} {T : List TypeId} {A C : World} (h : Turn base T A C) (n : Nat) : Turn base T A (C.drewN n) := h.then_ (below_drewN (Below.refl _ C) n)
/-- a row that has grown in place or anew -/
theorem Turn.grown {base : Nat} {T : List TypeId} {A C D : World} (h : Turn base T A C) {low : Nat} {e : TypeId} {size n : Nat} {v : Value} {xs : List Value} (ho : C.ownsRow low e size v n xs) (hg : C.grownBy D v.ownBlock) (ht : e ∈ T) (hb : base ≤ low) : Turn base T A D := by
  refine h.trans ⟨hg.os, hg.tape, hg.output, hg.size, fun k hk hs => hg.block k hs (fun q => by have := own_block_ge ho k q.symm; omega), fun k o hk hno => ?_⟩
  refine (hg.block k (Array.getElem?_eq_some_iff.1 hk).1 (fun q => ?_)).trans hk
  rcases ho.2 with ⟨rfl, _⟩ | ⟨g, cap, cur, rfl, _, hb2, _⟩
  · simp [Value.ownBlock] at q
  · simp [Value.ownBlock] at q
    subst q
    rw [show C.heap[k]? = _ from hb2] at hk
    injection hk with hk
    exact hno e cur ht hk.symm
theorem Blk.turn {base : Nat} {T : List TypeId} {A C : World} {g : Nat} {t : TypeId} {cs : Array Value} (hg : Blk A g t cs) (h : Turn base T A C) (ht : t ∉ T) : Blk C g t cs :=
  h.block g _ hg (fun t' cs' hm e => by injection e with _ e2; exact ht (e2 ▸ hm))
/-- a slice that reads as cells; its block lies below base or holds elements of type t -/
structure Rd (W : World) (base : Nat) (t : TypeId) (sz : Nat) (A : Option Addr) (n : Nat) (xs : List Value) : Prop where
  rd : Reads W W.heap.size sz A n xs
  tg : 0 < n → ∀ ad, A = some ad → ad.block < base ∨ TagAt W ad.block t
theorem Rd.turn {W W' : World} {base : Nat} {T : List TypeId} {t : TypeId} {sz : Nat} {A : Option Addr} {n : Nat} {xs : List Value} (h : Rd W base t sz A n xs) (hT : Turn base T W W') (ht : t ∉ T) : Rd W' base t sz A n xs := by
  have key : 0 < n → ∀ ad, A = some ad → ad.block < W.heap.size → W'.heap[ad.block]? = W.heap[ad.block]? := fun h0 ad e hl => by
    rcases h.tg h0 ad e with h1 | ⟨cs, h1⟩
    · exact hT.low _ h1 hl
    · have h2 := h1.turn hT ht
      unfold Blk at h1 h2
      rw [h1, h2]
  refine ⟨⟨h.rd.1, fun h0 => ?_⟩, fun h0 ad e => ?_⟩
  · obtain ⟨ad, e, hl, hc⟩ := h.rd.2 h0
    exact ⟨ad, e, Nat.lt_of_lt_of_le hl hT.size, fun j u hu => (World.cell?_of_block (by rw [block_of_add]; exact key h0 ad e hl)).trans (hc j u hu)⟩
  · rcases h.tg h0 ad e with h1 | ⟨cs, h1⟩
    · exact .inl h1
    · exact .inr ⟨cs, h1.turn hT ht⟩
theorem Rd.up {W W' : World} {base : Nat} {t : TypeId} {sz : Nat} {A : Option Addr} {n : Nat} {xs : List Value} (h : Rd W base t sz A n xs) (hb : Below W.heap.size W W') : Rd W' base t sz A n xs := h.turn (T := []) (Turn.of_below hb) (by simp)
theorem Rd.none_ {W : World} {base : Nat} {t : TypeId} {sz : Nat} {A : Option Addr} : Rd W base t sz A 0 [] := ⟨⟨by simp, fun h => absurd h (by omega)⟩, fun h => absurd h (by omega)⟩
theorem Rd.of_own {W : World} {base low : Nat} {t : TypeId} {sz : Nat} {A : Option Addr} {n c : Nat} {xs : List Value} (h : W.ownsRow low t sz (.slice A n c) n xs) : Rd W base t sz A n xs := by
  refine ⟨Reads.of_own h, fun h0 ad e => ?_⟩
  obtain ⟨g, cap, cur, hv, _, hb, _⟩ := own_blk h h0
  injection hv with hA
  rw [hA] at e
  injection e with e
  subst e
  exact .inr ⟨cur, hb⟩
theorem Rd.of_blk {W : World} {base : Nat} {t : TypeId} {sz n : Nat} {g : Nat} {cs : Array Value} (h : Blk W g t cs) (hs : cs.size = n * sz) : Rd W base t sz (some ⟨g, 0, none⟩) n cs.toList :=
  ⟨h.reads hs, fun _ ad e => by injection e with e; subst e; exact .inr ⟨cs, h⟩⟩
theorem Rd.low {W : World} {base base' : Nat} {t : TypeId} {sz : Nat} {A : Option Addr} {n : Nat} {xs : List Value} (h : Rd W base t sz A n xs) (hb : base ≤ base') : Rd W base' t sz A n xs :=
  ⟨h.rd, fun h0 ad e => (h.tg h0 ad e).imp (fun h => by omega) id⟩
theorem Rd.of_args {W : World} {base : Nat} {t : TypeId} {sz : Nat} {A : Option Addr} {n : Nat} {xs : List Value} (h : Reads W W.heap.size sz A n xs) (hb : W.heap.size ≤ base) : Rd W base t sz A n xs :=
  ⟨h, fun h0 ad e => by
    obtain ⟨ad2, e2, h2, _⟩ := h.2 h0
    rw [e] at e2
    injection e2 with e2
    subst e2
    exact .inl (by omega)⟩
theorem Rd.take {W : World} {base : Nat} {t : TypeId} {sz : Nat} {A : Option Addr} {n : Nat} {xs : List Value} (h : Rd W base t sz A n xs) {k : Nat} (hk : k ≤ n) : Rd W base t sz A k (xs.take (k * sz)) :=
  ⟨h.rd.take hk, fun h0 => h.tg (by omega)⟩
theorem Rd.cut {W : World} {base : Nat} {t : TypeId} {sz : Nat} {A : Option Addr} {n : Nat} {xs : List Value} (h : Rd W base t sz A n xs) {k cap : Nat} (hk : k ≤ n) (hc : n ≤ cap) :
    Rd W base t sz (if cap = k then A else A.map (·.add (k * sz))) (n - k) (xs.drop (k * sz)) :=
  ⟨h.rd.cut hk hc, fun h0 ad e => by
    rw [if_neg (by omega)] at e
    obtain ⟨ad2, rfl, _, _⟩ := h.rd.2 (by omega)
    simp only [Option.map_some, Option.some.injEq] at e
    subst e
    rw [block_of_add]
    exact h.tg (by omega) ad2 rfl⟩
/-- bytes -/
def Byt (W : World) (base : Nat) (A : Option Addr) (p : List Nat) : Prop := Rd W base 5 1 A p.length (u8s p)
/-- a slice value of elements E that satisfy R -/
structure Vec {α : Type} (E : α → List Value) (R : World → Nat → α → Prop) (t : TypeId) (sz : Nat) (W : World) (base : Nat) (v : Value) (l : List α) : Prop where
  val : ∃ A c, v = .slice A l.length c ∧ l.length ≤ c ∧ c ≤ maxLen ∧ Rd W base t sz A l.length (l.flatMap E)
  el : ∀ e ∈ l, R W base e
/-- elements abide changes of the types T -/
def Abides {α : Type} (R : World → Nat → α → Prop) (T : List TypeId) : Prop := ∀ W W' base e, Turn base T W W' → R W base e → R W' base e
theorem Vec.turn {α : Type} {E : α → List Value} {R : World → Nat → α → Prop} {t : TypeId} {sz : Nat} {W W' : World} {base : Nat} {v : Value} {l : List α} (h : Vec E R t sz W base v l) {T : List TypeId} (hT : Turn base T W W') (ht : t ∉ T) (hR : Abides R T) : Vec E R t sz W' base v l := by
  obtain ⟨A, c, h1, h2, h3, h4⟩ := h.val
  exact ⟨⟨A, c, h1, h2, h3, h4.turn hT ht⟩, fun e he => hR _ _ _ _ hT (h.el e he)⟩
theorem Vec.up {α : Type} {E : α → List Value} {R : World → Nat → α → Prop} {t : TypeId} {sz : Nat} {W W' : World} {base : Nat} {v : Value} {l : List α} (h : Vec E R t sz W base v l) (hb : Below W.heap.size W W') (hR : Abides R []) : Vec E R t sz W' base v l :=
  h.turn (T := []) (Turn.of_below hb) (by simp) hR
theorem Vec.nil {α : Type} {E : α → List Value} {R : World → Nat → α → Prop} {t : TypeId} {sz : Nat} {W : World} {base : Nat} : Vec E R t sz W base (.slice none 0 0) [] :=
  ⟨⟨none, 0, rfl, by simp, by unfold maxLen; omega, Rd.none_⟩, nofun⟩
/-- an owned row whose elements satisfy R -/
structure Own1 {α : Type} (E : α → List Value) (R : World → Nat → α → Prop) (t : TypeId) (sz : Nat) (W : World) (base low : Nat) (v : Value) (l : List α) : Prop where
  own : W.ownsRow low t sz v l.length (l.flatMap E)
  el : ∀ e ∈ l, R W base e
theorem Own1.vec {α : Type} {E : α → List Value} {R : World → Nat → α → Prop} {t : TypeId} {sz : Nat} {W : World} {base low : Nat} {v : Value} {l : List α} (h : Own1 E R t sz W base low v l) : Vec E R t sz W base v l := by
  obtain ⟨A, c, rfl, h1, h2, _⟩ := own_slice h.own
  exact ⟨⟨A, c, rfl, h1, h2, Rd.of_own h.own⟩, h.el⟩
theorem Own1.turn {α : Type} {E : α → List Value} {R : World → Nat → α → Prop} {t : TypeId} {sz : Nat} {W W' : World} {base low : Nat} {v : Value} {l : List α} (h : Own1 E R t sz W base low v l) {T : List TypeId} (hT : Turn base T W W') (ht : t ∉ T) (hR : Abides R T) : Own1 E R t sz W' base low v l := by
  refine ⟨own_keep h.own (fun g hg => ?_), fun e he => hR _ _ _ _ hT (h.el e he)⟩
  rcases h.own.2 with ⟨rfl, _⟩ | ⟨g2, cap, cur, rfl, _, hb, _⟩
  · simp [Value.ownBlock] at hg
  · simp [Value.ownBlock] at hg
    subst hg
    have h1 : Blk W g2 t cur := hb
    have h2 := h1.turn hT ht
    unfold Blk at h1 h2
    rw [h1, h2]
theorem Own1.up {α : Type} {E : α → List Value} {R : World → Nat → α → Prop} {t : TypeId} {sz : Nat} {W W' : World} {base low : Nat} {v : Value} {l : List α} (h : Own1 E R t sz W base low v l) (hb : Below W.heap.size W W') (hR : Abides R []) : Own1 E R t sz W' base low v l :=
  h.turn (T := []) (Turn.of_below hb) (by simp) hR
theorem Own1.nil {α : Type} {E : α → List Value} {R : World → Nat → α → Prop} {t : TypeId} {sz : Nat} {W : World} {base low : Nat} : Own1 E R t sz W base low (.slice none 0 0) [] := ⟨World.ownsRow_nil _ _ _ _, nofun⟩
/-- an element is appended -/
theorem Own1.push {α : Type} {E : α → List Value} {R : World → Nat → α → Prop} {t : TypeId} {sz : Nat} {W W' : World} {base low : Nat} {v v' : Value} {l : List α} {x : α} (h : Own1 E R t sz W base low v l) (hl : base ≤ low) (ho : W'.ownsRow low t sz v' (l.length + 1) (l.flatMap E ++ E x)) (hg : W.grownBy W' v.ownBlock)
    (hR : Abides R [t]) (hx : R W base x) : Own1 E R t sz W' base low v' (l ++ [x]) := by
  have hT : Turn base [t] W W' := (Turn.refl base [t] W).grown h.own hg (by simp) hl
  refine ⟨by simpa using ho, fun e he => ?_⟩
  rcases List.mem_append.1 he with he | he
  · exact hR _ _ _ _ hT (h.el e he)
  · rw [List.mem_singleton] at he
    subst he
    exact hR _ _ _ _ hT hx
theorem abides_nil {α : Type} {R : World → Nat → α → Prop} {T : List TypeId} (h : Abides R T) : Abides R [] := fun W W' base e hT hr => h W W' base e (hT.mono (by simp)) hr
theorem Byt.turn {W W' : World} {base : Nat} {A : Option Addr} {p : List Nat} (h : Byt W base A p) {T : List TypeId} (hT : Turn base T W W') (ht : 5 ∉ T) : Byt W' base A p := Rd.turn h hT ht
theorem Byt.up {W W' : World} {base : Nat} {A : Option Addr} {p : List Nat} (h : Byt W base A p) (hb : Below W.heap.size W W') : Byt W' base A p := Rd.up h hb
end Go.Proofs.Ytanmndhdhlmjgaa

/- Senders, receivers and packets as values in memory. No condition. -/
namespace Go.Proofs.Ytanmndhdhlmjgaa
open Go.RowKit
/-- an outstanding payload in memory -/
structure Oe where
  seq : Int
  time : Int
  cnt : Int
  ak : Bool
  A : Option Addr
  c : Nat
  p : List Nat
def Oe.om (e : Oe) : Om := ⟨e.seq, e.time, e.cnt, e.ak, e.p⟩
def encO (e : Oe) : List Value := [.int .i64 e.seq, .int .i64 e.time, .int .i64 e.cnt, .bool e.ak, .slice e.A e.p.length e.c]
def OeR (W : World) (base : Nat) (e : Oe) : Prop := Byt W base e.A e.p
/-- a payload in memory -/
structure Qe where
  A : Option Addr
  c : Nat
  p : List Nat
def encQ (e : Qe) : List Value := [.slice e.A e.p.length e.c]
def QeR (W : World) (base : Nat) (e : Qe) : Prop := Byt W base e.A e.p
/-- an arrived payload in memory -/
structure Ae where
  seq : Int
  A : Option Addr
  c : Nat
  p : List Nat
def Ae.am (e : Ae) : Am := ⟨e.seq, e.p⟩
def encA (e : Ae) : List Value := [.int .i64 e.seq, .slice e.A e.p.length e.c]
def AeR (W : World) (base : Nat) (e : Ae) : Prop := Byt W base e.A e.p
def encX (e : Xm) : List Value := [.int .i64 e.s, .int .i64 e.c]
def XeR (_ : World) (_ : Nat) (_ : Xm) : Prop := True
/-- a packet in memory -/
structure Ke where
  kind : Int
  ses : Int
  seq : Int
  ack : Int
  cred : Int
  vs : Value
  sel : List Xm
  A : Option Addr
  c : Nat
  p : List Nat
def Ke.pm (e : Ke) : Pm := ⟨e.kind, e.ses, e.seq, e.ack, e.cred, e.sel, e.p⟩
def encK (e : Ke) : List Value := [.int .i64 e.kind, .int .i64 e.ses, .int .i64 e.seq, .int .i64 e.ack, .int .i64 e.cred, e.vs, .slice e.A e.p.length e.c]
def KeR (W : World) (base : Nat) (e : Ke) : Prop := Vec encX XeR 87 2 W base e.vs e.sel ∧ Byt W base e.A e.p
theorem encO_len (e : Oe) : (encO e).length = 5 := rfl
theorem encQ_len (e : Qe) : (encQ e).length = 1 := rfl
theorem encA_len (e : Ae) : (encA e).length = 2 := rfl
theorem encX_len (e : Xm) : (encX e).length = 2 := rfl
theorem encK_len (e : Ke) : (encK e).length = 7 := rfl
theorem oeR_ab {T : List TypeId} (h : 5 ∉ T) : Abides OeR T := fun _ _ _ _ hT hr => Byt.turn hr hT h
theorem qeR_ab {T : List TypeId} (h : 5 ∉ T) : Abides QeR T := fun _ _ _ _ hT hr => Byt.turn hr hT h
theorem aeR_ab {T : List TypeId} (h : 5 ∉ T) : Abides AeR T := fun _ _ _ _ hT hr => Byt.turn hr hT h
theorem xeR_ab {T : List TypeId} : Abides XeR T := fun _ _ _ _ _ _ => trivial
theorem keR_ab {T : List TypeId} (h : 5 ∉ T) (h' : 87 ∉ T) : Abides KeR T := fun _ _ _ _ hT hr => ⟨hr.1.turn hT h' xeR_ab, hr.2.turn hT h⟩
/-- the outstanding payloads, as a slice value -/
def OsV (W : World) (base : Nat) (l : List Om) (v : Value) : Prop := ∃ es, Vec encO OeR 82 5 W base v es ∧ es.map Oe.om = l
def QsV (W : World) (base : Nat) (l : List (List Nat)) (v : Value) : Prop := ∃ es, Vec encQ QeR 42 1 W base v es ∧ es.map Qe.p = l
def AsV (W : World) (base : Nat) (l : List Am) (v : Value) : Prop := ∃ es, Vec encA AeR 84 2 W base v es ∧ es.map Ae.am = l
def XsV (W : World) (base : Nat) (l : List Xm) (v : Value) : Prop := Vec encX XeR 87 2 W base v l
def KsV (W : World) (base : Nat) (l : List Pm) (v : Value) : Prop := ∃ es, Vec encK KeR 55 7 W base v es ∧ es.map Ke.pm = l
theorem OsV.turn {W W' : World} {base : Nat} {l : List Om} {v : Value} (h : OsV W base l v) {T : List TypeId} (hT : Turn base T W W') (h5 : 5 ∉ T) (h8 : 82 ∉ T) : OsV W' base l v := by
  obtain ⟨es, h1, h2⟩ := h
  exact ⟨es, h1.turn hT h8 (oeR_ab h5), h2⟩
theorem QsV.turn {W W' : World} {base : Nat} {l : List (List Nat)} {v : Value} (h : QsV W base l v) {T : List TypeId} (hT : Turn base T W W') (h5 : 5 ∉ T) (h8 : 42 ∉ T) : QsV W' base l v := by
  obtain ⟨es, h1, h2⟩ := h
  exact ⟨es, h1.turn hT h8 (qeR_ab h5), h2⟩
theorem AsV.turn {W W' : World} {base : Nat} {l : List Am} {v : Value} (h : AsV W base l v) {T : List TypeId} (hT : Turn base T W W') (h5 : 5 ∉ T) (h8 : 84 ∉ T) : AsV W' base l v := by
  obtain ⟨es, h1, h2⟩ := h
  exact ⟨es, h1.turn hT h8 (aeR_ab h5), h2⟩
theorem XsV.turn {W W' : World} {base : Nat} {l : List Xm} {v : Value} (h : XsV W base l v) {T : List TypeId} (hT : Turn base T W W') (h8 : 87 ∉ T) : XsV W' base l v := Vec.turn h hT h8 xeR_ab
theorem KsV.turn {W W' : World} {base : Nat} {l : List Pm} {v : Value} (h : KsV W base l v) {T : List TypeId} (hT : Turn base T W W') (h5 : 5 ∉ T) (h8 : 55 ∉ T) (h9 : 87 ∉ T) : KsV W' base l v := by
  obtain ⟨es, h1, h2⟩ := h
  exact ⟨es, h1.turn hT h8 (keR_ab h5 h9), h2⟩
theorem OsV.up {W W' : World} {base : Nat} {l : List Om} {v : Value} (h : OsV W base l v) (hb : Below W.heap.size W W') : OsV W' base l v := h.turn (T := []) (Turn.of_below hb) (by simp) (by simp)
theorem QsV.up {W W' : World} {base : Nat} {l : List (List Nat)} {v : Value} (h : QsV W base l v) (hb : Below W.heap.size W W') : QsV W' base l v := h.turn (T := []) (Turn.of_below hb) (by simp) (by simp)
theorem AsV.up {W W' : World} {base : Nat} {l : List Am} {v : Value} (h : AsV W base l v) (hb : Below W.heap.size W W') : AsV W' base l v := h.turn (T := []) (Turn.of_below hb) (by simp) (by simp)
theorem XsV.up {W W' : World} {base : Nat} {l : List Xm} {v : Value} (h : XsV W base l v) (hb : Below W.heap.size W W') : XsV W' base l v := h.turn (T := []) (Turn.of_below hb) (by simp)
theorem KsV.up {W W' : World} {base : Nat} {l : List Pm} {v : Value} (h : KsV W base l v) (hb : Below W.heap.size W W') : KsV W' base l v := h.turn (T := []) (Turn.of_below hb) (by simp) (by simp) (by simp)
theorem OsV.form {W : World} {base : Nat} {l : List Om} {v : Value} (h : OsV W base l v) : ∃ A c, v = .slice A l.length c ∧ l.length ≤ c ∧ c ≤ maxLen := by
  obtain ⟨es, ⟨⟨A, c, h1, h2, h3, _⟩, _⟩, rfl⟩ := h
  exact ⟨A, c, by simpa using h1, by simpa using h2, h3⟩
theorem QsV.form {W : World} {base : Nat} {l : List (List Nat)} {v : Value} (h : QsV W base l v) : ∃ A c, v = .slice A l.length c ∧ l.length ≤ c ∧ c ≤ maxLen := by
  obtain ⟨es, ⟨⟨A, c, h1, h2, h3, _⟩, _⟩, rfl⟩ := h
  exact ⟨A, c, by simpa using h1, by simpa using h2, h3⟩
theorem AsV.form {W : World} {base : Nat} {l : List Am} {v : Value} (h : AsV W base l v) : ∃ A c, v = .slice A l.length c ∧ l.length ≤ c ∧ c ≤ maxLen := by
  obtain ⟨es, ⟨⟨A, c, h1, h2, h3, _⟩, _⟩, rfl⟩ := h
  exact ⟨A, c, by simpa using h1, by simpa using h2, h3⟩
theorem XsV.form {W : World} {base : Nat} {l : List Xm} {v : Value} (h : XsV W base l v) : ∃ A c, v = .slice A l.length c ∧ l.length ≤ c ∧ c ≤ maxLen := by
  obtain ⟨⟨A, c, h1, h2, h3, _⟩, _⟩ := h
  exact ⟨A, c, h1, h2, h3⟩
theorem KsV.form {W : World} {base : Nat} {l : List Pm} {v : Value} (h : KsV W base l v) : ∃ A c, v = .slice A l.length c ∧ l.length ≤ c ∧ c ≤ maxLen := by
  obtain ⟨es, ⟨⟨A, c, h1, h2, h3, _⟩, _⟩, rfl⟩ := h
  exact ⟨A, c, by simpa using h1, by simpa using h2, h3⟩
/-- the cells of a sender -/
def snC (s : Sm) (vo vq : Value) : Array Value := #[.int .i64 s.ses, .int .i64 s.lim, .int .i64 s.tmo, .int .i64 s.base, .int .i64 s.next, .int .i64 s.cred, vo, vq]
def rcC (r : Rm) (ve : Value) : Array Value := #[.int .i64 r.ses, .int .i64 r.lim, .int .i64 r.next, ve]
def pkC (p : Pm) (vs vp : Value) : Array Value := #[.int .i64 p.kind, .int .i64 p.ses, .int .i64 p.seq, .int .i64 p.ack, .int .i64 p.cred, vs, vp]
/-- bytes as a slice value -/
def BsV (W : World) (base : Nat) (p : List Nat) (v : Value) : Prop := ∃ A c, v = .slice A p.length c ∧ Byt W base A p
/-- a sender, a receiver, a packet as values -/
def SnV (W : World) (base : Nat) (s : Sm) (v : Value) : Prop := ∃ vo vq, v = .agg (snC s vo vq) ∧ OsV W base s.out vo ∧ QsV W base s.q vq
def RcV (W : World) (base : Nat) (r : Rm) (v : Value) : Prop := ∃ ve, v = .agg (rcC r ve) ∧ AsV W base r.early ve
def PkV (W : World) (base : Nat) (p : Pm) (v : Value) : Prop := ∃ vs vp, v = .agg (pkC p vs vp) ∧ XsV W base p.sel vs ∧ BsV W base p.p vp
theorem BsV.turn {W W' : World} {base : Nat} {p : List Nat} {v : Value} (h : BsV W base p v) {T : List TypeId} (hT : Turn base T W W') (h5 : 5 ∉ T) : BsV W' base p v := by
  obtain ⟨A, c, h1, h2⟩ := h
  exact ⟨A, c, h1, h2.turn hT h5⟩
theorem BsV.up {W W' : World} {base : Nat} {p : List Nat} {v : Value} (h : BsV W base p v) (hb : Below W.heap.size W W') : BsV W' base p v := h.turn (T := []) (Turn.of_below hb) (by simp)
theorem SnV.turn {W W' : World} {base : Nat} {s : Sm} {v : Value} (h : SnV W base s v) {T : List TypeId} (hT : Turn base T W W') (h5 : 5 ∉ T) (h8 : 82 ∉ T) (h4 : 42 ∉ T) : SnV W' base s v := by
  obtain ⟨vo, vq, h1, h2, h3⟩ := h
  exact ⟨vo, vq, h1, h2.turn hT h5 h8, h3.turn hT h5 h4⟩
theorem SnV.up {W W' : World} {base : Nat} {s : Sm} {v : Value} (h : SnV W base s v) (hb : Below W.heap.size W W') : SnV W' base s v := h.turn (T := []) (Turn.of_below hb) (by simp) (by simp) (by simp)
theorem RcV.turn {W W' : World} {base : Nat} {r : Rm} {v : Value} (h : RcV W base r v) {T : List TypeId} (hT : Turn base T W W') (h5 : 5 ∉ T) (h8 : 84 ∉ T) : RcV W' base r v := by
  obtain ⟨ve, h1, h2⟩ := h
  exact ⟨ve, h1, h2.turn hT h5 h8⟩
theorem RcV.up {W W' : World} {base : Nat} {r : Rm} {v : Value} (h : RcV W base r v) (hb : Below W.heap.size W W') : RcV W' base r v := h.turn (T := []) (Turn.of_below hb) (by simp) (by simp)
theorem PkV.turn {W W' : World} {base : Nat} {p : Pm} {v : Value} (h : PkV W base p v) {T : List TypeId} (hT : Turn base T W W') (h5 : 5 ∉ T) (h8 : 87 ∉ T) : PkV W' base p v := by
  obtain ⟨vs, vp, h1, h2, h3⟩ := h
  exact ⟨vs, vp, h1, h2.turn hT h8, h3.turn hT h5⟩
theorem PkV.up {W W' : World} {base : Nat} {p : Pm} {v : Value} (h : PkV W base p v) (hb : Below W.heap.size W W') : PkV W' base p v := h.turn (T := []) (Turn.of_below hb) (by simp) (by simp)
/-- small enough that no number wraps -/
structure Small (s : Sm) : Prop where
  out : s.out.length ≤ 10000
  q : s.q.length ≤ 10000
structure SmallR (r : Rm) : Prop where
  early : r.early.length ≤ 10000
structure SmallP (p : Pm) : Prop where
  sel : p.sel.length ≤ 10000
  p : p.p.length ≤ 100000
theorem info82 : (Try.prog.info? 82).map (fun i => (i.zero, i.size, i.bytes)) = some (some (.agg #[.int .i64 0, .int .i64 0, .int .i64 0, .bool false, .slice none 0 0]), 5, 56) := by kernel_rfl
theorem info42 : (Try.prog.info? 42).map (fun i => (i.zero, i.size, i.bytes)) = some (some (.slice none 0 0), 1, 24) := by kernel_rfl
theorem info84 : (Try.prog.info? 84).map (fun i => (i.zero, i.size, i.bytes)) = some (some (.agg #[.int .i64 0, .slice none 0 0]), 2, 32) := by kernel_rfl
theorem info87 : (Try.prog.info? 87).map (fun i => (i.zero, i.size, i.bytes)) = some (some (.agg #[.int .i64 0, .int .i64 0]), 2, 16) := by kernel_rfl
theorem info55 : (Try.prog.info? 55).map (fun i => (i.zero, i.size, i.bytes)) = some (some (.agg #[.int .i64 0, .int .i64 0, .int .i64 0, .int .i64 0, .int .i64 0, .slice none 0 0, .slice none 0 0]), 7, 88) := by kernel_rfl
theorem info5b : (Try.prog.info? 5).map (fun i => (i.zero, i.size, i.bytes)) = some (some (.int .u8 0), 1, 1) := by kernel_rfl
theorem bcell {W w1 : World} (hb : Below W.heap.size W w1) : (∀ b o, b < W.heap.size → w1.cell? ⟨b, o, none⟩ = W.cell? ⟨b, o, none⟩) ∧ (∀ b o, b < W.heap.size → w1.frozen? ⟨b, o, none⟩ = W.frozen? ⟨b, o, none⟩) :=
  ⟨fun b o h => hb.cell (p := ⟨b, o, none⟩) h, fun b o h => hb.frozen (p := ⟨b, o, none⟩) h⟩
theorem below_step {X W w' : World} (h : Below X.heap.size X W) (hb : Below W.heap.size W w') : Below X.heap.size X w' := h.trans (hb.mono h.size)
theorem u8s_len (l : List Nat) : (u8s l).length = l.length := by simp [u8s]
theorem u8s_one (l : List Nat) : ∀ u ∈ u8s l, u.oneCell' = true := by
  intro u hu
  simp only [u8s, List.mem_map] at hu
  obtain ⟨x, _, rfl⟩ := hu
  rfl
end Go.Proofs.Ytanmndhdhlmjgaa

/- A range over an iterator that stores into cells of some types, while the round stores into cells of others: its contract and the law for the caller. No condition. -/
namespace Go.Proofs.Ytanmndhdhlmjgaa
open Go.RowKit
/-- cells from base on whose type is in T have changed; other objects from base on, too -/
structure TurnW (base : Nat) (T : List TypeId) (A C : World) : Prop where
  os : C.os = A.os
  tape : C.tape = A.tape
  output : C.output = A.output
  size : A.heap.size ≤ C.heap.size
  low : ∀ k, k < base → k < A.heap.size → C.heap[k]? = A.heap[k]?
  block : ∀ (k : Nat) (t : TypeId) (cs : Array Value), Blk A k t cs → t ∉ T → Blk C k t cs
theorem TurnW.refl (base : Nat) (T : List TypeId) (A : World) : TurnW base T A A := ⟨rfl, rfl, rfl, Nat.le_refl _, fun _ _ _ => rfl, fun _ _ _ h _ => h⟩
theorem TurnW.trans {base : Nat} {T : List TypeId} {A B C : World} (h : TurnW base T A B) (k : TurnW base T B C) : TurnW base T A C :=
  ⟨k.os.trans h.os, k.tape.trans h.tape, k.output.trans h.output, Nat.le_trans h.size k.size, fun i hi hs => (k.low i hi (Nat.lt_of_lt_of_le hs h.size)).trans (h.low i hi hs),
    fun i t cs hi ht => k.block i t cs (h.block i t cs hi ht) ht⟩
theorem TurnW.mono {base : Nat} {T T' : List TypeId} {A C : World} (h : TurnW base T A C) (ht : ∀ t ∈ T, t ∈ T') : TurnW base T' A C :=
  ⟨h.os, h.tape, h.output, h.size, h.low, fun k t cs hk hn => h.block k t cs hk (fun hm => hn (ht t hm))⟩
theorem Turn.w {base : Nat} {T : List TypeId} {A C : World} (h : Turn base T A C) : TurnW base T A C :=
  ⟨h.os, h.tape, h.output, h.size, h.low, fun _ _ _ hk ht => hk.turn h ht⟩
theorem Below.w {base : Nat} {T : List TypeId} {A C : World} (h : Below A.heap.size A C) : TurnW base T A C := (Turn.of_below h).w
theorem TurnW.put {base : Nat} {T : List TypeId} {A C : World} (h : TurnW base T A C) {l : Nat} (hl : base ≤ l) {o : Obj} (ho : C.heap[l]? = some o) (hc : o.isCells = false) (o' : Obj) : TurnW base T A (C.putObj l o') :=
  h.trans ⟨rfl, rfl, rfl, by simp, fun k hk _ => World.putObj_heap_other (by omega), fun k t cs hk _ => by
    have hn : k ≠ l := by
      intro e
      subst e
      unfold Blk at hk
      rw [hk] at ho
      injection ho with ho
      rw [← ho] at hc
      simp [Obj.isCells] at hc
    unfold Blk at hk ⊢
    exact (World.putObj_heap_other hn).trans hk⟩
theorem Blk.turnW {base : Nat} {T : List TypeId} {A C : World} {g : Nat} {t : TypeId} {cs : Array Value} (hg : Blk A g t cs) (h : TurnW base T A C) (ht : t ∉ T) : Blk C g t cs := h.block g t cs hg ht
theorem Rd.turnW {W W' : World} {base : Nat} {T : List TypeId} {t : TypeId} {sz : Nat} {A : Option Addr} {n : Nat} {xs : List Value} (h : Rd W base t sz A n xs) (hT : TurnW base T W W') (ht : t ∉ T) : Rd W' base t sz A n xs := by
  have key : 0 < n → ∀ ad, A = some ad → ad.block < W.heap.size → W'.heap[ad.block]? = W.heap[ad.block]? := fun h0 ad e hl => by
    rcases h.tg h0 ad e with h1 | ⟨cs, h1⟩
    · exact hT.low _ h1 hl
    · have h2 := h1.turnW hT ht
      unfold Blk at h1 h2
      rw [h1, h2]
  refine ⟨⟨h.rd.1, fun h0 => ?_⟩, fun h0 ad e => ?_⟩
  · obtain ⟨ad, e, hl, hc⟩ := h.rd.2 h0
    exact ⟨ad, e, Nat.lt_of_lt_of_le hl hT.size, fun j u hu => (World.cell?_of_block (by rw [block_of_add]; exact key h0 ad e hl)).trans (hc j u hu)⟩
  · rcases h.tg h0 ad e with h1 | ⟨cs, h1⟩
    · exact .inl h1
    · exact .inr ⟨cs, h1.turnW hT ht⟩
theorem Byt.turnW {W W' : World} {base : Nat} {A : Option Addr} {p : List Nat} (h : Byt W base A p) {T : List TypeId} (hT : TurnW base T W W') (ht : 5 ∉ T) : Byt W' base A p := Rd.turnW h hT ht
def AbidesW {α : Type} (R : World → Nat → α → Prop) (T : List TypeId) : Prop := ∀ W W' base e, TurnW base T W W' → R W base e → R W' base e
theorem Vec.turnW {α : Type} {E : α → List Value} {R : World → Nat → α → Prop} {t : TypeId} {sz : Nat} {W W' : World} {base : Nat} {v : Value} {l : List α} (h : Vec E R t sz W base v l) {T : List TypeId} (hT : TurnW base T W W') (ht : t ∉ T) (hR : AbidesW R T) : Vec E R t sz W' base v l := by
  obtain ⟨A, c, h1, h2, h3, h4⟩ := h.val
  exact ⟨⟨A, c, h1, h2, h3, h4.turnW hT ht⟩, fun e he => hR _ _ _ _ hT (h.el e he)⟩
theorem Own1.turnW {α : Type} {E : α → List Value} {R : World → Nat → α → Prop} {t : TypeId} {sz : Nat} {W W' : World} {base low : Nat} {v : Value} {l : List α} (h : Own1 E R t sz W base low v l) {T : List TypeId} (hT : TurnW base T W W') (ht : t ∉ T) (hR : AbidesW R T) : Own1 E R t sz W' base low v l := by
  refine ⟨own_keep h.own (fun g hg => ?_), fun e he => hR _ _ _ _ hT (h.el e he)⟩
  rcases h.own.2 with ⟨rfl, _⟩ | ⟨g2, cap, cur, rfl, _, hb, _⟩
  · simp [Value.ownBlock] at hg
  · simp [Value.ownBlock] at hg
    subst hg
    have h1 : Blk W g2 t cur := hb
    have h2 := h1.turnW hT ht
    unfold Blk at h1 h2
    rw [h1, h2]
/-- the iterator's contract: it changes cells of the types T1, the round those of T2 -/
def SeqT {α : Type} (F : Fence) (n : Nat) (P : Program) (g : Nat) (lb : Array Value) (encs : α → Array Value) (R : World → α → Prop) (base N : Nat) (T1 T2 : List TypeId) (S : List α → World → Prop) (w : World) : Prop :=
  ∀ (l : Nat) (J : List α → World → Prop) (W : World), Below w.heap.size w W → (∀ s A C, J s A → Turn base T1 A C → J s C) →
    (∀ pre x W1, J pre W1 → R W1 x → pre.length < N → YieldAt F (n - 1) P l (encs x) W1 fun e W' => e = .returned (.bool true) ∧ J (pre ++ [x]) W' ∧ TurnW base T2 W1 W') →
    J [] W →
    CallsIn F n P g (#[.func (.yield l) #[] #[]] ++ lb) W fun e W' => (∃ v, e = .returned v) ∧ ∃ xs, S xs W' ∧ J xs W'
/-- how a round is left -/
def tPost {α : Type} (base : Nat) (T2 : List TypeId) (I : List α → World → Prop) (xs : List α) (W : World) : Exit → Act → World → Prop
  | .normal, _, W' => KeepsOthers W W' ∧ TurnW base T2 W W' ∧ I xs W'
  | _, _, _ => False
variable {F : Fence} {n : Nat} {P : Program}
theorem wpIn_rangeFunc_T {α : Type} {g : Operand} {ps : Array Tmp} {assign body : Code} {Q : Exit → Act → World → Prop} {a : Act} {w : World}
    (hro : F.round = none) (h1 : 1 ≤ n) {gf : Nat} {lb : Array Value} (hg : a.eval g = .func (.func gf) #[] lb) (hFg : F.fn gf) (eg : ∀ args w, (callFunc gf args).run P w = .ok (.enter gf args) w)
    {encs : α → Array Value} {R : World → α → Prop} {base N : Nat} {T1 T2 : List TypeId} {S : List α → World → Prop} {w0 : World} (hseq : SeqT F (n - 1) P gf lb encs R base N T1 T2 S w0)
    (hb0 : Below w0.heap.size w0 w) (hbase : base ≤ w.heap.size) (hps : ∀ x, (encs x).size = ps.size)
    (I : List α → World → Prop) (hI : ∀ s A C, I s A → TurnW base T1 A C → I s C) (h0 : I [] w)
    (hround : ∀ (l : Nat) (pre : List α) (x : α) (W : World), I pre W → R W x → w.heap.size ≤ W.heap.size → pre.length < N →
      assign.wpIn (F.inRound l) (n - 1 - 1) P (Exit.then (fun a₁ W₁ => Below W.heap.size W W₁ ∧ ∀ V, TurnW base [] W₁ V → V.heap.size = W₁.heap.size →
          body.wpIn (F.inRound l) (n - 1 - 1) P (tPost base T2 I (pre ++ [x]) V) a₁ V) (fun _ _ _ => False))
        { tmps := (ps.zip (encs x)).foldl (fun t (p, v) => t.setIfInBounds p v) a.tmps, defers := [] } W)
    (hdone : ∀ (D : Nat) (xs : List α) (W W' : World), w.heap.size ≤ D → S xs W → I xs W → TurnW base [] W W' → W'.heap[D]? = some (.deferred (some [])) → Q .normal { a with defers := { target := .collected D, args := #[] } :: a.defers } W') :
    (Code.rangeFunc g ps assign body).wpIn F n P Q a w := by
  refine wpIn_rangeFunc ?_
  intro fn hfn
  rw [hro]
  obtain ⟨rec, hrec⟩ : ∃ rec : LoopState → Option Code → Loop, rec = fun st pe => { state := st, pending := pe, fn, tmps := a.tmps, params := ps, assign, body, defers := w.heap.size } := ⟨_, rfl⟩
  obtain ⟨W1, hW1⟩ : ∃ W1, (w.alloc (.deferred (some []))).alloc (.loop (rec .ready none)) = W1 := ⟨_, rfl⟩
  have hsz : W1.heap.size = w.heap.size + 2 := by rw [← hW1]; simp
  have hL1 : W1.heap[w.heap.size + 1]? = some (.loop (rec .ready none)) := by
    rw [← hW1]; have := World.alloc_heap_new (w.alloc (.deferred (some []))) (.loop (rec .ready none)); rwa [World.size_alloc] at this
  have hK1 : W1.heap[w.heap.size]? = some (.deferred (some [])) := by
    rw [← hW1]; exact (Below.heap_alloc _ _ _ (by simp)).trans (World.alloc_heap_new w _)
  have hbw1 : Below w.heap.size w W1 := by rw [← hW1]; exact ((Below.refl _ w).alloc (Nat.le_refl _) _).alloc (by simp) _
  have hI1 : I [] W1 := hI _ _ _ h0 (Below.w hbw1)
  have hb1 : Below w0.heap.size w0 W1 := hb0.trans (hbw1.mono hb0.size)
  have two : ∀ {A C : World} {o1 o2 : Obj}, o1.isCells = false → o2.isCells = false → A.heap[w.heap.size + 1]? = some o1 ∧ A.heap[w.heap.size]? = some o2 → Turn base T1 A C → C.heap[w.heap.size + 1]? = some o1 ∧ C.heap[w.heap.size]? = some o2 := fun {A C o1 o2} c1 c2 h hk =>
    ⟨hk.block _ _ h.1 (fun t cs _ e => by rw [e] at c1; simp [Obj.isCells] at c1), hk.block _ _ h.2 (fun t cs _ e => by rw [e] at c2; simp [Obj.isCells] at c2)⟩
  refine ⟨w.heap.size + 1, [{ target := .collected w.heap.size, args := #[] }], W1, { target := .fn (.func gf) lb, args := #[.func (.yield (w.heap.size + 1)) #[] #[]] }, W1, gf,
    #[.func (.yield (w.heap.size + 1)) #[] #[]] ++ lb, W1, ?_, ?_, ?_, ?_, fun _ => h1, ?_⟩
  · rw [← hW1, hrec]; exact run_enterLoop_outer _ _ _ _ _
  · simp only [resolve, hg]
    simp [go_sem]
  · intro f' hf'; simp [Target.leads] at hf'; subst hf'; exact hFg
  · simp [invoke, go_sem, eg]
  · refine (hseq (w.heap.size + 1)
      (fun pre W => I pre W ∧ w.heap.size ≤ W.heap.size ∧ W.heap[w.heap.size + 1]? = some (.loop (rec .ready none)) ∧ W.heap[w.heap.size]? = some (.deferred (some [])))
      W1 hb1 (fun s A C hs hk => ⟨hI s A C hs.1 hk.w, Nat.le_trans hs.2.1 hk.size, two rfl rfl hs.2.2 hk⟩)
      ?_ ⟨hI1, by omega, hL1, hK1⟩).mono ?_
    · rintro pre x W ⟨hi, hsw, hl, hk⟩ hR hN
      have hlt : w.heap.size + 1 < W.heap.size := (Array.getElem?_eq_some_iff.1 hl).1
      have hy := run_yield (P := P) (args := encs x) hl (by rw [hrec]; exact hps x)
      rw [hrec] at hy
      refine ⟨fn, _, assign, body, hy, roundIn_of_wpIn hfn (wpIn_mono (hround _ pre x W hi hR hsw hN) ?_)⟩
      rintro e1 a₁ W₁ h1
      cases e1 with
      | normal => ?_
      | _ => exact h1.elim
      obtain ⟨hbl, hbd⟩ := h1
      have hl₁ : W₁.heap[w.heap.size + 1]? = _ := (hbl.block _ hlt).trans hl
      have hlt1 : w.heap.size + 1 < W₁.heap.size := (Array.getElem?_eq_some_iff.1 hl₁).1
      refine ⟨_, run_beginRound hl₁ (by rw [hrec]), ?_⟩
      obtain ⟨V, hV⟩ : ∃ V, W₁.putObj (w.heap.size + 1) (.loop { rec .ready none with state := .busy }) = V := ⟨_, rfl⟩
      rw [hV]
      have hl2 : V.heap[w.heap.size + 1]? = some (.loop { rec .ready none with state := .busy }) := by rw [← hV]; exact World.putObj_heap_same hlt1
      have hk2 : V.heap[w.heap.size]? = some (.deferred (some [])) := by rw [← hV]; exact (World.putObj_heap_other (by omega)).trans ((hbl.block _ (by omega)).trans hk)
      have hsV : V.heap.size = W₁.heap.size := by rw [← hV]; simp
      have hTV : TurnW base [] W₁ V := by rw [← hV]; exact (TurnW.refl _ _ _).put (by omega) hl₁ rfl _
      refine wpIn_mono (hbd V hTV hsV) ?_
      rintro e a3 W3 hp
      cases e with
      | normal =>
        obtain ⟨hk3, k1, hi3⟩ := hp
        have hl3 := hk3.same _ _ hl2 rfl
        have hr := run_endRound (P := P) (jump := none) hl3
        rw [hrec] at hr hl3
        refine ⟨_, _, hr, rfl, ⟨hI _ _ _ hi3 ((TurnW.refl _ _ _).put (by omega) hl3 rfl _), ?_, ?_, ?_⟩, ?_⟩
        · have := k1.size; have := hbl.size; simp; omega
        · rw [hrec]; exact World.putObj_heap_same (Array.getElem?_eq_some_iff.1 hl3).1
        · exact (World.putObj_heap_other (by omega)).trans (hk3.same _ _ hk2 rfl)
        · refine TurnW.put ?_ (by omega) hl3 rfl _
          exact (Below.w hbl).trans ((hTV.mono (by simp)).trans k1)
      | _ => exact hp.elim
    · rintro e W2 ⟨⟨v, rfl⟩, xs, hS, hi, hsw, hl, hk⟩
      refine ⟨none, _, by have := run_endLoop (P := P) hl (by rw [hrec]; simp); rw [hrec] at this; exact this, hdone _ xs W2 _ (Nat.le_refl _) hS hi ?_ ((World.putObj_heap_other (by omega)).trans hk)⟩
      exact (TurnW.refl _ _ _).put (by omega) hl rfl _
end Go.Proofs.Ytanmndhdhlmjgaa
