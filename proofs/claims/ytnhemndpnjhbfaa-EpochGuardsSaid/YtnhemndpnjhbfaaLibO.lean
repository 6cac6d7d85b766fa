/- A range over an iterator that stores into a block of its own between two rounds: its contract and the law for the caller. No condition. -/
import Derived.Test.YtnhemndpnjhbfaaLib
import Derived.RangeFuncFrom
import Derived.RangeFuncNested
import Derived.RangeFuncOne
namespace Go.Proofs.Ytnhemndpnjhbfaa
open Go.RowKit
/-- all that lay before is as it was, but for the blocks of S -/
structure Aside (S : Nat → Prop) (A C : World) : Prop where
  os : C.os = A.os
  tape : C.tape = A.tape
  output : C.output = A.output
  size : A.heap.size ≤ C.heap.size
  block : ∀ k, k < A.heap.size → ¬ S k → C.heap[k]? = A.heap[k]?
theorem Aside.refl (S : Nat → Prop) (A : World) : Aside S A A := ⟨rfl, rfl, rfl, Nat.le_refl _, fun _ _ _ => rfl⟩
theorem Aside.trans {S : Nat → Prop} {A B C : World} (h : Aside S A B) (k : Aside S B C) : Aside S A C :=
  ⟨k.os.trans h.os, k.tape.trans h.tape, k.output.trans h.output, Nat.le_trans h.size k.size, fun i hi hs => (k.block i (Nat.lt_of_lt_of_le hi h.size) hs).trans (h.block i hi hs)⟩
theorem Aside.mono {S T : Nat → Prop} {A C : World} (h : Aside S A C) (hs : ∀ k, S k → T k) : Aside T A C := ⟨h.os, h.tape, h.output, h.size, fun i hi ht => h.block i hi (fun q => ht (hs i q))⟩
theorem Aside.alloc {S : Nat → Prop} {A C : World} (h : Aside S A C) (o : Obj) : Aside S A (C.alloc o) :=
  h.trans ⟨rfl, rfl, rfl, by simp, fun i hi _ => Below.heap_alloc C o i hi⟩
theorem Aside.set {S : Nat → Prop} {A C : World} (h : Aside S A C) {p : Addr} (hp : S p.block) (u : Value) : Aside S A (C.setCell p u) :=
  h.trans ⟨rfl, rfl, rfl, by simp [World.setCell], fun i _ hs => Below.heap_setCell C p u i (fun e => hs (e ▸ hp))⟩
theorem Aside.put {S : Nat → Prop} {A C : World} (h : Aside S A C) {l : Nat} (hl : S l) (o : Obj) : Aside S A (C.putObj l o) :=
  h.trans ⟨rfl, rfl, rfl, by simp, fun i _ hs => World.putObj_heap_other (fun e => hs (e ▸ hl))⟩
/-- the iterator's contract: block W.heap.size is its own; the round's element lies in the newest block -/
def SeqStopsO {α : Type} (F : Fence) (n : Nat) (P : Program) (g : Nat) (lb : Array Value) (encs : α → Array Value) (Kp : World → World → Prop) (S Sp : List α → Prop) (w : World) : Prop :=
  ∀ (l : Nat) (J Jx : List α → World → Prop) (W : World), Below w.heap.size w W → (∀ s A C, J s A → Aside (· = W.heap.size) A C → J s C) → (∀ s A C, Jx s A → Aside (· = W.heap.size) A C → Jx s C) →
    (∀ pre x W0 W1, J pre W0 → Aside (· = W.heap.size) W0 W1 → W.heap.size < W0.heap.size → W1.heap.size = W0.heap.size + 1 → Sp (pre ++ [x]) → YieldAt F (n - 1) P l (encs x) W1 fun e W' =>
      (e = .returned (.bool true) ∧ J (pre ++ [x]) W' ∧ W'.heap[W.heap.size]? = W1.heap[W.heap.size]? ∧ W'.heap[W0.heap.size]? = W1.heap[W0.heap.size]? ∧ Kp W1 W') ∨ (e = .returned (.bool false) ∧ Jx (pre ++ [x]) W')) →
    J [] W →
    CallsIn F n P g (#[.func (.yield l) #[] #[]] ++ lb) W fun e W' => (∃ v, e = .returned v) ∧ ((∃ xs, S xs ∧ J xs W') ∨ (∃ pre, Sp pre ∧ Jx pre W'))
/-- the blocks that are not the caller's: the deferred calls', the loop's record, the iterator's own -/
def three (n1 k : Nat) : Prop := n1 ≤ k ∧ k ≤ n1 + 2
/-- how a round may be left -/
def oPost {α : Type} (Kp : World → World → Prop) (n1 m : Nat) (I : List α → World → Prop) (Ix : Code → List α → World → Prop) (xs : List α) (W : World) : Exit → Act → World → Prop
  | .normal, _, W' => KeepsOthers W W' ∧ (W'.heap[n1 + 2]? = W.heap[n1 + 2]? ∧ W'.heap[m]? = W.heap[m]? ∧ Kp W W') ∧ I xs W'
  | .ret, _, W' => KeepsOthers W W' ∧ Ix .ret xs W'
  | .exit id, _, W' => KeepsOthers W W' ∧ Ix (.exit id) xs W'
  | .goto t, _, W' => KeepsOthers W W' ∧ Ix (.goto t) xs W'
  | .panic _, _, _ => False
  | .outgrown, _, _ => False
variable {F : Fence} {n : Nat} {P : Program}
theorem wpIn_rangeFunc_O {α : Type} {g : Operand} {ps : Array Tmp} {assign body : Code} {Q : Exit → Act → World → Prop} {a : Act} {w : World}
    (hro : F.round = none) (h1 : 1 ≤ n) {gf : Nat} {lb : Array Value} (hg : a.eval g = .func (.func gf) #[] lb) (hFg : F.fn gf) (eg : ∀ args w, (callFunc gf args).run P w = .ok (.enter gf args) w)
    {encs : α → Array Value} {Kp : World → World → Prop} {S Sp : List α → Prop} {w0 : World} (hseq : SeqStopsO F (n - 1) P gf lb encs Kp S Sp w0)
    (hKt : ∀ {A B C : World}, Kp A B → Kp B C → Kp A C) (hKb : ∀ (W : World) (l : Nat) (o o' : Obj), w.heap.size ≤ l → W.heap[l]? = some o → o.isCells = false → o.isWalk = false → Kp W (W.putObj l o')) (hb0 : Below w0.heap.size w0 w) (hps : ∀ x, (encs x).size = ps.size)
    (I : List α → World → Prop) (Ix : Code → List α → World → Prop) (hI : ∀ s A C, I s A → Aside (three w.heap.size) A C → I s C) (hIx : ∀ c s A C, Ix c s A → Aside (three w.heap.size) A C → Ix c s C) (h0 : I [] w)
    (hround : ∀ (l : Nat) (pre : List α) (x : α) (W0 W : World), I pre W0 → I pre W → Aside (three w.heap.size) W0 W → w.heap.size + 3 ≤ W0.heap.size → W.heap.size = W0.heap.size + 1 → Sp (pre ++ [x]) →
      assign.wpIn (F.inRound l) (n - 1 - 1) P (Exit.then (fun a₁ W₁ => Below W.heap.size W W₁ ∧ Kp W W₁ ∧ ∀ V, Aside (· = w.heap.size + 1) W₁ V → V.heap.size = W₁.heap.size →
          body.wpIn (F.inRound l) (n - 1 - 1) P (oPost Kp w.heap.size W0.heap.size I Ix (pre ++ [x]) V) a₁ V) (fun _ _ _ => False))
        { tmps := (ps.zip (encs x)).foldl (fun t (p, v) => t.setIfInBounds p v) a.tmps, defers := [] } W)
    (hdone : ∀ (D : Nat) (xs : List α) (W : World), w.heap.size ≤ D → S xs → I xs W → W.heap[D]? = some (.deferred (some [])) → Q .normal { a with defers := { target := .collected D, args := #[] } :: a.defers } W)
    (hstop : ∀ (D : Nat) (c : Code) (pre : List α) (W : World), w.heap.size ≤ D → Sp pre → Ix c pre W → W.heap[D]? = some (.deferred (some [])) → c.wpIn F n P Q { a with defers := { target := .collected D, args := #[] } :: a.defers } W) :
    (Code.rangeFunc g ps assign body).wpIn F n P Q a w := by
  refine wpIn_rangeFunc ?_
  intro fn hfn
  rw [hro]
  obtain ⟨rec, hrec⟩ : ∃ rec : LoopState → Option Code → Loop, rec = fun st pe => { state := st, pending := pe, fn, tmps := a.tmps, params := ps, assign, body, defers := w.heap.size } := ⟨_, rfl⟩
  obtain ⟨W1, hW1⟩ : ∃ W1, (w.alloc (.deferred (some []))).alloc (.loop (rec .ready none)) = W1 := ⟨_, rfl⟩
  have hsz : W1.heap.size = w.heap.size + 2 := by rw [← hW1]; simp
  have hL1 : W1.heap[w.heap.size + 1]? = some (.loop (rec .ready none)) := by
    rw [← hW1]; have := World.alloc_heap_new (w.alloc (.deferred (some []))) (.loop (rec .ready none)); rwa [World.size_alloc] at this
  have hK1 : W1.heap[w.heap.size]? = some (.deferred (some [])) := by
    rw [← hW1]; exact (Below.heap_alloc _ _ _ (by simp)).trans (World.alloc_heap_new w _)
  have hI1 : I [] W1 := hI _ _ _ h0 (by rw [← hW1]; exact ((Aside.refl _ _).alloc _).alloc _)
  have hb1 : Below w0.heap.size w0 W1 := by
    rw [← hW1]; exact hb0.trans ((((Below.refl _ w).alloc (Nat.le_refl _) _).alloc (by simp) _).mono hb0.size)
  have hth : ∀ k, k = W1.heap.size → three w.heap.size k := fun k hk => ⟨by omega, by omega⟩
  have t1 : three w.heap.size (w.heap.size + 1) := ⟨by omega, by omega⟩
  have two : ∀ {A C : World} {o1 o2 : Obj}, A.heap[w.heap.size + 1]? = some o1 ∧ A.heap[w.heap.size]? = some o2 → Aside (· = W1.heap.size) A C → C.heap[w.heap.size + 1]? = some o1 ∧ C.heap[w.heap.size]? = some o2 := fun {A C o1 o2} h hk => by
    have l1 := (Array.getElem?_eq_some_iff.1 h.1).1
    have l0 := (Array.getElem?_eq_some_iff.1 h.2).1
    exact ⟨(hk.block _ l1 (by omega)).trans h.1, (hk.block _ l0 (by omega)).trans h.2⟩
  refine ⟨w.heap.size + 1, [{ target := .collected w.heap.size, args := #[] }], W1, { target := .fn (.func gf) lb, args := #[.func (.yield (w.heap.size + 1)) #[] #[]] }, W1, gf,
    #[.func (.yield (w.heap.size + 1)) #[] #[]] ++ lb, W1, ?_, ?_, ?_, ?_, fun _ => h1, ?_⟩
  · rw [← hW1, hrec]; exact run_enterLoop_outer _ _ _ _ _
  · simp only [resolve, hg]
    simp [go_sem]
  · intro f' hf'; simp [Target.leads] at hf'; subst hf'; exact hFg
  · simp [invoke, go_sem, eg]
  · refine (hseq (w.heap.size + 1)
      (fun pre W => I pre W ∧ W.heap[w.heap.size + 1]? = some (.loop (rec .ready none)) ∧ W.heap[w.heap.size]? = some (.deferred (some [])))
      (fun pre W => ∃ c, Ix c pre W ∧ W.heap[w.heap.size + 1]? = some (.loop (rec .done (some c))) ∧ W.heap[w.heap.size]? = some (.deferred (some [])))
      W1 hb1 (fun s A C hs hk => ⟨hI s A C hs.1 (hk.mono hth), two hs.2 hk⟩)
      (fun s A C ⟨c, hc, h2⟩ hk => ⟨c, hIx c s A C hc (hk.mono hth), two h2 hk⟩) ?_ ⟨hI1, hL1, hK1⟩).mono ?_
    · rintro pre x W0 W ⟨hi0, hl0, hk0⟩ has hW0 hsW hlen
      obtain ⟨hl, hk⟩ := two ⟨hl0, hk0⟩ has
      have hlt : w.heap.size + 1 < W.heap.size := (Array.getElem?_eq_some_iff.1 hl).1
      have hy := run_yield (P := P) (args := encs x) hl (by rw [hrec]; exact hps x)
      rw [hrec] at hy
      have hA : Aside (three w.heap.size) W0 W := has.mono hth
      refine ⟨fn, _, assign, body, hy, roundIn_of_wpIn hfn (wpIn_mono (hround _ pre x W0 W hi0 (hI _ _ _ hi0 hA) hA (by omega) hsW hlen) ?_)⟩
      rintro e1 a₁ W₁ h1
      cases e1 with
      | normal => ?_
      | _ => exact h1.elim
      obtain ⟨hbl, hkp, hbd⟩ := h1
      have hl₁ : W₁.heap[w.heap.size + 1]? = _ := (hbl.block _ hlt).trans hl
      have hlt1 : w.heap.size + 1 < W₁.heap.size := (Array.getElem?_eq_some_iff.1 hl₁).1
      refine ⟨_, run_beginRound hl₁ (by rw [hrec]), ?_⟩
      obtain ⟨V, hV⟩ : ∃ V, W₁.putObj (w.heap.size + 1) (.loop { rec .ready none with state := .busy }) = V := ⟨_, rfl⟩
      rw [hV]
      have hl2 : V.heap[w.heap.size + 1]? = some (.loop { rec .ready none with state := .busy }) := by rw [← hV]; exact World.putObj_heap_same hlt1
      have hk2 : V.heap[w.heap.size]? = some (.deferred (some [])) := by rw [← hV]; exact (World.putObj_heap_other (by omega)).trans ((hbl.block _ (by omega)).trans hk)
      have hsV : V.heap.size = W₁.heap.size := by rw [← hV]; simp
      have hbV : Kp W V := by rw [← hV]; exact hKt hkp (hKb _ _ _ _ (by omega) hl₁ rfl rfl)
      have hoV : ∀ k, k < W.heap.size → k ≠ w.heap.size + 1 → V.heap[k]? = W.heap[k]? := fun k hk hn => by rw [← hV]; exact (World.putObj_heap_other hn).trans (hbl.block _ hk)
      refine wpIn_mono (hbd V (by rw [← hV]; exact Aside.put (S := (· = w.heap.size + 1)) (Aside.refl _ _) rfl _) hsV) ?_
      have fin : ∀ (jump : Option Code) (W3 : World), KeepsOthers V W3 →
          (Instr.endRound (w.heap.size + 1) jump).run P W3 = .ok (.bool jump.isNone) (W3.putObj (w.heap.size + 1) (.loop (rec (if jump.isNone then .ready else .done) jump))) ∧
          W3.heap[w.heap.size + 1]? = some (.loop { rec .ready none with state := .busy }) ∧
          (W3.putObj (w.heap.size + 1) (.loop (rec (if jump.isNone then .ready else .done) jump))).heap[w.heap.size + 1]? = some (.loop (rec (if jump.isNone then .ready else .done) jump)) ∧
          (W3.putObj (w.heap.size + 1) (.loop (rec (if jump.isNone then .ready else .done) jump))).heap[w.heap.size]? = some (.deferred (some [])) := fun jump W3 hk3 => by
        have hl3 := hk3.same _ _ hl2 rfl
        have := run_endRound (P := P) jump hl3
        rw [hrec] at this ⊢
        exact ⟨this, by rw [hrec] at hl3; exact hl3, World.putObj_heap_same (Array.getElem?_eq_some_iff.1 hl3).1, (World.putObj_heap_other (by omega)).trans (hk3.same _ _ hk2 rfl)⟩
      rintro e a3 W3 hp
      cases e with
      | normal =>
        obtain ⟨hk3, ⟨k1, k2, k3⟩, hi3⟩ := hp
        obtain ⟨hr, hl3, hl4, hk4⟩ := fin none W3 hk3
        refine ⟨_, _, hr, .inl ⟨rfl, ⟨hI _ _ _ hi3 ((Aside.refl _ _).put t1 _), hl4, hk4⟩, ?_, ?_, ?_⟩⟩
        · rw [hsz]; exact (World.putObj_heap_other (by omega)).trans (k1.trans (hoV _ (by omega) (by omega)))
        · exact (World.putObj_heap_other (by omega)).trans (k2.trans (hoV _ (by omega) (by omega)))
        · exact hKt (hKt hbV k3) (hKb _ _ _ _ (by omega) hl3 rfl rfl)
      | ret =>
        obtain ⟨hk3, hi3⟩ := hp
        obtain ⟨hr, hl3, hl4, hk4⟩ := fin (some .ret) W3 hk3
        exact ⟨_, _, hr, .inr ⟨rfl, .ret, hIx _ _ _ _ hi3 ((Aside.refl _ _).put t1 _), hl4, hk4⟩⟩
      | exit id =>
        obtain ⟨hk3, hi3⟩ := hp
        obtain ⟨hr, hl3, hl4, hk4⟩ := fin (some (.exit id)) W3 hk3
        exact ⟨_, _, hr, .inr ⟨rfl, .exit id, hIx _ _ _ _ hi3 ((Aside.refl _ _).put t1 _), hl4, hk4⟩⟩
      | goto t =>
        obtain ⟨hk3, hi3⟩ := hp
        obtain ⟨hr, hl3, hl4, hk4⟩ := fin (some (.goto t)) W3 hk3
        exact ⟨_, _, hr, .inr ⟨rfl, .goto t, hIx _ _ _ _ hi3 ((Aside.refl _ _).put t1 _), hl4, hk4⟩⟩
      | panic ch => exact hp.elim
      | outgrown => exact hp.elim
    · rintro e W2 ⟨⟨v, rfl⟩, (⟨xs, hS, hi, hl, hk⟩ | ⟨pre, hSp, c, hi, hl, hk⟩)⟩
      · exact ⟨none, _, by have := run_endLoop (P := P) hl (by rw [hrec]; simp); rw [hrec] at this; exact this, hdone _ xs _ (Nat.le_refl _) hS (hI _ _ _ hi ((Aside.refl _ _).put t1 _)) ((World.putObj_heap_other (by omega)).trans hk)⟩
      · exact ⟨some c, _, by have := run_endLoop (P := P) hl (by rw [hrec]; simp); rw [hrec] at this; exact this, hstop _ c pre _ (Nat.le_refl _) hSp (hIx _ _ _ _ hi ((Aside.refl _ _).put t1 _)) ((World.putObj_heap_other (by omega)).trans hk)⟩
end Go.Proofs.Ytnhemndpnjhbfaa
