/- The throttle in its block, its marks elsewhere, a queue of numbers elsewhere: for caseRun. No condition. -/
import Derived.Test.YthkpkjigfaannaaMathG
import Derived.Test.YthkpkjigfaannaaMathI
import Derived.Test.YthkpkjigfaannaaXa
import Derived.Test.YthkpkjigfaannaaLibV
import Derived.Test.YthkpkjigfaannaaWp
namespace Go.Proofs.Ythkpkjigfaannaa
open Go.RowKit
structure QuI (w : World) (g : Nat) (T : Th) (A : Option Addr) (n c : Nat) (v : Value) (b : Option Nat) (q : List Int) (W : World) : Prop where
  aw : AwI w g T A n c W
  que : Que W (g + 1) 3 v b (q.map (Value.int .i64))
  dif : 0 < n → ∀ ad, A = some ad → b ≠ some ad.block
theorem QuI.keep {w W W' : World} {g : Nat} {T : Th} {A : Option Addr} {n c : Nat} {v : Value} {b : Option Nat} {q : List Int} (h : QuI w g T A n c v b q W) (hb : Below W.heap.size W W') : QuI w g T A n c v b q W' :=
  ⟨h.aw.keep hb, h.que.below hb, h.dif⟩
theorem QuI.new {w W : World} {g : Nat} {T : Th} {A : Option Addr} {n c : Nat} {v : Value} {b : Option Nat} {q : List Int} (h : QuI w g T A n c v b q W) (x : Obj) : QuI w g T A n c v b q (W.alloc x) := h.keep ((Below.refl _ W).alloc (Nat.le_refl _) x)
theorem Que.far5 {W : World} {low : Nat} {e : TypeId} {v : Value} {b : Option Nat} {xs : List Value} (h : Que W low e v b xs) {g : Nat} (hg : g < low) {x y z u t : Value} :
    Que (((((W.setCell ⟨g, 0, none⟩ x).setCell ⟨g, 1, none⟩ y).setCell ⟨g, 2, none⟩ z).setCell ⟨g, 3, none⟩ u).setCell ⟨g, 4, none⟩ t) low e v b xs := by
  have hne : b ≠ some g := fun e => by have := (h.lt g e).2; omega
  exact ((((h.far (p := ⟨g, 0, none⟩) hne x).far (p := ⟨g, 1, none⟩) hne y).far (p := ⟨g, 2, none⟩) hne z).far (p := ⟨g, 3, none⟩) hne u).far (p := ⟨g, 4, none⟩) hne t
theorem QuI.put {w W W' : World} {g : Nat} {T T' : Th} {A A' : Option Addr} {n c n' c' : Nat} {v : Value} {b : Option Nat} {q : List Int} (h : QuI w g T A n c v b q W) (hb : Below W.heap.size W W') (hR : RdM W' A' n' T'.l) (hf : ∀ ad, A' = some ad → W.heap.size ≤ ad.block) :
    QuI w g T' A' n' c' v b q (((((W'.setCell ⟨g, 0, none⟩ (.int .i64 T'.o)).setCell ⟨g, 1, none⟩ (.int .i64 T'.r)).setCell ⟨g, 2, none⟩ (.int .i64 T'.t)).setCell ⟨g, 3, none⟩ (.int .i64 T'.b)).setCell ⟨g, 4, none⟩ (.slice A' n' c')) :=
  ⟨h.aw.put hb hR hf, (h.que.below hb).far5 (Nat.lt_succ_self g), fun _ ad e hbb => by have h1 := (h.que.lt _ hbb).1; have h2 := hf ad e; omega⟩
theorem QuI.ask {w W w' : World} {g : Nat} {T : Th} {A : Option Addr} {n c : Nat} {v v' : Value} {b b' : Option Nat} {q : List Int} {x : Int} (h : QuI w g T A n c v b q W)
    (h2 : Que w' (g + 1) 3 v' b' (q.map (Value.int .i64) ++ [.int .i64 x])) (h3 : (W.alloc (.cells #[.int .i64 x] 3)).grownBy w' b) (h4 : b' = b ∨ b' = some (W.heap.size + 1)) :
    QuI w g T A n c v' b' (q ++ [x]) w' := by
  have hn := h.new (.cells #[.int .i64 x] 3)
  have hgn : b ≠ some g := fun e => by have := (h.que.lt g e).2; omega
  refine ⟨⟨hn.aw.blk.grown h3 (fun e => hgn e.symm), Reads.more (reads_grown hn.aw.rd (Nat.le_refl _) h3 h.dif) h3.size, h.aw.ne, hn.aw.bel.grown h3 hn.aw.bel.size (fun k e => by have h9 := (h.que.lt k e).2; have := h.aw.low; omega), h.aw.low⟩, ?_, fun hn0 ad e q => ?_⟩
  · rw [List.map_append]
    exact h2
  · rcases h4 with h4 | h4
    · exact h.dif hn0 ad e (h4 ▸ q)
    · rw [h4] at q
      injection q with q
      obtain ⟨ad', e3, hlt, _⟩ := h.aw.rd.2 hn0
      rw [e] at e3
      injection e3 with e3
      rw [← e3] at hlt
      omega
end Go.Proofs.Ythkpkjigfaannaa
