/- A sender's value whose queue is new: the words. No condition. -/
import Derived.Test.YtanmndhdhlmjgaaVa
namespace Go.Proofs.Ytanmndhdhlmjgaa.Fr
open Go.RowKit
/-- the queue of a sender's value is new, or empty -/
def FreshQ (low : Nat) (u : Value) : Prop := ∀ cs, u = .agg cs → ∀ g, (cs.getD 7 undef).ownBlock = some g → low ≤ g
theorem freshQ_of {low : Nat} {c0 c1 c2 c3 c4 c5 c6 vq : Value} (h : ∀ g, vq.ownBlock = some g → low ≤ g) : FreshQ low (.agg #[c0, c1, c2, c3, c4, c5, c6, vq]) := by
  intro cs e
  injection e with e
  subst e
  exact h
theorem freshQ_nil {low : Nat} {c0 c1 c2 c3 c4 c5 c6 : Value} : FreshQ low (.agg #[c0, c1, c2, c3, c4, c5, c6, .slice none 0 0]) := freshQ_of (fun g e => by simp [Value.ownBlock] at e)
theorem freshQ_own {low base : Nat} {W : World} {n : Nat} {xs : List Value} {c0 c1 c2 c3 c4 c5 c6 vq : Value} (h : W.ownsRow low 42 1 vq n xs) (hb : base ≤ low) : FreshQ base (.agg #[c0, c1, c2, c3, c4, c5, c6, vq]) :=
  freshQ_of (fun g e => Nat.le_trans hb (own_block_ge h g e))
end Go.Proofs.Ytanmndhdhlmjgaa.Fr
