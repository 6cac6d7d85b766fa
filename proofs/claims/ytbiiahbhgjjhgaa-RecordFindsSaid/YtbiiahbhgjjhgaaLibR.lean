/- A region that only reads, inside a round of a range over a function: one walk in the order of the text serves. No condition. -/
import Derived.Test.YtbiiahbhgjjhgaaLib
import Derived.RangeFuncNested
import Derived.RangeFuncCalls
import Derived.Sort.QuietIn
namespace Go.Proofs.Ytbiiahbhgjjhgaa
open Go.RowKit
section
variable {F : Fence} {n : Nat} {P : Program} {ops : Array Oper} {Q : Exit → Act → World → Prop} {md : Region.Mode}
def plainOp (o : Oper) : Bool := match o.op with | .defer _ => false | _ => true
theorem plainOp_ne {o : Oper} (h : plainOp o = true) : ∀ c, o.op ≠ .defer c := fun c e => by simp [plainOp, e] at h
theorem uponIn_round {r : Nat} {o : Oper} {a : Act} {K : Act → World → Prop} : ∀ {x : Result Next}, o.uponIn F n P a K Q x → o.uponIn (F.inRound r) n P a K Q x
  | .ok (.value _) _, h => h
  | .ok .skip _, h => h
  | .ok (.defer _) _, h => h
  | .ok (.enter _ _) _, h => h
  | .ok (.row _ _) _, h => h
  | .ok (.round _ _ _ _ _) _, h => h
  | .halt x w, h => by cases x <;> exact h
theorem wpOpIn_round {r i : Nat} {K K' : Act → World → Prop} {a : Act} {w : World} (hnd : ∀ o, ops[i]? = some o → plainOp o = true) (hk : ∀ a w, K a w → K' a w)
    (h : wpOpIn F n P ops Q i K a w) : wpOpIn (F.inRound r) n P ops Q i K' a w := by
  have h := wpOpIn_mono hk h
  unfold wpOpIn at *
  split
  · rename_i e
    rw [e] at h; exact h
  · rename_i o e
    rw [e] at h
    dsimp only at h
    split
    · rename_i hw
      rw [if_pos hw] at h
      refine ⟨h.1, ?_⟩
      have h2 := h.2
      rw [Oper.semAt_eq _ _ _ (plainOp_ne (hnd o e))] at h2 ⊢
      exact uponIn_round h2
    · rename_i hw
      rw [if_neg hw] at h
      exact h
theorem wpAnyIn_round {r : Nat} (hnd : ∀ (i : Nat) o, ops[i]? = some o → plainOp o = true) : ∀ (fuel : Nat) (listed : Array Bool) (a : Act) (w : World),
    wpAnyIn F n P md ops Q fuel listed a w → wpAnyIn (F.inRound r) n P md ops Q fuel listed a w
  | 0, _, _, _, h => h
  | fuel + 1, _, _, _, h => ⟨h.1, fun i hi => wpOpIn_round (hnd i) (fun a' w' h' => wpAnyIn_round hnd fuel _ a' w' h') (h.2 i hi)⟩
theorem wpIn_quiet_round {r id : Nat} {a : Act} {w : World} {l : List Oper} (hro : F.round = none) (hnd : l.all plainOp = true) (hm : P.follows .mixedOrders = true) (hB : Region.lexB .any l.toArray = true)
    (h : wpQuietIn F n P l.toArray (fun w' => ∃ n, w' = w.drewN n) (fun a' => ∀ w', (∃ n, w' = w.drewN n) → Q .normal a' w') l a) : (Code.region id l.toArray true).wpIn (F.inRound r) n P Q a w := by
  have hnd' : ∀ (i : Nat) o, l.toArray[i]? = some o → plainOp o = true := fun i o e => List.all_eq_true.1 hnd o (List.mem_of_getElem? (by simpa using e))
  refine wpIn_region_any hm (wpAnyIn_round hnd' _ _ _ _ ?_)
  simp only [Region.lexB, Bool.and_eq_true] at hB
  refine wpAnyIn_of_quiet (C := fun w' => ∃ n, w' = w.drewN n) (Q := fun a' => ∀ w', (∃ n, w' = w.drewN n) → Q .normal a' w') hro (fun _ w' hw' h => h w' hw') _ _ _ _ ⟨1, rfl⟩ ?_
  have := wpAnyQIn_lex (F := F) (n := n) (P := P) (C := fun w' => ∃ n, w' = w.drewN n) (md := .any) hB.1 l 0 (Array.replicate l.toArray.size false) a (by simp) (by simpa using hB.2) h
  simpa using this
end
end Go.Proofs.Ytbiiahbhgjjhgaa
