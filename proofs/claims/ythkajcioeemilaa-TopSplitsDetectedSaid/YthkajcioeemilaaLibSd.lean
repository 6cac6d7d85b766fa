/- A drawn region of operations that only read, and a last one that waits for all of them through others: one walk, inside or outside a round. No condition. -/
import Derived.Test.YthkajcioeemilaaLibS
import Derived.Test.YthkajcioeemilaaLibT
namespace Go.Proofs.Ythkajcioeemilaa
open Go.RowKit
section
variable {F : Fence} {n : Nat} {P : Program} {ops : Array Oper} {Q : Exit → Act → World → Prop} {md : Region.Mode} {S : World → Prop} {z : Nat}
/-- operation z waits for operation i, if need be through others -/
def reach (md : Region.Mode) (ops : Array Oper) (i : Nat) : Nat → Nat → Bool
  | 0, _ => false
  | k + 1, j => match ops[j]? with | none => false | some o => o.after.toList.any fun e => Region.binds md e && (e.on == i || reach md ops i k e.on)
theorem reach_not {i : Nat} {l : Array Bool} (hd : Down md ops l) (hi : l.getD i false = false) : ∀ (k j : Nat), reach md ops i k j = true → (∀ o, ops[j]? = some o → ∀ e ∈ o.after, Region.binds md e = true → l.getD e.on false = true) → False
  | 0, _, h, _ => by simp [reach] at h
  | k + 1, j, h, hj => by
    unfold reach at h
    cases ho : ops[j]? with
    | none => rw [ho] at h; simp at h
    | some o =>
      rw [ho] at h
      dsimp only at h
      obtain ⟨e, he, hb⟩ := List.any_eq_true.1 h
      rw [Bool.and_eq_true, Bool.or_eq_true, beq_iff_eq] at hb
      have h1 := hj o ho e (by simpa using he) hb.1
      rcases hb.2 with h2 | h2
      · rw [h2, hi] at h1; cases h1
      · exact reach_not hd hi k e.on h2 (fun o' ho' e' he' hb' => hd e.on o' h1 ho' e' he' hb')
theorem wpAS_firstD {i : Nat} {oi : Oper} {v : Value} {kz : Nat} (hz : reach md ops i kz z = true) (hi : ops[i]? = some oi) (hsel : ∀ (j : Nat) (o : Oper) cs b, ops[j]? = some o → o.op ≠ .select cs b) (hnd : ∀ (i : Nat) o, ops[i]? = some o → plainOp o = true)
    (hQ : ∀ c a w, Q (.panic c) (a.put oi.dst v) w → Q (.panic c) a w) : ∀ (fuel : Nat) (listed : Array Bool) (a : Act) (w : World), Down md ops listed →
      (∀ j oj, ops[j]? = some oj → j ≠ i → listed.getD j true = false → (∀ e ∈ oj.after, Region.binds md e = true → e.on ≠ i) → oi.apart ops oj = true) →
      i ∈ Region.ready md ops listed → YS F P ops S oi v a → S w → wpAS F n P md ops Q S z fuel (listed.setIfInBounds i true) (a.put oi.dst v) w → wpAS F n P md ops Q S z (fuel + 1) listed a w
  | 0, listed, a, w, _, _, hr, hy, hs, H => by
    refine ⟨fun h => (by rw [h] at hr; cases hr), fun j hj => ?_⟩
    by_cases hji : j = i
    · rw [hji]; exact hy.run hi (hnd i oi hi) hs ⟨.inr hs, H⟩
    · exact absurd (ready_mono hj hji) (by rw [H.1]; simp)
  | fuel + 1, listed, a, w, hdn, hfree, hr, hy, hs, H => by
    refine ⟨fun h => (by rw [h] at hr; cases hr), fun j hj => ?_⟩
    by_cases hji : j = i
    · rw [hji]; exact hy.run hi (hnd i oi hi) hs ⟨.inr hs, H⟩
    · obtain ⟨hjun, oj, hoj, hall⟩ := mem_ready.1 hj
      have hif : listed.getD i false = false := by
        have h0 := (mem_ready.1 hr).1
        rcases Nat.lt_or_ge i listed.size with h' | h'
        · rw [getD_any h' true] at h0; exact h0
        · simp [Array.getElem?_eq_none h'] at h0
      have hnot : ∀ e ∈ oj.after, Region.binds md e = true → e.on ≠ i := fun e he hb heq => by
        have h1 := hall e he hb
        rw [heq, hif] at h1
        cases h1
      have hjz : j ≠ z := fun e => by
        subst e
        exact reach_not hdn hif _ _ hz (fun o ho e he hb => by rw [hoj] at ho; injection ho with ho; subst ho; exact hall e he hb)
      have h2 := wpOpIn_swap hoj (hfree j oj hoj hji hjun hnot) (hnd j oj hoj) (fun cs b => hsel i oi cs b hi) (fun cs b => hsel j oj cs b hoj) hQ hy (H.2 j (ready_mono hj hji))
      refine wpOpIn_mono (fun a' w' h3 => ⟨h3.2.1, wpAS_firstD hz hi hsel hnd hQ fuel (listed.setIfInBounds j true) a' w' (hdn.set hj) (fun k ok hk hki hun hno => hfree k ok hk hki ?_ hno) (ready_mono hr (Ne.symm hji)) h3.1 (h3.2.1.resolve_left hjz) ?_⟩) h2
      · by_cases hjk : j = k
        · rw [← hjk]; exact hjun
        · rwa [getD_set_ne true hjk] at hun
      · rw [Array.setIfInBounds_comm _ _ hji]
        exact h3.2.2
def lexOkD (md : Region.Mode) (ops : Array Oper) (z kz : Nat) : List Nat → Array Bool → Bool
  | [], _ => true
  | i :: is, listed => (Region.ready md ops listed).contains i && Region.free md ops listed i && reach md ops i kz z && lexOkD md ops z kz is (listed.setIfInBounds i true)
theorem wpAS_lexD {kz : Nat} (hsn : Region.noSelect ops = true) (hnd : ∀ (i : Nat) o, ops[i]? = some o → plainOp o = true) (hQ : ∀ c d v a w, Q (.panic c) (Act.put a d v) w → Q (.panic c) a w) {w : World} (hs : S w) :
    ∀ (is : List Nat) (l : List Oper) (listed : Array Bool) (a : Act) (fuel : Nat), Down md ops listed → is.map (ops[·]?) = l.map some → lexOkD md ops z kz is listed = true →
      lexS F P ops S (fun a' => wpAS F n P md ops Q S z fuel (lexEnd is listed) a' w) l a → wpAS F n P md ops Q S z (is.length + fuel) listed a w
  | [], [], _, _, fuel, _, _, _, h => by simpa [lexS, lexEnd] using h
  | [], _ :: _, _, _, _, _, he, _, _ => by simp at he
  | _ :: _, [], _, _, _, _, he, _, _ => by simp at he
  | i :: is, o :: l, listed, a, fuel, hdn, he, hok, h => by
    simp only [List.map_cons, List.cons.injEq] at he
    simp only [lexOkD, Bool.and_eq_true] at hok
    obtain ⟨v, hy, hk⟩ := h
    have hmem : i ∈ Region.ready md ops listed := by simpa using hok.1.1.1
    have := wpAS_lexD hsn hnd hQ hs is l (listed.setIfInBounds i true) (a.put o.dst v) fuel (hdn.set hmem) he.2 hok.2 hk
    rw [List.length_cons, show is.length + 1 + fuel = is.length + fuel + 1 by omega]
    exact wpAS_firstD hok.1.2 he.1 (Region.noSelect_spec hsn) hnd (fun c a w => hQ c o.dst v a w) _ _ _ _ hdn (Region.free_spec he.1 hok.1.1.2) hmem hy hs this
theorem down_new (m : Nat) : Down md ops (Array.replicate m false) := fun j _ h => by rw [getD_rep] at h; cases h
/-- the law: inside or outside a round -/
theorem wpIn_region_lastD {id : Nat} {a : Act} {w : World} {l : List Oper} (hm : P.follows .mixedOrders = true) (hsn : Region.noSelect l.toArray = true) (hpl : l.all plainOp = true)
    (hok : lexOkD .any l.toArray (l.length - 1) l.length (List.range (l.length - 1)) (Array.replicate l.toArray.size false) = true)
    (hr : Region.ready .any l.toArray (lexEnd (List.range (l.length - 1)) (Array.replicate l.toArray.size false)) = [l.length - 1])
    (hr2 : Region.ready .any l.toArray ((lexEnd (List.range (l.length - 1)) (Array.replicate l.toArray.size false)).setIfInBounds (l.length - 1) true) = [])
    (hg : (l.getLast?.map fun o => o.guard.isNone) = some true) (hQ : ∀ c d v a w, Q (.panic c) (Act.put a d v) w → Q (.panic c) a w)
    (h : lexT F P l.toArray (fun w' => w' = w.drew) (LastOp F n P w.drew Q) l a) : (Code.region id l.toArray true).wpIn F n P Q a w := by
  obtain ⟨pre, o, rfl, h⟩ := lexT_split h
  have e : (pre ++ [o]).length - 1 = pre.length := by simp
  rw [e] at hok hr hr2
  have hg' : o.guard = none := by
    rw [List.getLast?_concat] at hg
    simpa using hg
  have hnd : ∀ (i : Nat) o', (pre ++ [o]).toArray[i]? = some o' → plainOp o' = true := fun i o' e => List.all_eq_true.1 hpl o' (List.mem_of_getElem? (by simpa using e))
  refine wpIn_region_S (S := fun w' => w' = w.drew) (z := pre.length) hm ?_
  have hpo : plainOp o = true := hnd pre.length o (by simp)
  have hsz : (pre ++ [o]).toArray.size = (List.range pre.length).length + 1 := by simp
  have hmap : (List.range pre.length).map ((pre ++ [o]).toArray[·]?) = pre.map some := by
    refine List.ext_getElem? fun k => ?_
    rcases Nat.lt_or_ge k pre.length with hk | hk
    · simp [hk, List.getElem?_append_left hk]
    · simp [hk]
  have key := wpAS_lexD (F := F) (n := n) (P := P) (Q := Q) (md := .any) (S := fun w' => w' = w.drew) (z := pre.length) hsn hnd hQ (w := w.drew) rfl (List.range pre.length) pre (Array.replicate (pre ++ [o]).toArray.size false) a 1 (down_new _) hmap hok
    (lexS_mono (fun a' ha' => wpAS_one hr (by simp) (by simp [Region.wanted, hg']) hpo ⟨ha'.1, uponIn_mono' (fun a'' w'' hq => ⟨.inl rfl, wpAS_nil hr2 hq 0⟩) ha'.2⟩) h)
  rw [← hsz] at key
  exact key
end
end Go.Proofs.Ythkajcioeemilaa
