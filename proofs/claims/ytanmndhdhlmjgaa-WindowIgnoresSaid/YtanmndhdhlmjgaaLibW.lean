/- A drawn region of reads and effects; operations that ask no world may come whenever they like. No condition. -/
import Derived.Test.YtanmndhdhlmjgaaLibN
namespace Go.Proofs.Ytanmndhdhlmjgaa
open Go.RowKit
section
variable {F : Fence} {n : Nat} {P : Program} {ops : Array Oper} {Q : Exit → Act → World → Prop} {md : Region.Mode} {S : World → Prop} {Z : List Nat}
/-- whichever operation comes up, S holds behind it, but for those of Z -/
def wpAY (F : Fence) (n : Nat) (P : Program) (md : Region.Mode) (ops : Array Oper) (Q : Exit → Act → World → Prop) (S : World → Prop) (Z : List Nat) : Nat → Array Bool → Act → World → Prop
  | 0, listed, a, w => Region.ready md ops listed = [] ∧ Q .normal a w
  | fuel + 1, listed, a, w => (Region.ready md ops listed = [] → Q .normal a w) ∧
    ∀ i ∈ Region.ready md ops listed, wpOpIn F n P ops Q i (fun a' w' => (Z.contains i = true ∨ (S w → S w')) ∧ wpAY F n P md ops Q S Z fuel (listed.setIfInBounds i true) a' w') a w
theorem wpAY_any : ∀ (fuel : Nat) (listed : Array Bool) (a : Act) (w : World), wpAY F n P md ops Q S Z fuel listed a w → wpAnyIn F n P md ops Q fuel listed a w
  | 0, _, _, _, h => h
  | fuel + 1, _, _, _, h => ⟨h.1, fun i hi => wpOpIn_mono (fun a' w' h' => wpAY_any fuel _ a' w' h'.2) (h.2 i hi)⟩
theorem wpAY_first {i : Nat} {oi : Oper} {v : Value} {kz : Nat} (hz : ∀ z, z < ops.size → Z.contains z = true → reach md ops i kz z = true) (hi : ops[i]? = some oi) (hsel : ∀ (j : Nat) (o : Oper) cs b, ops[j]? = some o → o.op ≠ .select cs b) (hnd : ∀ (i : Nat) o, ops[i]? = some o → plainOp o = true)
    (hQ : ∀ c a w, Q (.panic c) (a.put oi.dst v) w → Q (.panic c) a w) : ∀ (fuel : Nat) (listed : Array Bool) (a : Act) (w : World), Down md ops listed →
      (∀ j oj, ops[j]? = some oj → j ≠ i → listed.getD j true = false → (∀ e ∈ oj.after, Region.binds md e = true → e.on ≠ i) → oi.apart ops oj = true) →
      i ∈ Region.ready md ops listed → YS F P ops S oi v a → S w → wpAY F n P md ops Q S Z fuel (listed.setIfInBounds i true) (a.put oi.dst v) w → wpAY F n P md ops Q S Z (fuel + 1) listed a w
  | 0, listed, a, w, _, _, hr, hy, hs, H => by
    refine ⟨fun h => (by rw [h] at hr; cases hr), fun j hj => ?_⟩
    by_cases hji : j = i
    · rw [hji]; exact hy.run hi (hnd i oi hi) hs ⟨.inr (fun h => h), H⟩
    · exact absurd (ready_mono hj hji) (by rw [H.1]; simp)
  | fuel + 1, listed, a, w, hdn, hfree, hr, hy, hs, H => by
    refine ⟨fun h => (by rw [h] at hr; cases hr), fun j hj => ?_⟩
    by_cases hji : j = i
    · rw [hji]; exact hy.run hi (hnd i oi hi) hs ⟨.inr (fun h => h), H⟩
    · obtain ⟨hjun, oj, hoj, hall⟩ := mem_ready.1 hj
      have hnot := not_after hr hj hoj
      have hjz : ¬ Z.contains j = true := fun e => by
        have hjl : j < ops.size := by
          rcases Nat.lt_or_ge j ops.size with h | h
          · exact h
          · rw [Array.getElem?_eq_none h] at hoj; cases hoj
        exact reach_not hdn (not_listed hr) _ _ (hz j hjl e) (fun o ho e he hb => by rw [hoj] at ho; injection ho with ho; subst ho; exact hall e he hb)
      have h2 := wpOpIn_swap hoj (hfree j oj hoj hji hjun hnot) (hnd j oj hoj) (fun cs b => hsel i oi cs b hi) (fun cs b => hsel j oj cs b hoj) hQ hy (H.2 j (ready_mono hj hji))
      refine wpOpIn_mono (fun a' w' h3 => ⟨h3.2.1, wpAY_first hz hi hsel hnd hQ fuel (listed.setIfInBounds j true) a' w' (hdn.set hj) (fun k ok hk hki hun hno => hfree k ok hk hki ?_ hno) (ready_mono hr (Ne.symm hji)) h3.1 ((h3.2.1.resolve_left hjz) hs) ?_⟩) h2
      · by_cases hjk : j = k
        · rw [← hjk]; exact hjun
        · rwa [getD_set_ne true hjk] at hun
      · rw [Array.setIfInBounds_comm _ _ hji]
        exact h3.2.2
/-- an operation that asks no world -/
theorem wpAY_pure {i : Nat} {oi : Oper} {v : Value} (hi : ops[i]? = some oi) (hsel : ∀ (j : Nat) (o : Oper) cs b, ops[j]? = some o → o.op ≠ .select cs b) (hnd : ∀ (i : Nat) o, ops[i]? = some o → plainOp o = true)
    (hQ : ∀ c a w, Q (.panic c) (a.put oi.dst v) w → Q (.panic c) a w) : ∀ (fuel : Nat) (listed : Array Bool) (a : Act) (w : World),
      (∀ j oj, ops[j]? = some oj → j ≠ i → listed.getD j true = false → (∀ e ∈ oj.after, Region.binds md e = true → e.on ≠ i) → oi.apart ops oj = true) →
      i ∈ Region.ready md ops listed → YS F P ops (fun _ => True) oi v a → wpAY F n P md ops Q S Z fuel (listed.setIfInBounds i true) (a.put oi.dst v) w → wpAY F n P md ops Q S Z (fuel + 1) listed a w
  | 0, listed, a, w, _, hr, hy, H => by
    refine ⟨fun h => (by rw [h] at hr; cases hr), fun j hj => ?_⟩
    by_cases hji : j = i
    · rw [hji]; exact hy.run hi (hnd i oi hi) trivial ⟨.inr (fun h => h), H⟩
    · exact absurd (ready_mono hj hji) (by rw [H.1]; simp)
  | fuel + 1, listed, a, w, hfree, hr, hy, H => by
    refine ⟨fun h => (by rw [h] at hr; cases hr), fun j hj => ?_⟩
    by_cases hji : j = i
    · rw [hji]; exact hy.run hi (hnd i oi hi) trivial ⟨.inr (fun h => h), H⟩
    · obtain ⟨hjun, oj, hoj, hall⟩ := mem_ready.1 hj
      have hnot := not_after hr hj hoj
      have h2 := wpOpIn_swap (S := fun _ => True) hoj (hfree j oj hoj hji hjun hnot) (hnd j oj hoj) (fun cs b => hsel i oi cs b hi) (fun cs b => hsel j oj cs b hoj) hQ hy (H.2 j (ready_mono hj hji))
      refine wpOpIn_mono (fun a' w' h3 => ⟨h3.2.1, wpAY_pure hi hsel hnd hQ fuel (listed.setIfInBounds j true) a' w' (fun k ok hk hki hun hno => hfree k ok hk hki ?_ hno) (ready_mono hr (Ne.symm hji)) h3.1 ?_⟩) h2
      · by_cases hjk : j = k
        · rw [← hjk]; exact hjun
        · rwa [getD_set_ne true hjk] at hun
      · rw [Array.setIfInBounds_comm _ _ hji]
        exact h3.2.2
theorem wpAY_nil {listed : Array Bool} {a : Act} {w : World} (hr : Region.ready md ops listed = []) (h : Q .normal a w) : ∀ fuel, wpAY F n P md ops Q S Z fuel listed a w
  | 0 => ⟨hr, h⟩
  | _ + 1 => ⟨fun _ => h, by rw [hr]; simp⟩
theorem wpAY_one {i fuel : Nat} {o : Oper} {listed : Array Bool} {a : Act} {w : World} (hr : Region.ready md ops listed = [i]) (hi : ops[i]? = some o) (hw : Region.wanted o (yielded ops a.tmps) = true) (hd : plainOp o = true)
    (h : (∀ f, o.about P w a.eval = some f → F.fn f) ∧ o.uponIn F n P a (fun a' w' => (Z.contains i = true ∨ (S w → S w')) ∧ wpAY F n P md ops Q S Z fuel (listed.setIfInBounds i true) a' w') Q ((execOp a.eval o).run P w)) : wpAY F n P md ops Q S Z (fuel + 1) listed a w := by
  refine ⟨fun h0 => by rw [hr] at h0; simp at h0, fun j hj => ?_⟩
  rw [hr, List.mem_singleton] at hj
  subst hj
  unfold wpOpIn
  rw [hi]
  dsimp only
  rw [if_pos hw]
  refine ⟨h.1, ?_⟩
  rw [Oper.semAt_eq _ _ _ (plainOp_ne hd)]
  exact h.2
/-- may the order be walked: effects (0), reads (1), late operations that ask no world (2) -/
def okY (md : Region.Mode) (ops : Array Oper) (Z : List Nat) : List (Nat × Nat) → Array Bool → Bool
  | [], listed => (Region.ready md ops listed).isEmpty
  | (i, 0) :: is, listed => (Region.ready md ops listed == [i]) && ((ops[i]?.map fun o => o.guard.isNone) == some true) && (!Z.contains i || is.all fun p => p.2 != 1) && okY md ops Z is (listed.setIfInBounds i true)
  | (i, 1) :: is, listed => (Region.ready md ops listed).contains i && Region.free md ops listed i && ((List.range ops.size).all fun z => !Z.contains z || reach md ops i ops.size z) && okY md ops Z is (listed.setIfInBounds i true)
  | (i, _) :: is, listed => (Region.ready md ops listed).contains i && Region.free md ops listed i && okY md ops Z is (listed.setIfInBounds i true)
/-- the walk, by the operations' numbers -/
def lexY (F : Fence) (n : Nat) (P : Program) (ops : Array Oper) (Q : Exit → Act → World → Prop) (S : World → Prop) (Z : List Nat) : List (Nat × Nat) → Act → World → Prop
  | [], a, w => Q .normal a w
  | (i, 0) :: l, a, w => ∃ o, ops[i]? = some o ∧ (∀ f, o.about P w a.eval = some f → F.fn f) ∧ o.uponIn F n P a (fun a' w' => (Z.contains i = true ∨ S w') ∧ lexY F n P ops Q S Z l a' w') Q ((execOp a.eval o).run P w)
  | (i, 1) :: l, a, w => ∃ o, ops[i]? = some o ∧ ∃ v, YS F P ops S o v a ∧ lexY F n P ops Q S Z l (a.put o.dst v) w
  | (i, _) :: l, a, w => ∃ o, ops[i]? = some o ∧ ∃ v, YS F P ops (fun _ => True) o v a ∧ lexY F n P ops Q S Z l (a.put o.dst v) w
theorem wpAY_lexY (hsn : Region.noSelect ops = true) (hnd : ∀ (i : Nat) o, ops[i]? = some o → plainOp o = true) (hQ : ∀ c d v a w, Q (.panic c) (Act.put a d v) w → Q (.panic c) a w) :
    ∀ (is : List (Nat × Nat)) (listed : Array Bool) (a : Act) (w : World), Down md ops listed → okY md ops Z is listed = true → ((is.all fun p => p.2 != 1) = true ∨ S w) →
      lexY F n P ops Q S Z is a w → wpAY F n P md ops Q S Z is.length listed a w
  | [], listed, a, w, _, hok, _, h => wpAY_nil (by simpa [okY] using hok) h _
  | (i, 0) :: is, listed, a, w, hdn, hok, hs, h => by
    obtain ⟨o, he1, h⟩ := h
    simp only [okY, Bool.and_eq_true, beq_iff_eq] at hok
    have hmem : i ∈ Region.ready md ops listed := by rw [hok.1.1.1]; simp
    have hg : o.guard = none := by
      have h1 := hok.1.1.2
      rw [he1] at h1
      simpa using h1
    refine wpAY_one hok.1.1.1 he1 (by simp [Region.wanted, hg]) (hnd i o he1) ⟨h.1, uponIn_mono' (fun a'' w'' hq => ⟨hq.1.imp id (fun h _ => h), wpAY_lexY hsn hnd hQ is _ _ _ (hdn.set hmem) hok.2 ?_ hq.2⟩) h.2⟩
    rcases hq.1 with h1 | h1
    · left
      have h2 := hok.1.2
      rw [h1] at h2
      simpa using h2
    · exact .inr h1
  | (i, 1) :: is, listed, a, w, hdn, hok, hs, h => by
    obtain ⟨o, he1, v, hy, hk⟩ := h
    simp only [okY, Bool.and_eq_true] at hok
    have hsw : S w := by
      rcases hs with hs | hs
      · simp at hs
      · exact hs
    have hmem : i ∈ Region.ready md ops listed := by simpa using hok.1.1.1
    have hz : ∀ z, z < ops.size → Z.contains z = true → reach md ops i ops.size z = true := fun z hz1 hz2 => by
      have := List.all_eq_true.1 hok.1.2 z (by simpa using hz1)
      rw [hz2] at this
      simpa using this
    exact wpAY_first hz he1 (Region.noSelect_spec hsn) hnd (fun c a w => hQ c o.dst v a w) _ _ _ _ hdn (Region.free_spec he1 hok.1.1.2) hmem hy hsw
      (wpAY_lexY hsn hnd hQ is _ _ _ (hdn.set hmem) hok.2 (.inr hsw) hk)
  | (i, k + 2) :: is, listed, a, w, hdn, hok, hs, h => by
    obtain ⟨o, he1, v, hy, hk⟩ := h
    simp only [okY, Bool.and_eq_true] at hok
    have hmem : i ∈ Region.ready md ops listed := by simpa using hok.1.1
    refine wpAY_pure he1 (Region.noSelect_spec hsn) hnd (fun c a w => hQ c o.dst v a w) _ _ _ _ (Region.free_spec he1 hok.1.2) hmem hy
      (wpAY_lexY hsn hnd hQ is _ _ _ (hdn.set hmem) hok.2 ?_ hk)
    rcases hs with hs | hs
    · left
      simpa using hs
    · exact .inr hs
/-- the law -/
theorem wpIn_region_lexY {id : Nat} {a : Act} {w : World} {l : List Oper} (is : List (Nat × Nat)) (Z : List Nat) (S : World → Prop) (hm : P.follows .mixedOrders = true) (hsn : Region.noSelect l.toArray = true) (hpl : l.all plainOp = true)
    (hlen : is.length = l.toArray.size) (hok : okY .any l.toArray Z is (Array.replicate l.toArray.size false) = true) (hQ : ∀ c d v a w, Q (.panic c) (Act.put a d v) w → Q (.panic c) a w) (hs : S w.drew)
    (h : lexY F n P l.toArray Q S Z is a w.drew) : (Code.region id l.toArray true).wpIn F n P Q a w := by
  have hnd : ∀ (i : Nat) o', l.toArray[i]? = some o' → plainOp o' = true := fun i o' e => List.all_eq_true.1 hpl o' (List.mem_of_getElem? (by simpa using e))
  refine wpIn_region_any hm (wpAY_any (S := S) (Z := Z) _ _ _ _ ?_)
  have key := wpAY_lexY (F := F) (n := n) (P := P) (Q := Q) (S := S) (Z := Z) hsn hnd hQ is (Array.replicate l.toArray.size false) a w.drew (down_new _) hok (.inr hs) h
  rw [hlen] at key
  exact key
theorem lexY_read {W : World} {i : Nat} {o : Oper} {l : List (Nat × Nat)} {a : Act} {v : Value} (hi : ops[i]? = some o) (hc : notCall o = true) (hw : Region.wanted o (yielded ops a.tmps) = true) (hr : ∀ w, S w → (execOp a.eval o).run P w = .ok (.value v) w)
    (h : lexY F n P ops Q S Z l (a.put o.dst v) W) : lexY F n P ops Q S Z ((i, 1) :: l) a W :=
  ⟨o, hi, v, ⟨fun w _ f hf => (by rw [about_notCall hc] at hf; cases hf), .inl ⟨hw, hr⟩⟩, h⟩
theorem lexY_builtin {W : World} {i : Nat} {o : Oper} {l : List (Nat × Nat)} {a : Act} {v : Value} (hi : ops[i]? = some o) (hF : ∀ f, F.fn f) (hw : Region.wanted o (yielded ops a.tmps) = true) (hr : ∀ w, S w → (execOp a.eval o).run P w = .ok (.value v) w)
    (h : lexY F n P ops Q S Z l (a.put o.dst v) W) : lexY F n P ops Q S Z ((i, 1) :: l) a W :=
  ⟨o, hi, v, ⟨fun _ _ f _ => hF f, .inl ⟨hw, hr⟩⟩, h⟩
theorem lexY_skip {W : World} {i : Nat} {o : Oper} {l : List (Nat × Nat)} {a : Act} (hi : ops[i]? = some o) (hF : ∀ f, F.fn f) (hw : Region.wanted o (yielded ops a.tmps) = false)
    (h : lexY F n P ops Q S Z l (a.put o.dst undef) W) : lexY F n P ops Q S Z ((i, 1) :: l) a W :=
  ⟨o, hi, undef, ⟨fun _ _ f _ => hF f, .inr ⟨hw, rfl⟩⟩, h⟩
theorem lexY_late {W : World} {i : Nat} {o : Oper} {l : List (Nat × Nat)} {a : Act} {v : Value} (hi : ops[i]? = some o) (hF : ∀ f, F.fn f) (hw : Region.wanted o (yielded ops a.tmps) = true) (hr : ∀ w, (execOp a.eval o).run P w = .ok (.value v) w)
    (h : lexY F n P ops Q S Z l (a.put o.dst v) W) : lexY F n P ops Q S Z ((i, 2) :: l) a W :=
  ⟨o, hi, v, ⟨fun _ _ f _ => hF f, .inl ⟨hw, fun w _ => hr w⟩⟩, h⟩
theorem lexY_eff {W : World} {i : Nat} {o : Oper} {l : List (Nat × Nat)} {a : Act} (hi : ops[i]? = some o) (hF : ∀ f, F.fn f)
    (h : o.uponIn F n P a (fun a' w' => (Z.contains i = true ∨ S w') ∧ lexY F n P ops Q S Z l a' w') Q ((execOp a.eval o).run P W)) : lexY F n P ops Q S Z ((i, 0) :: l) a W :=
  ⟨o, hi, fun f _ => hF f, h⟩
theorem lexY_nil {W : World} {a : Act} (h : Q .normal a W) : lexY F n P ops Q S Z [] a W := h
end
theorem wp_region_lexY {P : Program} {Q : Exit → Act → World → Prop} {id : Nat} {a : Act} {w : World} {l : List Oper} (is : List (Nat × Nat)) (Z : List Nat) (S : World → Prop) (hm : P.follows .mixedOrders = true) (hsn : Region.noSelect l.toArray = true) (hpl : l.all plainOp = true)
    (hlen : is.length = l.toArray.size) (hok : okY .any l.toArray Z is (Array.replicate l.toArray.size false) = true) (hs : S w.drew)
    (h : lexY Fence.wide 1 P l.toArray (PanQ Q (fun _ _ _ => False)) S Z is a w.drew) : (Code.region id l.toArray true).wp P Q a w :=
  wp_pan (Pc := fun _ _ _ => False) (fun _ _ _ h => h.elim) (wpIn_wide.1 (wpIn_region_lexY is Z S hm hsn hpl hlen hok (fun _ _ _ _ _ h => h) hs h))
end Go.Proofs.Ytanmndhdhlmjgaa
