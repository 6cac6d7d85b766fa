/- A region that only reads, inside a round of a range over a function: one walk in the order of the text serves. No condition. -/
import Derived.Test.YtanmndhdhlmjgaaLib
import Derived.RangeFuncNested
import Derived.RangeFuncCalls
import Derived.Sort.QuietIn
namespace Go.Proofs.Ytanmndhdhlmjgaa
open Go.RowKit
section
variable {F : Fence} {n : Nat} {P : Program} {ops : Array Oper} {Q : Exit → Act → World → Prop} {md : Region.Mode}
def plainOp (o : Oper) : Bool := match o.op with | .defer _ => false | _ => true
theorem plainOp_ne {o : Oper} (h : plainOp o = true) : ∀ c, o.op ≠ .defer c := fun c e => by simp [plainOp, e] at h
theorem uponIn_round {r : Nat} {o : Oper} {a : Act} {K : Act → World → Prop} : ∀ {x : Result Next}, o.uponIn F n P a K Q x → o.uponIn (F.inRound r) n P a K Q x
  | .ok (.value _) _, h => h
  | .ok .skip _, h => h
  | .ok (.defer _) _, h => h
  | .ok (.enter _ _) _, h => h
  | .ok (.row _ _) _, h => h
  | .ok (.round _ _ _ _ _) _, h => h
  | .halt x w, h => by cases x <;> exact h
theorem wpOpIn_round {r i : Nat} {K K' : Act → World → Prop} {a : Act} {w : World} (hnd : ∀ o, ops[i]? = some o → plainOp o = true) (hk : ∀ a w, K a w → K' a w)
    (h : wpOpIn F n P ops Q i K a w) : wpOpIn (F.inRound r) n P ops Q i K' a w := by
  have h := wpOpIn_mono hk h
  unfold wpOpIn at *
  split
  · rename_i e
    rw [e] at h; exact h
  · rename_i o e
    rw [e] at h
    dsimp only at h
    split
    · rename_i hw
      rw [if_pos hw] at h
      refine ⟨h.1, ?_⟩
      have h2 := h.2
      rw [Oper.semAt_eq _ _ _ (plainOp_ne (hnd o e))] at h2 ⊢
      exact uponIn_round h2
    · rename_i hw
      rw [if_neg hw] at h
      exact h
theorem wpAnyIn_round {r : Nat} (hnd : ∀ (i : Nat) o, ops[i]? = some o → plainOp o = true) : ∀ (fuel : Nat) (listed : Array Bool) (a : Act) (w : World),
    wpAnyIn F n P md ops Q fuel listed a w → wpAnyIn (F.inRound r) n P md ops Q fuel listed a w
  | 0, _, _, _, h => h
  | fuel + 1, _, _, _, h => ⟨h.1, fun i hi => wpOpIn_round (hnd i) (fun a' w' h' => wpAnyIn_round hnd fuel _ a' w' h') (h.2 i hi)⟩
theorem wpIn_quiet_round {r id : Nat} {a : Act} {w : World} {l : List Oper} (hro : F.round = none) (hnd : l.all plainOp = true) (hm : P.follows .mixedOrders = true) (hB : Region.lexB .any l.toArray = true)
    (h : wpQuietIn F n P l.toArray (fun w' => ∃ n, w' = w.drewN n) (fun a' => ∀ w', (∃ n, w' = w.drewN n) → Q .normal a' w') l a) : (Code.region id l.toArray true).wpIn (F.inRound r) n P Q a w := by
  have hnd' : ∀ (i : Nat) o, l.toArray[i]? = some o → plainOp o = true := fun i o e => List.all_eq_true.1 hnd o (List.mem_of_getElem? (by simpa using e))
  refine wpIn_region_any hm (wpAnyIn_round hnd' _ _ _ _ ?_)
  simp only [Region.lexB, Bool.and_eq_true] at hB
  refine wpAnyIn_of_quiet (C := fun w' => ∃ n, w' = w.drewN n) (Q := fun a' => ∀ w', (∃ n, w' = w.drewN n) → Q .normal a' w') hro (fun _ w' hw' h => h w' hw') _ _ _ _ ⟨1, rfl⟩ ?_
  have := wpAnyQIn_lex (F := F) (n := n) (P := P) (C := fun w' => ∃ n, w' = w.drewN n) (md := .any) hB.1 l 0 (Array.replicate l.toArray.size false) a (by simp) (by simpa using hB.2) h
  simpa using this
/-- in every world of S the operation leaves v and the world as it is -/
def YS (F : Fence) (P : Program) (ops : Array Oper) (S : World → Prop) (o : Oper) (v : Value) (a : Act) : Prop :=
  (∀ w, S w → ∀ f, o.about P w a.eval = some f → F.fn f) ∧
    ((Region.wanted o (yielded ops a.tmps) = true ∧ ∀ w, S w → (execOp a.eval o).run P w = .ok (.value v) w) ∨ (Region.wanted o (yielded ops a.tmps) = false ∧ v = undef))
/-- whichever operation comes up, S holds behind it -/
def wpAS (F : Fence) (n : Nat) (P : Program) (md : Region.Mode) (ops : Array Oper) (Q : Exit → Act → World → Prop) (S : World → Prop) (z : Nat) : Nat → Array Bool → Act → World → Prop
  | 0, listed, a, w => Region.ready md ops listed = [] ∧ Q .normal a w
  | fuel + 1, listed, a, w => (Region.ready md ops listed = [] → Q .normal a w) ∧
    ∀ i ∈ Region.ready md ops listed, wpOpIn F n P ops Q i (fun a' w' => (i = z ∨ S w') ∧ wpAS F n P md ops Q S z fuel (listed.setIfInBounds i true) a' w') a w
variable {S : World → Prop} {z : Nat}
theorem wpAS_any : ∀ (fuel : Nat) (listed : Array Bool) (a : Act) (w : World), wpAS F n P md ops Q S z fuel listed a w → wpAnyIn F n P md ops Q fuel listed a w
  | 0, _, _, _, h => h
  | fuel + 1, _, _, _, h => ⟨h.1, fun i hi => wpOpIn_mono (fun a' w' h' => wpAS_any fuel _ a' w' h'.2) (h.2 i hi)⟩
theorem YS.same {o : Oper} {v : Value} {a a' : Act} (hy : YS F P ops S o v a) (he : execOp a'.eval o = execOp a.eval o) (hw : Region.wanted o (yielded ops a'.tmps) = Region.wanted o (yielded ops a.tmps))
    (hb : ∀ w, o.about P w a'.eval = o.about P w a.eval) : YS F P ops S o v a' := by
  unfold YS at *
  rw [he, hw]
  exact ⟨fun w hs f hf => hy.1 w hs f (by rw [← hb w]; exact hf), hy.2⟩
theorem YS.run {i : Nat} {o : Oper} {v : Value} {a : Act} {w : World} {K : Act → World → Prop} (hi : ops[i]? = some o) (hnd : plainOp o = true) (hy : YS F P ops S o v a) (hs : S w) (h : K (a.put o.dst v) w) : wpOpIn F n P ops Q i K a w := by
  unfold wpOpIn
  rw [hi]
  dsimp only
  rcases hy.2 with ⟨hw, hv⟩ | ⟨hw, rfl⟩
  · rw [if_pos hw]
    refine ⟨hy.1 w hs, ?_⟩
    rw [Oper.semAt_eq _ _ _ (plainOp_ne hnd), hv w hs]
    exact h
  · rw [if_neg (by rw [hw]; simp)]
    exact ⟨hy.1 w hs, h⟩
theorem wpOpIn_swap {j : Nat} {oi oj : Oper} {v : Value} {K : Act → World → Prop} {a : Act} {w : World} (hj : ops[j]? = some oj) (hap : oi.apart ops oj = true) (hdj : plainOp oj = true)
    (hsi : ∀ cs b, oi.op ≠ .select cs b) (hsj : ∀ cs b, oj.op ≠ .select cs b) (hQ : ∀ c a w, Q (.panic c) (a.put oi.dst v) w → Q (.panic c) a w) (hy : YS F P ops S oi v a)
    (h : wpOpIn F n P ops Q j K (a.put oi.dst v) w) : wpOpIn F n P ops Q j (fun a' w' => YS F P ops S oi v a' ∧ K (a'.put oi.dst v) w') a w := by
  obtain ⟨h1, h2, h3⟩ := Oper.apart_spec hap
  have keepA : ∀ a, YS F P ops S oi v a → ∀ u, YS F P ops S oi v (a.put oj.dst u) := fun a hy u => hy.same (execOp_put oi hsi a oj.dst u h3) (wanted_put oi a oj.dst u h3) (fun w => about_put oi w a oj.dst u h3)
  have keep := keepA a hy
  have next : ∀ u w', K ((a.put oi.dst v).put oj.dst u) w' → YS F P ops S oi v (a.put oj.dst u) ∧ K ((a.put oj.dst u).put oi.dst v) w' := fun u w' hk => ⟨keep u, by rw [← Act.put_comm a v u h2]; exact hk⟩
  unfold wpOpIn at *
  rw [hj] at h ⊢
  dsimp only at h ⊢
  rw [wanted_put oj a oi.dst v h1] at h
  by_cases hw : Region.wanted oj (yielded ops a.tmps) = true
  · rw [if_pos hw] at h ⊢
    unfold Oper.wpIn at *
    rw [about_put oj w a oi.dst v h1] at h
    refine ⟨h.1, ?_⟩
    have h' := h.2
    rw [Oper.semAt_eq _ _ _ (plainOp_ne hdj)] at h' ⊢
    rw [execOp_put oj hsj a oi.dst v h1] at h'
    generalize (execOp a.eval oj).run P w = r at *
    match r, h' with
    | .ok (.value u) w', h' => exact next u w' h'
    | .ok .skip w', h' => exact next undef w' h'
    | .ok (.defer d) w', h' => exact ⟨keepA ⟨a.tmps, d :: a.defers⟩ (hy.same rfl rfl (fun _ => rfl)) undef, by rw [← Act.put_comm _ v undef h2, ← Act.put_defers]; exact h'⟩
    | .ok (.enter f args) w', h' =>
      refine ⟨h'.1, CallsIn.mono h'.2 fun e w'' he => ?_⟩
      cases e with
      | returned u => exact next u w'' he
      | panicked c => exact hQ _ _ _ he
      | outgrown => exact he
    | .ok (.row row args) w', h' => exact ⟨h'.1, RowsIn.mono h'.2 fun u w'' he => next u w'' he⟩
    | .ok (.round l f tmps assign body) w', h' =>
      refine ⟨h'.1, RoundIn.mono h'.2 fun e w'' he => ?_⟩
      cases e with
      | returned u => exact next u w'' he
      | panicked c => exact hQ _ _ _ he
      | outgrown => exact he
    | .halt x w', h' =>
      cases x <;> first | exact hQ _ _ _ h' | exact h'
  · rw [if_neg hw] at h ⊢
    exact ⟨by have := h.1; rw [about_put oj w a oi.dst v h1] at this; exact this, next undef w h.2⟩
/-- operation z waits for operation i -/
def waitsFor (md : Region.Mode) (ops : Array Oper) (z i : Nat) : Bool := match ops[z]? with | none => true | some o => o.after.any fun e => Region.binds md e && e.on == i
theorem wpAS_first {i : Nat} {oi : Oper} {v : Value} (hz : waitsFor md ops z i = true) (hi : ops[i]? = some oi) (hsel : ∀ (j : Nat) (o : Oper) cs b, ops[j]? = some o → o.op ≠ .select cs b) (hnd : ∀ (i : Nat) o, ops[i]? = some o → plainOp o = true)
    (hQ : ∀ c a w, Q (.panic c) (a.put oi.dst v) w → Q (.panic c) a w) : ∀ (fuel : Nat) (listed : Array Bool) (a : Act) (w : World),
      (∀ j oj, ops[j]? = some oj → j ≠ i → listed.getD j true = false → (∀ e ∈ oj.after, Region.binds md e = true → e.on ≠ i) → oi.apart ops oj = true) →
      i ∈ Region.ready md ops listed → YS F P ops S oi v a → S w → wpAS F n P md ops Q S z fuel (listed.setIfInBounds i true) (a.put oi.dst v) w → wpAS F n P md ops Q S z (fuel + 1) listed a w
  | 0, listed, a, w, _, hr, hy, hs, H => by
    refine ⟨fun h => (by rw [h] at hr; cases hr), fun j hj => ?_⟩
    by_cases hji : j = i
    · rw [hji]; exact hy.run hi (hnd i oi hi) hs ⟨.inr hs, H⟩
    · exact absurd (ready_mono hj hji) (by rw [H.1]; simp)
  | fuel + 1, listed, a, w, hfree, hr, hy, hs, H => by
    refine ⟨fun h => (by rw [h] at hr; cases hr), fun j hj => ?_⟩
    by_cases hji : j = i
    · rw [hji]; exact hy.run hi (hnd i oi hi) hs ⟨.inr hs, H⟩
    · obtain ⟨hjun, oj, hoj, hall⟩ := mem_ready.1 hj
      have hnot : ∀ e ∈ oj.after, Region.binds md e = true → e.on ≠ i := fun e he hb heq => by
        have h1 := hall e he hb
        have h0 := (mem_ready.1 hr).1
        rw [heq] at h1
        rcases Nat.lt_or_ge i listed.size with h' | h'
        · simp [h'] at h0 h1; rw [h0] at h1; cases h1
        · simp [Array.getElem?_eq_none h'] at h1
      have hjz : j ≠ z := fun e => by
        subst e
        unfold waitsFor at hz
        rw [hoj] at hz
        dsimp only at hz
        obtain ⟨e, he, hb⟩ := Array.any_eq_true'.1 hz
        rw [Bool.and_eq_true, beq_iff_eq] at hb
        exact hnot e he hb.1 hb.2
      have h2 := wpOpIn_swap hoj (hfree j oj hoj hji hjun hnot) (hnd j oj hoj) (fun cs b => hsel i oi cs b hi) (fun cs b => hsel j oj cs b hoj) hQ hy (H.2 j (ready_mono hj hji))
      refine wpOpIn_mono (fun a' w' h3 => ⟨h3.2.1, wpAS_first hz hi hsel hnd hQ fuel (listed.setIfInBounds j true) a' w' (fun k ok hk hki hun hno => hfree k ok hk hki ?_ hno) (ready_mono hr (Ne.symm hji)) h3.1 (h3.2.1.resolve_left hjz) ?_⟩) h2
      · by_cases hjk : j = k
        · rw [← hjk]; exact hjun
        · rwa [getD_set_ne true hjk] at hun
      · rw [Array.setIfInBounds_comm _ _ hji]
        exact h3.2.2
/-- the quiet operations, in the order given, and what follows them -/
def lexS (F : Fence) (P : Program) (ops : Array Oper) (S : World → Prop) (K : Act → Prop) : List Oper → Act → Prop
  | [], a => K a
  | o :: l, a => ∃ v, YS F P ops S o v a ∧ lexS F P ops S K l (a.put o.dst v)
theorem lexS_mono {K K' : Act → Prop} (hk : ∀ a, K a → K' a) : ∀ {l : List Oper} {a : Act}, lexS F P ops S K l a → lexS F P ops S K' l a
  | [], _, h => hk _ h
  | _ :: _, _, ⟨v, hy, h⟩ => ⟨v, hy, lexS_mono hk h⟩
theorem uponIn_mono' {o : Oper} {a : Act} {K K' : Act → World → Prop} (hk : ∀ a w, K a w → K' a w) : ∀ {x : Result Next}, o.uponIn F n P a K Q x → o.uponIn F n P a K' Q x
  | .ok (.value _) _, h => hk _ _ h
  | .ok .skip _, h => hk _ _ h
  | .ok (.defer _) _, h => hk _ _ h
  | .ok (.enter _ _) _, h => ⟨h.1, CallsIn.mono h.2 (fun e _ he => by cases e <;> first | exact hk _ _ he | exact he)⟩
  | .ok (.row _ _) _, h => ⟨h.1, RowsIn.mono h.2 (fun _ _ he => hk _ _ he)⟩
  | .ok (.round _ _ _ _ _) _, h => ⟨h.1, RoundIn.mono h.2 (fun e _ he => by cases e <;> first | exact hk _ _ he | exact he)⟩
  | .halt x w, h => by cases x <;> exact h
/-- each of the operations numbered in 'is' may come up when its turn comes, and is apart from what may come before it -/
def lexOk (md : Region.Mode) (ops : Array Oper) (z : Nat) : List Nat → Array Bool → Bool
  | [], _ => true
  | i :: is, listed => (Region.ready md ops listed).contains i && Region.free md ops listed i && waitsFor md ops z i && lexOk md ops z is (listed.setIfInBounds i true)
def lexEnd : List Nat → Array Bool → Array Bool
  | [], listed => listed
  | i :: is, listed => lexEnd is (listed.setIfInBounds i true)
theorem wpAS_lex (hsn : Region.noSelect ops = true) (hnd : ∀ (i : Nat) o, ops[i]? = some o → plainOp o = true) (hQ : ∀ c d v a w, Q (.panic c) (Act.put a d v) w → Q (.panic c) a w) {w : World} (hs : S w) :
    ∀ (is : List Nat) (l : List Oper) (listed : Array Bool) (a : Act) (fuel : Nat), is.map (ops[·]?) = l.map some → lexOk md ops z is listed = true →
      lexS F P ops S (fun a' => wpAS F n P md ops Q S z fuel (lexEnd is listed) a' w) l a → wpAS F n P md ops Q S z (is.length + fuel) listed a w
  | [], [], _, _, fuel, _, _, h => by simpa [lexS, lexEnd] using h
  | [], _ :: _, _, _, _, he, _, _ => by simp at he
  | _ :: _, [], _, _, _, he, _, _ => by simp at he
  | i :: is, o :: l, listed, a, fuel, he, hok, h => by
    simp only [List.map_cons, List.cons.injEq] at he
    simp only [lexOk, Bool.and_eq_true] at hok
    obtain ⟨v, hy, hk⟩ := h
    have := wpAS_lex hsn hnd hQ hs is l (listed.setIfInBounds i true) (a.put o.dst v) fuel he.2 hok.2 hk
    rw [List.length_cons, show is.length + 1 + fuel = is.length + fuel + 1 by omega]
    exact wpAS_first hok.1.2 he.1 (Region.noSelect_spec hsn) hnd (fun c a w => hQ c o.dst v a w) _ _ _ _ (Region.free_spec he.1 hok.1.1.2) (by simpa using hok.1.1.1) hy hs this
theorem wpAS_nil {listed : Array Bool} {a : Act} {w : World} (hr : Region.ready md ops listed = []) (h : Q .normal a w) : ∀ fuel, wpAS F n P md ops Q S z fuel listed a w
  | 0 => ⟨hr, h⟩
  | _ + 1 => ⟨fun _ => h, by rw [hr]; simp⟩
/-- one operation alone may come up -/
theorem wpAS_one {i fuel : Nat} {o : Oper} {listed : Array Bool} {a : Act} {w : World} (hr : Region.ready md ops listed = [i]) (hi : ops[i]? = some o) (hw : Region.wanted o (yielded ops a.tmps) = true) (hd : plainOp o = true)
    (h : (∀ f, o.about P w a.eval = some f → F.fn f) ∧ o.uponIn F n P a (fun a' w' => (i = z ∨ S w') ∧ wpAS F n P md ops Q S z fuel (listed.setIfInBounds i true) a' w') Q ((execOp a.eval o).run P w)) : wpAS F n P md ops Q S z (fuel + 1) listed a w := by
  refine ⟨fun h0 => by rw [hr] at h0; simp at h0, fun j hj => ?_⟩
  rw [hr, List.mem_singleton] at hj
  subst hj
  unfold wpOpIn
  rw [hi]
  dsimp only
  rw [if_pos hw]
  refine ⟨h.1, ?_⟩
  rw [Oper.semAt_eq _ _ _ (plainOp_ne hd)]
  exact h.2
theorem wpIn_region_S {id : Nat} {a : Act} {w : World} (hm : P.follows .mixedOrders = true) (h : wpAS F n P .any ops Q S z ops.size (Array.replicate ops.size false) a { w with drawn := w.drawn + 1 }) : (Code.region id ops true).wpIn F n P Q a w :=
  wpIn_region_any hm (wpAS_any _ _ _ _ h)
/-- a drawn region of operations that only read, and a last one that waits for all of them: ONE WALK -/
theorem wpIn_region_last {id : Nat} {a : Act} {w : World} {pre : List Oper} {o : Oper} (hm : P.follows .mixedOrders = true) (hsn : Region.noSelect (pre ++ [o]).toArray = true) (hpl : (pre ++ [o]).all plainOp = true)
    (hok : lexOk .any (pre ++ [o]).toArray pre.length (List.range pre.length) (Array.replicate (pre ++ [o]).toArray.size false) = true)
    (hr : Region.ready .any (pre ++ [o]).toArray (lexEnd (List.range pre.length) (Array.replicate (pre ++ [o]).toArray.size false)) = [pre.length])
    (hr2 : Region.ready .any (pre ++ [o]).toArray ((lexEnd (List.range pre.length) (Array.replicate (pre ++ [o]).toArray.size false)).setIfInBounds pre.length true) = [])
    (hg : o.guard = none) (hQ : ∀ c d v a w, Q (.panic c) (Act.put a d v) w → Q (.panic c) a w)
    (h : lexS F P (pre ++ [o]).toArray (fun w' => w' = w.drew) (fun a' => (∀ f, o.about P w.drew a'.eval = some f → F.fn f) ∧ o.uponIn F n P a' (fun a'' w'' => Q .normal a'' w'') Q ((execOp a'.eval o).run P w.drew)) pre a) : (Code.region id (pre ++ [o]).toArray true).wpIn F n P Q a w := by
  have hnd : ∀ (i : Nat) o', (pre ++ [o]).toArray[i]? = some o' → plainOp o' = true := fun i o' e => List.all_eq_true.1 hpl o' (List.mem_of_getElem? (by simpa using e))
  refine wpIn_region_S (S := fun w' => w' = w.drew) (z := pre.length) hm ?_
  have hpo : plainOp o = true := hnd pre.length o (by simp)
  have hsz : (pre ++ [o]).toArray.size = (List.range pre.length).length + 1 := by simp
  have hmap : (List.range pre.length).map ((pre ++ [o]).toArray[·]?) = pre.map some := by
    refine List.ext_getElem? fun k => ?_
    rcases Nat.lt_or_ge k pre.length with hk | hk
    · simp [hk, List.getElem?_append_left hk]
    · simp [hk]
  have key := wpAS_lex (F := F) (n := n) (P := P) (Q := Q) (md := .any) (S := fun w' => w' = w.drew) (z := pre.length) hsn hnd hQ (w := w.drew) rfl (List.range pre.length) pre (Array.replicate (pre ++ [o]).toArray.size false) a 1 hmap hok
    (lexS_mono (fun a' ha' => wpAS_one hr (by simp) (by simp [Region.wanted, hg]) hpo ⟨ha'.1, uponIn_mono' (fun a'' w'' hq => ⟨.inl rfl, wpAS_nil hr2 hq 0⟩) ha'.2⟩) h)
  rw [← hsz] at key
  exact key
/-- all operations but the last one, quiet, and then the last one -/
def lexT (F : Fence) (P : Program) (ops : Array Oper) (S : World → Prop) (K : Oper → Act → Prop) : List Oper → Act → Prop
  | [], _ => False
  | [o], a => K o a
  | o :: o2 :: l, a => ∃ v, YS F P ops S o v a ∧ lexT F P ops S K (o2 :: l) (a.put o.dst v)
theorem lexT_split {K : Oper → Act → Prop} : ∀ {l : List Oper} {a : Act}, lexT F P ops S K l a → ∃ pre o, l = pre ++ [o] ∧ lexS F P ops S (K o) pre a
  | [], _, h => h.elim
  | [o], _, h => ⟨[], o, rfl, h⟩
  | o :: o2 :: l, _, ⟨v, hy, h⟩ => by
    obtain ⟨pre, z, e, hk⟩ := lexT_split h
    exact ⟨o :: pre, z, by rw [e]; rfl, v, hy, hk⟩
def notCall (o : Oper) : Bool := match o.op with | .call _ => false | _ => true
theorem about_notCall {o : Oper} (h : notCall o = true) (w : World) (ρ : Operand → Value) : o.about P w ρ = none := by
  unfold Oper.about
  cases e : o.op <;> first | rfl | (simp [notCall, e] at h)
theorem lexT_step {K : Oper → Act → Prop} {W : World} {o o2 : Oper} {l : List Oper} {a : Act} {v : Value} (hc : notCall o = true) (hw : Region.wanted o (yielded ops a.tmps) = true) (hr : (execOp a.eval o).run P W = .ok (.value v) W)
    (h : lexT F P ops (fun w' => w' = W) K (o2 :: l) (a.put o.dst v)) : lexT F P ops (fun w' => w' = W) K (o :: o2 :: l) a :=
  ⟨v, ⟨fun w _ f hf => (by rw [about_notCall hc] at hf; cases hf), .inl ⟨hw, fun _ hw => by rw [hw]; exact hr⟩⟩, h⟩
theorem lexT_builtin {K : Oper → Act → Prop} {W : World} {o o2 : Oper} {l : List Oper} {a : Act} {v : Value} (hc : o.about P W a.eval = none) (hw : Region.wanted o (yielded ops a.tmps) = true) (hr : (execOp a.eval o).run P W = .ok (.value v) W)
    (h : lexT F P ops (fun w' => w' = W) K (o2 :: l) (a.put o.dst v)) : lexT F P ops (fun w' => w' = W) K (o :: o2 :: l) a :=
  ⟨v, ⟨fun w hw f hf => (by rw [hw, hc] at hf; cases hf), .inl ⟨hw, fun _ hw => by rw [hw]; exact hr⟩⟩, h⟩
theorem lexT_skip {K : Oper → Act → Prop} {W : World} {o o2 : Oper} {l : List Oper} {a : Act} (hc : notCall o = true) (hw : Region.wanted o (yielded ops a.tmps) = false)
    (h : lexT F P ops (fun w' => w' = W) K (o2 :: l) (a.put o.dst undef)) : lexT F P ops (fun w' => w' = W) K (o :: o2 :: l) a :=
  ⟨undef, ⟨fun w _ f hf => (by rw [about_notCall hc] at hf; cases hf), .inr ⟨hw, rfl⟩⟩, h⟩
/-- the last operation's own step -/
def LastOp (F : Fence) (n : Nat) (P : Program) (W : World) (Q : Exit → Act → World → Prop) (o : Oper) (a : Act) : Prop :=
  (∀ f, o.about P W a.eval = some f → F.fn f) ∧ o.uponIn F n P a (fun a'' w'' => Q .normal a'' w'') Q ((execOp a.eval o).run P W)
theorem lastOp_mk {W : World} {o : Oper} {a : Act} (hc : notCall o = true) (h : o.uponIn F n P a (fun a'' w'' => Q .normal a'' w'') Q ((execOp a.eval o).run P W)) : LastOp F n P W Q o a :=
  ⟨fun f hf => (by rw [about_notCall hc] at hf; cases hf), h⟩
theorem wpIn_region_last_lit {id : Nat} {a : Act} {w : World} {l : List Oper} (hm : P.follows .mixedOrders = true) (hsn : Region.noSelect l.toArray = true) (hpl : l.all plainOp = true)
    (hok : lexOk .any l.toArray (l.length - 1) (List.range (l.length - 1)) (Array.replicate l.toArray.size false) = true)
    (hr : Region.ready .any l.toArray (lexEnd (List.range (l.length - 1)) (Array.replicate l.toArray.size false)) = [l.length - 1])
    (hr2 : Region.ready .any l.toArray ((lexEnd (List.range (l.length - 1)) (Array.replicate l.toArray.size false)).setIfInBounds (l.length - 1) true) = [])
    (hg : (l.getLast?.map fun o => o.guard.isNone) = some true) (hQ : ∀ c d v a w, Q (.panic c) (Act.put a d v) w → Q (.panic c) a w)
    (h : lexT F P l.toArray (fun w' => w' = w.drew) (LastOp F n P w.drew Q) l a) : (Code.region id l.toArray true).wpIn F n P Q a w := by
  obtain ⟨pre, o, rfl, hk⟩ := lexT_split h
  have e : (pre ++ [o]).length - 1 = pre.length := by simp
  rw [e] at hok hr hr2
  have hg' : o.guard = none := by
    rw [List.getLast?_concat] at hg
    simpa using hg
  exact wpIn_region_last hm hsn hpl hok hr hr2 hg' hQ hk
end
end Go.Proofs.Ytanmndhdhlmjgaa

/- A drawn region of operations that only read, and a last one that waits for all of them through others: one walk, inside or outside a round. No condition. -/
namespace Go.Proofs.Ytanmndhdhlmjgaa
open Go.RowKit
section
variable {F : Fence} {n : Nat} {P : Program} {ops : Array Oper} {Q : Exit → Act → World → Prop} {md : Region.Mode} {S : World → Prop} {z : Nat}
/-- operation z waits for operation i, if need be through others -/
def reach (md : Region.Mode) (ops : Array Oper) (i : Nat) : Nat → Nat → Bool
  | 0, _ => false
  | k + 1, j => match ops[j]? with | none => false | some o => o.after.toList.any fun e => Region.binds md e && (e.on == i || reach md ops i k e.on)
theorem reach_not {i : Nat} {l : Array Bool} (hd : Down md ops l) (hi : l.getD i false = false) : ∀ (k j : Nat), reach md ops i k j = true → (∀ o, ops[j]? = some o → ∀ e ∈ o.after, Region.binds md e = true → l.getD e.on false = true) → False
  | 0, _, h, _ => by simp [reach] at h
  | k + 1, j, h, hj => by
    unfold reach at h
    cases ho : ops[j]? with
    | none => rw [ho] at h; simp at h
    | some o =>
      rw [ho] at h
      dsimp only at h
      obtain ⟨e, he, hb⟩ := List.any_eq_true.1 h
      rw [Bool.and_eq_true, Bool.or_eq_true, beq_iff_eq] at hb
      have h1 := hj o ho e (by simpa using he) hb.1
      rcases hb.2 with h2 | h2
      · rw [h2, hi] at h1; cases h1
      · exact reach_not hd hi k e.on h2 (fun o' ho' e' he' hb' => hd e.on o' h1 ho' e' he' hb')
theorem wpAS_firstD {i : Nat} {oi : Oper} {v : Value} {kz : Nat} (hz : reach md ops i kz z = true) (hi : ops[i]? = some oi) (hsel : ∀ (j : Nat) (o : Oper) cs b, ops[j]? = some o → o.op ≠ .select cs b) (hnd : ∀ (i : Nat) o, ops[i]? = some o → plainOp o = true)
    (hQ : ∀ c a w, Q (.panic c) (a.put oi.dst v) w → Q (.panic c) a w) : ∀ (fuel : Nat) (listed : Array Bool) (a : Act) (w : World), Down md ops listed →
      (∀ j oj, ops[j]? = some oj → j ≠ i → listed.getD j true = false → (∀ e ∈ oj.after, Region.binds md e = true → e.on ≠ i) → oi.apart ops oj = true) →
      i ∈ Region.ready md ops listed → YS F P ops S oi v a → S w → wpAS F n P md ops Q S z fuel (listed.setIfInBounds i true) (a.put oi.dst v) w → wpAS F n P md ops Q S z (fuel + 1) listed a w
  | 0, listed, a, w, _, _, hr, hy, hs, H => by
    refine ⟨fun h => (by rw [h] at hr; cases hr), fun j hj => ?_⟩
    by_cases hji : j = i
    · rw [hji]; exact hy.run hi (hnd i oi hi) hs ⟨.inr hs, H⟩
    · exact absurd (ready_mono hj hji) (by rw [H.1]; simp)
  | fuel + 1, listed, a, w, hdn, hfree, hr, hy, hs, H => by
    refine ⟨fun h => (by rw [h] at hr; cases hr), fun j hj => ?_⟩
    by_cases hji : j = i
    · rw [hji]; exact hy.run hi (hnd i oi hi) hs ⟨.inr hs, H⟩
    · obtain ⟨hjun, oj, hoj, hall⟩ := mem_ready.1 hj
      have hif : listed.getD i false = false := by
        have h0 := (mem_ready.1 hr).1
        rcases Nat.lt_or_ge i listed.size with h' | h'
        · rw [getD_any h' true] at h0; exact h0
        · simp [Array.getElem?_eq_none h'] at h0
      have hnot : ∀ e ∈ oj.after, Region.binds md e = true → e.on ≠ i := fun e he hb heq => by
        have h1 := hall e he hb
        rw [heq, hif] at h1
        cases h1
      have hjz : j ≠ z := fun e => by
        subst e
        exact reach_not hdn hif _ _ hz (fun o ho e he hb => by rw [hoj] at ho; injection ho with ho; subst ho; exact hall e he hb)
      have h2 := wpOpIn_swap hoj (hfree j oj hoj hji hjun hnot) (hnd j oj hoj) (fun cs b => hsel i oi cs b hi) (fun cs b => hsel j oj cs b hoj) hQ hy (H.2 j (ready_mono hj hji))
      refine wpOpIn_mono (fun a' w' h3 => ⟨h3.2.1, wpAS_firstD hz hi hsel hnd hQ fuel (listed.setIfInBounds j true) a' w' (hdn.set hj) (fun k ok hk hki hun hno => hfree k ok hk hki ?_ hno) (ready_mono hr (Ne.symm hji)) h3.1 (h3.2.1.resolve_left hjz) ?_⟩) h2
      · by_cases hjk : j = k
        · rw [← hjk]; exact hjun
        · rwa [getD_set_ne true hjk] at hun
      · rw [Array.setIfInBounds_comm _ _ hji]
        exact h3.2.2
def lexOkD (md : Region.Mode) (ops : Array Oper) (z kz : Nat) : List Nat → Array Bool → Bool
  | [], _ => true
  | i :: is, listed => (Region.ready md ops listed).contains i && Region.free md ops listed i && reach md ops i kz z && lexOkD md ops z kz is (listed.setIfInBounds i true)
theorem wpAS_lexD {kz : Nat} (hsn : Region.noSelect ops = true) (hnd : ∀ (i : Nat) o, ops[i]? = some o → plainOp o = true) (hQ : ∀ c d v a w, Q (.panic c) (Act.put a d v) w → Q (.panic c) a w) {w : World} (hs : S w) :
    ∀ (is : List Nat) (l : List Oper) (listed : Array Bool) (a : Act) (fuel : Nat), Down md ops listed → is.map (ops[·]?) = l.map some → lexOkD md ops z kz is listed = true →
      lexS F P ops S (fun a' => wpAS F n P md ops Q S z fuel (lexEnd is listed) a' w) l a → wpAS F n P md ops Q S z (is.length + fuel) listed a w
  | [], [], _, _, fuel, _, _, _, h => by simpa [lexS, lexEnd] using h
  | [], _ :: _, _, _, _, _, he, _, _ => by simp at he
  | _ :: _, [], _, _, _, _, he, _, _ => by simp at he
  | i :: is, o :: l, listed, a, fuel, hdn, he, hok, h => by
    simp only [List.map_cons, List.cons.injEq] at he
    simp only [lexOkD, Bool.and_eq_true] at hok
    obtain ⟨v, hy, hk⟩ := h
    have hmem : i ∈ Region.ready md ops listed := by simpa using hok.1.1.1
    have := wpAS_lexD hsn hnd hQ hs is l (listed.setIfInBounds i true) (a.put o.dst v) fuel (hdn.set hmem) he.2 hok.2 hk
    rw [List.length_cons, show is.length + 1 + fuel = is.length + fuel + 1 by omega]
    exact wpAS_firstD hok.1.2 he.1 (Region.noSelect_spec hsn) hnd (fun c a w => hQ c o.dst v a w) _ _ _ _ hdn (Region.free_spec he.1 hok.1.1.2) hmem hy hs this
theorem down_new (m : Nat) : Down md ops (Array.replicate m false) := fun j _ h => by rw [getD_rep] at h; cases h
/-- the law: inside or outside a round -/
theorem wpIn_region_lastD {id : Nat} {a : Act} {w : World} {l : List Oper} (hm : P.follows .mixedOrders = true) (hsn : Region.noSelect l.toArray = true) (hpl : l.all plainOp = true)
    (hok : lexOkD .any l.toArray (l.length - 1) l.length (List.range (l.length - 1)) (Array.replicate l.toArray.size false) = true)
    (hr : Region.ready .any l.toArray (lexEnd (List.range (l.length - 1)) (Array.replicate l.toArray.size false)) = [l.length - 1])
    (hr2 : Region.ready .any l.toArray ((lexEnd (List.range (l.length - 1)) (Array.replicate l.toArray.size false)).setIfInBounds (l.length - 1) true) = [])
    (hg : (l.getLast?.map fun o => o.guard.isNone) = some true) (hQ : ∀ c d v a w, Q (.panic c) (Act.put a d v) w → Q (.panic c) a w)
    (h : lexT F P l.toArray (fun w' => w' = w.drew) (LastOp F n P w.drew Q) l a) : (Code.region id l.toArray true).wpIn F n P Q a w := by
  obtain ⟨pre, o, rfl, h⟩ := lexT_split h
  have e : (pre ++ [o]).length - 1 = pre.length := by simp
  rw [e] at hok hr hr2
  have hg' : o.guard = none := by
    rw [List.getLast?_concat] at hg
    simpa using hg
  have hnd : ∀ (i : Nat) o', (pre ++ [o]).toArray[i]? = some o' → plainOp o' = true := fun i o' e => List.all_eq_true.1 hpl o' (List.mem_of_getElem? (by simpa using e))
  refine wpIn_region_S (S := fun w' => w' = w.drew) (z := pre.length) hm ?_
  have hpo : plainOp o = true := hnd pre.length o (by simp)
  have hsz : (pre ++ [o]).toArray.size = (List.range pre.length).length + 1 := by simp
  have hmap : (List.range pre.length).map ((pre ++ [o]).toArray[·]?) = pre.map some := by
    refine List.ext_getElem? fun k => ?_
    rcases Nat.lt_or_ge k pre.length with hk | hk
    · simp [hk, List.getElem?_append_left hk]
    · simp [hk]
  have key := wpAS_lexD (F := F) (n := n) (P := P) (Q := Q) (md := .any) (S := fun w' => w' = w.drew) (z := pre.length) hsn hnd hQ (w := w.drew) rfl (List.range pre.length) pre (Array.replicate (pre ++ [o]).toArray.size false) a 1 (down_new _) hmap hok
    (lexS_mono (fun a' ha' => wpAS_one hr (by simp) (by simp [Region.wanted, hg']) hpo ⟨ha'.1, uponIn_mono' (fun a'' w'' hq => ⟨.inl rfl, wpAS_nil hr2 hq 0⟩) ha'.2⟩) h)
  rw [← hsz] at key
  exact key
end
end Go.Proofs.Ytanmndhdhlmjgaa

/- A drawn region of reads and effects: the reads in whatever order, the effects in a row; one walk, inside or outside a round. No condition. -/
namespace Go.Proofs.Ytanmndhdhlmjgaa
open Go.RowKit
section
variable {F : Fence} {n : Nat} {P : Program} {ops : Array Oper} {Q : Exit → Act → World → Prop} {md : Region.Mode} {S : World → Prop} {Z : List Nat}
/-- whichever operation comes up, S holds behind it, but for those of Z -/
def wpAZ (F : Fence) (n : Nat) (P : Program) (md : Region.Mode) (ops : Array Oper) (Q : Exit → Act → World → Prop) (S : World → Prop) (Z : List Nat) : Nat → Array Bool → Act → World → Prop
  | 0, listed, a, w => Region.ready md ops listed = [] ∧ Q .normal a w
  | fuel + 1, listed, a, w => (Region.ready md ops listed = [] → Q .normal a w) ∧
    ∀ i ∈ Region.ready md ops listed, wpOpIn F n P ops Q i (fun a' w' => (Z.contains i = true ∨ S w') ∧ wpAZ F n P md ops Q S Z fuel (listed.setIfInBounds i true) a' w') a w
theorem wpAZ_any : ∀ (fuel : Nat) (listed : Array Bool) (a : Act) (w : World), wpAZ F n P md ops Q S Z fuel listed a w → wpAnyIn F n P md ops Q fuel listed a w
  | 0, _, _, _, h => h
  | fuel + 1, _, _, _, h => ⟨h.1, fun i hi => wpOpIn_mono (fun a' w' h' => wpAZ_any fuel _ a' w' h'.2) (h.2 i hi)⟩
theorem not_listed {listed : Array Bool} {i : Nat} (hr : i ∈ Region.ready md ops listed) : listed.getD i false = false := by
  have h0 := (mem_ready.1 hr).1
  rcases Nat.lt_or_ge i listed.size with h' | h'
  · rw [getD_any h' true] at h0; exact h0
  · simp [Array.getElem?_eq_none h'] at h0
theorem not_after {listed : Array Bool} {i j : Nat} {oj : Oper} (hr : i ∈ Region.ready md ops listed) (hj : j ∈ Region.ready md ops listed) (hoj : ops[j]? = some oj) : ∀ e ∈ oj.after, Region.binds md e = true → e.on ≠ i := fun e he hb heq => by
  obtain ⟨_, o, ho, hall⟩ := mem_ready.1 hj
  rw [hoj] at ho
  injection ho with ho
  subst ho
  have h1 := hall e he hb
  rw [heq, not_listed hr] at h1
  cases h1
theorem wpAZ_first {i : Nat} {oi : Oper} {v : Value} {kz : Nat} (hz : ∀ z, z < ops.size → Z.contains z = true → reach md ops i kz z = true) (hi : ops[i]? = some oi) (hsel : ∀ (j : Nat) (o : Oper) cs b, ops[j]? = some o → o.op ≠ .select cs b) (hnd : ∀ (i : Nat) o, ops[i]? = some o → plainOp o = true)
    (hQ : ∀ c a w, Q (.panic c) (a.put oi.dst v) w → Q (.panic c) a w) : ∀ (fuel : Nat) (listed : Array Bool) (a : Act) (w : World), Down md ops listed →
      (∀ j oj, ops[j]? = some oj → j ≠ i → listed.getD j true = false → (∀ e ∈ oj.after, Region.binds md e = true → e.on ≠ i) → oi.apart ops oj = true) →
      i ∈ Region.ready md ops listed → YS F P ops S oi v a → S w → wpAZ F n P md ops Q S Z fuel (listed.setIfInBounds i true) (a.put oi.dst v) w → wpAZ F n P md ops Q S Z (fuel + 1) listed a w
  | 0, listed, a, w, _, _, hr, hy, hs, H => by
    refine ⟨fun h => (by rw [h] at hr; cases hr), fun j hj => ?_⟩
    by_cases hji : j = i
    · rw [hji]; exact hy.run hi (hnd i oi hi) hs ⟨.inr hs, H⟩
    · exact absurd (ready_mono hj hji) (by rw [H.1]; simp)
  | fuel + 1, listed, a, w, hdn, hfree, hr, hy, hs, H => by
    refine ⟨fun h => (by rw [h] at hr; cases hr), fun j hj => ?_⟩
    by_cases hji : j = i
    · rw [hji]; exact hy.run hi (hnd i oi hi) hs ⟨.inr hs, H⟩
    · obtain ⟨hjun, oj, hoj, hall⟩ := mem_ready.1 hj
      have hnot := not_after hr hj hoj
      have hjz : ¬ Z.contains j = true := fun e => by
        have hjl : j < ops.size := by
          rcases Nat.lt_or_ge j ops.size with h | h
          · exact h
          · rw [Array.getElem?_eq_none h] at hoj; cases hoj
        exact reach_not hdn (not_listed hr) _ _ (hz j hjl e) (fun o ho e he hb => by rw [hoj] at ho; injection ho with ho; subst ho; exact hall e he hb)
      have h2 := wpOpIn_swap hoj (hfree j oj hoj hji hjun hnot) (hnd j oj hoj) (fun cs b => hsel i oi cs b hi) (fun cs b => hsel j oj cs b hoj) hQ hy (H.2 j (ready_mono hj hji))
      refine wpOpIn_mono (fun a' w' h3 => ⟨h3.2.1, wpAZ_first hz hi hsel hnd hQ fuel (listed.setIfInBounds j true) a' w' (hdn.set hj) (fun k ok hk hki hun hno => hfree k ok hk hki ?_ hno) (ready_mono hr (Ne.symm hji)) h3.1 (h3.2.1.resolve_left hjz) ?_⟩) h2
      · by_cases hjk : j = k
        · rw [← hjk]; exact hjun
        · rwa [getD_set_ne true hjk] at hun
      · rw [Array.setIfInBounds_comm _ _ hji]
        exact h3.2.2
/-- an operation that asks no world -/
theorem wpAZ_pure {i : Nat} {oi : Oper} {v : Value} (hi : ops[i]? = some oi) (hsel : ∀ (j : Nat) (o : Oper) cs b, ops[j]? = some o → o.op ≠ .select cs b) (hnd : ∀ (i : Nat) o, ops[i]? = some o → plainOp o = true)
    (hQ : ∀ c a w, Q (.panic c) (a.put oi.dst v) w → Q (.panic c) a w) : ∀ (fuel : Nat) (listed : Array Bool) (a : Act) (w : World), Z.contains i = true →
      (∀ j oj, ops[j]? = some oj → j ≠ i → listed.getD j true = false → (∀ e ∈ oj.after, Region.binds md e = true → e.on ≠ i) → oi.apart ops oj = true) →
      i ∈ Region.ready md ops listed → YS F P ops (fun _ => True) oi v a → wpAZ F n P md ops Q S Z fuel (listed.setIfInBounds i true) (a.put oi.dst v) w → wpAZ F n P md ops Q S Z (fuel + 1) listed a w
  | 0, listed, a, w, hzi, _, hr, hy, H => by
    refine ⟨fun h => (by rw [h] at hr; cases hr), fun j hj => ?_⟩
    by_cases hji : j = i
    · rw [hji]; exact hy.run hi (hnd i oi hi) trivial ⟨.inl hzi, H⟩
    · exact absurd (ready_mono hj hji) (by rw [H.1]; simp)
  | fuel + 1, listed, a, w, hzi, hfree, hr, hy, H => by
    refine ⟨fun h => (by rw [h] at hr; cases hr), fun j hj => ?_⟩
    by_cases hji : j = i
    · rw [hji]; exact hy.run hi (hnd i oi hi) trivial ⟨.inl hzi, H⟩
    · obtain ⟨hjun, oj, hoj, hall⟩ := mem_ready.1 hj
      have hnot := not_after hr hj hoj
      have h2 := wpOpIn_swap (S := fun _ => True) hoj (hfree j oj hoj hji hjun hnot) (hnd j oj hoj) (fun cs b => hsel i oi cs b hi) (fun cs b => hsel j oj cs b hoj) hQ hy (H.2 j (ready_mono hj hji))
      refine wpOpIn_mono (fun a' w' h3 => ⟨h3.2.1, wpAZ_pure hi hsel hnd hQ fuel (listed.setIfInBounds j true) a' w' hzi (fun k ok hk hki hun hno => hfree k ok hk hki ?_ hno) (ready_mono hr (Ne.symm hji)) h3.1 ?_⟩) h2
      · by_cases hjk : j = k
        · rw [← hjk]; exact hjun
        · rwa [getD_set_ne true hjk] at hun
      · rw [Array.setIfInBounds_comm _ _ hji]
        exact h3.2.2
theorem wpAZ_nil {listed : Array Bool} {a : Act} {w : World} (hr : Region.ready md ops listed = []) (h : Q .normal a w) : ∀ fuel, wpAZ F n P md ops Q S Z fuel listed a w
  | 0 => ⟨hr, h⟩
  | _ + 1 => ⟨fun _ => h, by rw [hr]; simp⟩
theorem wpAZ_one {i fuel : Nat} {o : Oper} {listed : Array Bool} {a : Act} {w : World} (hr : Region.ready md ops listed = [i]) (hi : ops[i]? = some o) (hw : Region.wanted o (yielded ops a.tmps) = true) (hd : plainOp o = true)
    (h : (∀ f, o.about P w a.eval = some f → F.fn f) ∧ o.uponIn F n P a (fun a' w' => (Z.contains i = true ∨ S w') ∧ wpAZ F n P md ops Q S Z fuel (listed.setIfInBounds i true) a' w') Q ((execOp a.eval o).run P w)) : wpAZ F n P md ops Q S Z (fuel + 1) listed a w := by
  refine ⟨fun h0 => by rw [hr] at h0; simp at h0, fun j hj => ?_⟩
  rw [hr, List.mem_singleton] at hj
  subst hj
  unfold wpOpIn
  rw [hi]
  dsimp only
  rw [if_pos hw]
  refine ⟨h.1, ?_⟩
  rw [Oper.semAt_eq _ _ _ (plainOp_ne hd)]
  exact h.2
/-- may the order be walked: effects (0), reads (1), late operations that ask no world (2) -/
def okM (md : Region.Mode) (ops : Array Oper) (Z : List Nat) : List (Nat × Nat) → Array Bool → Bool
  | [], listed => (Region.ready md ops listed).isEmpty
  | (i, 0) :: is, listed => (Region.ready md ops listed == [i]) && ((ops[i]?.map fun o => o.guard.isNone) == some true) && (!Z.contains i || is.all fun p => p.2 != 1) && okM md ops Z is (listed.setIfInBounds i true)
  | (i, 1) :: is, listed => (Region.ready md ops listed).contains i && Region.free md ops listed i && ((List.range ops.size).all fun z => !Z.contains z || reach md ops i ops.size z) && okM md ops Z is (listed.setIfInBounds i true)
  | (i, _) :: is, listed => (Region.ready md ops listed).contains i && Region.free md ops listed i && Z.contains i && okM md ops Z is (listed.setIfInBounds i true)
/-- the walk, by the operations' numbers -/
def lexP (F : Fence) (n : Nat) (P : Program) (ops : Array Oper) (Q : Exit → Act → World → Prop) (S : World → Prop) (Z : List Nat) : List (Nat × Nat) → Act → World → Prop
  | [], a, w => Q .normal a w
  | (i, 0) :: l, a, w => ∃ o, ops[i]? = some o ∧ (∀ f, o.about P w a.eval = some f → F.fn f) ∧ o.uponIn F n P a (fun a' w' => (Z.contains i = true ∨ S w') ∧ lexP F n P ops Q S Z l a' w') Q ((execOp a.eval o).run P w)
  | (i, 1) :: l, a, w => ∃ o, ops[i]? = some o ∧ ∃ v, YS F P ops S o v a ∧ lexP F n P ops Q S Z l (a.put o.dst v) w
  | (i, _) :: l, a, w => ∃ o, ops[i]? = some o ∧ ∃ v, YS F P ops (fun _ => True) o v a ∧ lexP F n P ops Q S Z l (a.put o.dst v) w
theorem wpAZ_lexP (hsn : Region.noSelect ops = true) (hnd : ∀ (i : Nat) o, ops[i]? = some o → plainOp o = true) (hQ : ∀ c d v a w, Q (.panic c) (Act.put a d v) w → Q (.panic c) a w) :
    ∀ (is : List (Nat × Nat)) (listed : Array Bool) (a : Act) (w : World), Down md ops listed → okM md ops Z is listed = true → ((is.all fun p => p.2 != 1) = true ∨ S w) →
      lexP F n P ops Q S Z is a w → wpAZ F n P md ops Q S Z is.length listed a w
  | [], listed, a, w, _, hok, _, h => wpAZ_nil (by simpa [okM] using hok) h _
  | (i, 0) :: is, listed, a, w, hdn, hok, hs, h => by
    obtain ⟨o, he1, h⟩ := h
    simp only [okM, Bool.and_eq_true, beq_iff_eq] at hok
    have hmem : i ∈ Region.ready md ops listed := by rw [hok.1.1.1]; simp
    have hg : o.guard = none := by
      have h1 := hok.1.1.2
      rw [he1] at h1
      simpa using h1
    refine wpAZ_one hok.1.1.1 he1 (by simp [Region.wanted, hg]) (hnd i o he1) ⟨h.1, uponIn_mono' (fun a'' w'' hq => ⟨hq.1, wpAZ_lexP hsn hnd hQ is _ _ _ (hdn.set hmem) hok.2 ?_ hq.2⟩) h.2⟩
    rcases hq.1 with h1 | h1
    · left
      have h2 := hok.1.2
      rw [h1] at h2
      simpa using h2
    · exact .inr h1
  | (i, 1) :: is, listed, a, w, hdn, hok, hs, h => by
    obtain ⟨o, he1, v, hy, hk⟩ := h
    simp only [okM, Bool.and_eq_true] at hok
    have hsw : S w := by
      rcases hs with hs | hs
      · simp at hs
      · exact hs
    have hmem : i ∈ Region.ready md ops listed := by simpa using hok.1.1.1
    have hz : ∀ z, z < ops.size → Z.contains z = true → reach md ops i ops.size z = true := fun z hz1 hz2 => by
      have := List.all_eq_true.1 hok.1.2 z (by simpa using hz1)
      rw [hz2] at this
      simpa using this
    exact wpAZ_first hz he1 (Region.noSelect_spec hsn) hnd (fun c a w => hQ c o.dst v a w) _ _ _ _ hdn (Region.free_spec he1 hok.1.1.2) hmem hy hsw
      (wpAZ_lexP hsn hnd hQ is _ _ _ (hdn.set hmem) hok.2 (.inr hsw) hk)
  | (i, k + 2) :: is, listed, a, w, hdn, hok, hs, h => by
    obtain ⟨o, he1, v, hy, hk⟩ := h
    simp only [okM, Bool.and_eq_true] at hok
    have hmem : i ∈ Region.ready md ops listed := by simpa using hok.1.1.1
    refine wpAZ_pure he1 (Region.noSelect_spec hsn) hnd (fun c a w => hQ c o.dst v a w) _ _ _ _ hok.1.2 (Region.free_spec he1 hok.1.1.2) hmem hy
      (wpAZ_lexP hsn hnd hQ is _ _ _ (hdn.set hmem) hok.2 ?_ hk)
    rcases hs with hs | hs
    · left
      simpa using hs
    · exact .inr hs
/-- the law -/
theorem wpIn_region_lexP {id : Nat} {a : Act} {w : World} {l : List Oper} (is : List (Nat × Nat)) (Z : List Nat) (S : World → Prop) (hm : P.follows .mixedOrders = true) (hsn : Region.noSelect l.toArray = true) (hpl : l.all plainOp = true)
    (hlen : is.length = l.toArray.size) (hok : okM .any l.toArray Z is (Array.replicate l.toArray.size false) = true) (hQ : ∀ c d v a w, Q (.panic c) (Act.put a d v) w → Q (.panic c) a w) (hs : S w.drew)
    (h : lexP F n P l.toArray Q S Z is a w.drew) : (Code.region id l.toArray true).wpIn F n P Q a w := by
  have hnd : ∀ (i : Nat) o', l.toArray[i]? = some o' → plainOp o' = true := fun i o' e => List.all_eq_true.1 hpl o' (List.mem_of_getElem? (by simpa using e))
  refine wpIn_region_any hm (wpAZ_any (S := S) (Z := Z) _ _ _ _ ?_)
  have key := wpAZ_lexP (F := F) (n := n) (P := P) (Q := Q) (S := S) (Z := Z) hsn hnd hQ is (Array.replicate l.toArray.size false) a w.drew (down_new _) hok (.inr hs) h
  rw [hlen] at key
  exact key
theorem lexP_read {W : World} {i : Nat} {o : Oper} {l : List (Nat × Nat)} {a : Act} {v : Value} (hi : ops[i]? = some o) (hc : notCall o = true) (hw : Region.wanted o (yielded ops a.tmps) = true) (hr : ∀ w, S w → (execOp a.eval o).run P w = .ok (.value v) w)
    (h : lexP F n P ops Q S Z l (a.put o.dst v) W) : lexP F n P ops Q S Z ((i, 1) :: l) a W :=
  ⟨o, hi, v, ⟨fun w _ f hf => (by rw [about_notCall hc] at hf; cases hf), .inl ⟨hw, hr⟩⟩, h⟩
theorem lexP_builtin {W : World} {i : Nat} {o : Oper} {l : List (Nat × Nat)} {a : Act} {v : Value} (hi : ops[i]? = some o) (hF : ∀ f, F.fn f) (hw : Region.wanted o (yielded ops a.tmps) = true) (hr : ∀ w, S w → (execOp a.eval o).run P w = .ok (.value v) w)
    (h : lexP F n P ops Q S Z l (a.put o.dst v) W) : lexP F n P ops Q S Z ((i, 1) :: l) a W :=
  ⟨o, hi, v, ⟨fun _ _ f _ => hF f, .inl ⟨hw, hr⟩⟩, h⟩
theorem lexP_skip {W : World} {i : Nat} {o : Oper} {l : List (Nat × Nat)} {a : Act} (hi : ops[i]? = some o) (hF : ∀ f, F.fn f) (hw : Region.wanted o (yielded ops a.tmps) = false)
    (h : lexP F n P ops Q S Z l (a.put o.dst undef) W) : lexP F n P ops Q S Z ((i, 1) :: l) a W :=
  ⟨o, hi, undef, ⟨fun _ _ f _ => hF f, .inr ⟨hw, rfl⟩⟩, h⟩
theorem lexP_late {W : World} {i : Nat} {o : Oper} {l : List (Nat × Nat)} {a : Act} {v : Value} (hi : ops[i]? = some o) (hF : ∀ f, F.fn f) (hw : Region.wanted o (yielded ops a.tmps) = true) (hr : ∀ w, (execOp a.eval o).run P w = .ok (.value v) w)
    (h : lexP F n P ops Q S Z l (a.put o.dst v) W) : lexP F n P ops Q S Z ((i, 2) :: l) a W :=
  ⟨o, hi, v, ⟨fun _ _ f _ => hF f, .inl ⟨hw, fun w _ => hr w⟩⟩, h⟩
theorem lexP_eff {W : World} {i : Nat} {o : Oper} {l : List (Nat × Nat)} {a : Act} (hi : ops[i]? = some o) (hF : ∀ f, F.fn f)
    (h : o.uponIn F n P a (fun a' w' => (Z.contains i = true ∨ S w') ∧ lexP F n P ops Q S Z l a' w') Q ((execOp a.eval o).run P W)) : lexP F n P ops Q S Z ((i, 0) :: l) a W :=
  ⟨o, hi, fun f _ => hF f, h⟩
theorem lexP_nil {W : World} {a : Act} (h : Q .normal a W) : lexP F n P ops Q S Z [] a W := h
end
theorem wp_region_lexP {P : Program} {Q : Exit → Act → World → Prop} {id : Nat} {a : Act} {w : World} {l : List Oper} (is : List (Nat × Nat)) (Z : List Nat) (S : World → Prop) (hm : P.follows .mixedOrders = true) (hsn : Region.noSelect l.toArray = true) (hpl : l.all plainOp = true)
    (hlen : is.length = l.toArray.size) (hok : okM .any l.toArray Z is (Array.replicate l.toArray.size false) = true) (hs : S w.drew)
    (h : lexP Fence.wide 1 P l.toArray (PanQ Q (fun _ _ _ => False)) S Z is a w.drew) : (Code.region id l.toArray true).wp P Q a w :=
  wp_pan (Pc := fun _ _ _ => False) (fun _ _ _ h => h.elim) (wpIn_wide.1 (wpIn_region_lexP is Z S hm hsn hpl hlen hok (fun _ _ _ _ _ h => h) hs h))
end Go.Proofs.Ytanmndhdhlmjgaa

/- A drawn region of reads and effects, where two effects may be ready at once: a tree of orders; one walk, inside or outside a round. No condition. -/
namespace Go.Proofs.Ytanmndhdhlmjgaa
open Go.RowKit
/-- orders -/
inductive Tr where
  | nil : Tr
  | op : Nat → Nat → Tr → Tr
  | two : Nat → Nat → Tr → Tr → Tr
def Tr.len : Tr → Nat
  | .nil => 0
  | .op _ _ t => t.len + 1
  | .two _ _ t _ => t.len + 1
def Tr.noRead : Tr → Bool
  | .nil => true
  | .op _ k t => (k != 1) && t.noRead
  | .two _ _ t u => t.noRead && u.noRead
section
variable {F : Fence} {n : Nat} {P : Program} {ops : Array Oper} {Q : Exit → Act → World → Prop} {md : Region.Mode} {S : World → Prop} {Z : List Nat}
def okV (md : Region.Mode) (ops : Array Oper) (Z : List Nat) : Tr → Array Bool → Bool
  | .nil, listed => (Region.ready md ops listed).isEmpty
  | .op i 0 t, listed => (Region.ready md ops listed == [i]) && ((ops[i]?.map fun o => o.guard.isNone) == some true) && (!Z.contains i || t.noRead) && okV md ops Z t (listed.setIfInBounds i true)
  | .op i 1 t, listed => (Region.ready md ops listed).contains i && Region.free md ops listed i && ((List.range ops.size).all fun z => !Z.contains z || reach md ops i ops.size z) && okV md ops Z t (listed.setIfInBounds i true)
  | .op i _ t, listed => (Region.ready md ops listed).contains i && Region.free md ops listed i && Z.contains i && okV md ops Z t (listed.setIfInBounds i true)
  | .two i j t u, listed => (Region.ready md ops listed == [i, j]) && ((ops[i]?.map fun o => o.guard.isNone) == some true) && ((ops[j]?.map fun o => o.guard.isNone) == some true) && (!Z.contains i || t.noRead) && (!Z.contains j || u.noRead) && (t.len == u.len) &&
      okV md ops Z t (listed.setIfInBounds i true) && okV md ops Z u (listed.setIfInBounds j true)
/-- the walk -/
def lexV (F : Fence) (n : Nat) (P : Program) (ops : Array Oper) (Q : Exit → Act → World → Prop) (S : World → Prop) (Z : List Nat) : Tr → Act → World → Prop
  | .nil, a, w => Q .normal a w
  | .op i 0 t, a, w => ∃ o, ops[i]? = some o ∧ (∀ f, o.about P w a.eval = some f → F.fn f) ∧ o.uponIn F n P a (fun a' w' => (Z.contains i = true ∨ S w') ∧ lexV F n P ops Q S Z t a' w') Q ((execOp a.eval o).run P w)
  | .op i 1 t, a, w => ∃ o, ops[i]? = some o ∧ ∃ v, YS F P ops S o v a ∧ lexV F n P ops Q S Z t (a.put o.dst v) w
  | .op i _ t, a, w => ∃ o, ops[i]? = some o ∧ ∃ v, YS F P ops (fun _ => True) o v a ∧ lexV F n P ops Q S Z t (a.put o.dst v) w
  | .two i j t u, a, w => (∃ o, ops[i]? = some o ∧ (∀ f, o.about P w a.eval = some f → F.fn f) ∧ o.uponIn F n P a (fun a' w' => (Z.contains i = true ∨ S w') ∧ lexV F n P ops Q S Z t a' w') Q ((execOp a.eval o).run P w)) ∧
      ∃ o, ops[j]? = some o ∧ (∀ f, o.about P w a.eval = some f → F.fn f) ∧ o.uponIn F n P a (fun a' w' => (Z.contains j = true ∨ S w') ∧ lexV F n P ops Q S Z u a' w') Q ((execOp a.eval o).run P w)
theorem wpAZ_two {i j fuel : Nat} {o p : Oper} {listed : Array Bool} {a : Act} {w : World} (hr : Region.ready md ops listed = [i, j]) (hi : ops[i]? = some o) (hj : ops[j]? = some p) (hw : Region.wanted o (yielded ops a.tmps) = true) (hw2 : Region.wanted p (yielded ops a.tmps) = true) (hd : plainOp o = true) (hd2 : plainOp p = true)
    (h : (∀ f, o.about P w a.eval = some f → F.fn f) ∧ o.uponIn F n P a (fun a' w' => (Z.contains i = true ∨ S w') ∧ wpAZ F n P md ops Q S Z fuel (listed.setIfInBounds i true) a' w') Q ((execOp a.eval o).run P w))
    (h2 : (∀ f, p.about P w a.eval = some f → F.fn f) ∧ p.uponIn F n P a (fun a' w' => (Z.contains j = true ∨ S w') ∧ wpAZ F n P md ops Q S Z fuel (listed.setIfInBounds j true) a' w') Q ((execOp a.eval p).run P w)) : wpAZ F n P md ops Q S Z (fuel + 1) listed a w := by
  refine ⟨fun h0 => by rw [hr] at h0; simp at h0, fun k hk => ?_⟩
  rw [hr] at hk
  simp only [List.mem_cons, List.not_mem_nil, or_false] at hk
  unfold wpOpIn
  rcases hk with rfl | rfl
  · rw [hi]
    dsimp only
    rw [if_pos hw]
    refine ⟨h.1, ?_⟩
    rw [Oper.semAt_eq _ _ _ (plainOp_ne hd)]
    exact h.2
  · rw [hj]
    dsimp only
    rw [if_pos hw2]
    refine ⟨h2.1, ?_⟩
    rw [Oper.semAt_eq _ _ _ (plainOp_ne hd2)]
    exact h2.2
theorem wpAZ_lexV (hsn : Region.noSelect ops = true) (hnd : ∀ (i : Nat) o, ops[i]? = some o → plainOp o = true) (hQ : ∀ c d v a w, Q (.panic c) (Act.put a d v) w → Q (.panic c) a w) :
    ∀ (t : Tr) (listed : Array Bool) (a : Act) (w : World), Down md ops listed → okV md ops Z t listed = true → (t.noRead = true ∨ S w) →
      lexV F n P ops Q S Z t a w → wpAZ F n P md ops Q S Z t.len listed a w
  | .nil, listed, a, w, _, hok, _, h => wpAZ_nil (by simpa [okV] using hok) h _
  | .op i 0 t, listed, a, w, hdn, hok, hs, h => by
    obtain ⟨o, he1, h⟩ := h
    simp only [okV, Bool.and_eq_true, beq_iff_eq] at hok
    have hmem : i ∈ Region.ready md ops listed := by rw [hok.1.1.1]; simp
    have hg : o.guard = none := by
      have h1 := hok.1.1.2
      rw [he1] at h1
      simpa using h1
    refine wpAZ_one hok.1.1.1 he1 (by simp [Region.wanted, hg]) (hnd i o he1) ⟨h.1, uponIn_mono' (fun a'' w'' hq => ⟨hq.1, wpAZ_lexV hsn hnd hQ t _ _ _ (hdn.set hmem) hok.2 ?_ hq.2⟩) h.2⟩
    rcases hq.1 with h1 | h1
    · left
      have h2 := hok.1.2
      rw [h1] at h2
      simpa using h2
    · exact .inr h1
  | .op i 1 t, listed, a, w, hdn, hok, hs, h => by
    obtain ⟨o, he1, v, hy, hk⟩ := h
    simp only [okV, Bool.and_eq_true] at hok
    have hsw : S w := by
      rcases hs with hs | hs
      · simp [Tr.noRead] at hs
      · exact hs
    have hmem : i ∈ Region.ready md ops listed := by simpa using hok.1.1.1
    have hz : ∀ z, z < ops.size → Z.contains z = true → reach md ops i ops.size z = true := fun z hz1 hz2 => by
      have := List.all_eq_true.1 hok.1.2 z (by simpa using hz1)
      rw [hz2] at this
      simpa using this
    exact wpAZ_first hz he1 (Region.noSelect_spec hsn) hnd (fun c a w => hQ c o.dst v a w) _ _ _ _ hdn (Region.free_spec he1 hok.1.1.2) hmem hy hsw
      (wpAZ_lexV hsn hnd hQ t _ _ _ (hdn.set hmem) hok.2 (.inr hsw) hk)
  | .op i (k + 2) t, listed, a, w, hdn, hok, hs, h => by
    obtain ⟨o, he1, v, hy, hk⟩ := h
    simp only [okV, Bool.and_eq_true] at hok
    have hmem : i ∈ Region.ready md ops listed := by simpa using hok.1.1.1
    refine wpAZ_pure he1 (Region.noSelect_spec hsn) hnd (fun c a w => hQ c o.dst v a w) _ _ _ _ hok.1.2 (Region.free_spec he1 hok.1.1.2) hmem hy
      (wpAZ_lexV hsn hnd hQ t _ _ _ (hdn.set hmem) hok.2 ?_ hk)
    rcases hs with hs | hs
    · left
      simp only [Tr.noRead, Bool.and_eq_true] at hs
      exact hs.2
    · exact .inr hs
  | .two i j t u, listed, a, w, hdn, hok, hs, h => by
    obtain ⟨⟨o, he1, h1⟩, p, he2, h2⟩ := h
    simp only [okV, Bool.and_eq_true, beq_iff_eq] at hok
    obtain ⟨⟨⟨⟨⟨⟨⟨hr, hg1⟩, hg2⟩, hz1⟩, hz2⟩, hl⟩, hk1⟩, hk2⟩ := hok
    have hm1 : i ∈ Region.ready md ops listed := by rw [hr]; simp
    have hm2 : j ∈ Region.ready md ops listed := by rw [hr]; simp
    rw [he1] at hg1
    rw [he2] at hg2
    have hg1' : o.guard = none := by simpa using hg1
    have hg2' : p.guard = none := by simpa using hg2
    refine wpAZ_two hr he1 he2 (by simp [Region.wanted, hg1']) (by simp [Region.wanted, hg2']) (hnd i o he1) (hnd j p he2) ⟨h1.1, uponIn_mono' (fun a'' w'' hq => ⟨hq.1, wpAZ_lexV hsn hnd hQ t _ _ _ (hdn.set hm1) hk1 ?_ hq.2⟩) h1.2⟩
      ⟨h2.1, uponIn_mono' (fun a'' w'' hq => ⟨hq.1, hl ▸ wpAZ_lexV hsn hnd hQ u _ _ _ (hdn.set hm2) hk2 (hq.1.imp_left fun h1 => by rw [h1] at hz2; simpa using hz2) hq.2⟩) h2.2⟩
    rcases hq.1 with h1 | h1
    · left
      rw [h1] at hz1
      simpa using hz1
    · exact .inr h1
theorem wpIn_region_lexV {id : Nat} {a : Act} {w : World} {l : List Oper} (is : Tr) (Z : List Nat) (S : World → Prop) (hm : P.follows .mixedOrders = true) (hsn : Region.noSelect l.toArray = true) (hpl : l.all plainOp = true)
    (hlen : is.len = l.toArray.size) (hok : okV .any l.toArray Z is (Array.replicate l.toArray.size false) = true) (hQ : ∀ c d v a w, Q (.panic c) (Act.put a d v) w → Q (.panic c) a w) (hs : S w.drew)
    (h : lexV F n P l.toArray Q S Z is a w.drew) : (Code.region id l.toArray true).wpIn F n P Q a w := by
  have hnd : ∀ (i : Nat) o', l.toArray[i]? = some o' → plainOp o' = true := fun i o' e => List.all_eq_true.1 hpl o' (List.mem_of_getElem? (by simpa using e))
  refine wpIn_region_any hm (wpAZ_any (S := S) (Z := Z) _ _ _ _ ?_)
  have key := wpAZ_lexV (F := F) (n := n) (P := P) (Q := Q) (S := S) (Z := Z) hsn hnd hQ is (Array.replicate l.toArray.size false) a w.drew (down_new _) hok (.inr hs) h
  rw [hlen] at key
  exact key
theorem lexV_read {W : World} {i : Nat} {o : Oper} {l : Tr} {a : Act} {v : Value} (hi : ops[i]? = some o) (hc : notCall o = true) (hw : Region.wanted o (yielded ops a.tmps) = true) (hr : ∀ w, S w → (execOp a.eval o).run P w = .ok (.value v) w)
    (h : lexV F n P ops Q S Z l (a.put o.dst v) W) : lexV F n P ops Q S Z (.op i 1 l) a W :=
  ⟨o, hi, v, ⟨fun w _ f hf => (by rw [about_notCall hc] at hf; cases hf), .inl ⟨hw, hr⟩⟩, h⟩
theorem lexV_builtin {W : World} {i : Nat} {o : Oper} {l : Tr} {a : Act} {v : Value} (hi : ops[i]? = some o) (hF : ∀ f, F.fn f) (hw : Region.wanted o (yielded ops a.tmps) = true) (hr : ∀ w, S w → (execOp a.eval o).run P w = .ok (.value v) w)
    (h : lexV F n P ops Q S Z l (a.put o.dst v) W) : lexV F n P ops Q S Z (.op i 1 l) a W :=
  ⟨o, hi, v, ⟨fun _ _ f _ => hF f, .inl ⟨hw, hr⟩⟩, h⟩
theorem lexV_skip {W : World} {i : Nat} {o : Oper} {l : Tr} {a : Act} (hi : ops[i]? = some o) (hF : ∀ f, F.fn f) (hw : Region.wanted o (yielded ops a.tmps) = false)
    (h : lexV F n P ops Q S Z l (a.put o.dst undef) W) : lexV F n P ops Q S Z (.op i 1 l) a W :=
  ⟨o, hi, undef, ⟨fun _ _ f _ => hF f, .inr ⟨hw, rfl⟩⟩, h⟩
theorem lexV_late {W : World} {i : Nat} {o : Oper} {l : Tr} {a : Act} {v : Value} (hi : ops[i]? = some o) (hF : ∀ f, F.fn f) (hw : Region.wanted o (yielded ops a.tmps) = true) (hr : ∀ w, (execOp a.eval o).run P w = .ok (.value v) w)
    (h : lexV F n P ops Q S Z l (a.put o.dst v) W) : lexV F n P ops Q S Z (.op i 2 l) a W :=
  ⟨o, hi, v, ⟨fun _ _ f _ => hF f, .inl ⟨hw, fun w _ => hr w⟩⟩, h⟩
theorem lexV_eff {W : World} {i : Nat} {o : Oper} {l : Tr} {a : Act} (hi : ops[i]? = some o) (hF : ∀ f, F.fn f)
    (h : o.uponIn F n P a (fun a' w' => (Z.contains i = true ∨ S w') ∧ lexV F n P ops Q S Z l a' w') Q ((execOp a.eval o).run P W)) : lexV F n P ops Q S Z (.op i 0 l) a W :=
  ⟨o, hi, fun f _ => hF f, h⟩
theorem lexV_two {W : World} {i j : Nat} {t u : Tr} {a : Act} (h1 : lexV F n P ops Q S Z (.op i 0 t) a W) (h2 : lexV F n P ops Q S Z (.op j 0 u) a W) : lexV F n P ops Q S Z (.two i j t u) a W := ⟨h1, h2⟩
theorem lexV_nil {W : World} {a : Act} (h : Q .normal a W) : lexV F n P ops Q S Z .nil a W := h
end
theorem wp_region_lexV {P : Program} {Q : Exit → Act → World → Prop} {id : Nat} {a : Act} {w : World} {l : List Oper} (is : Tr) (Z : List Nat) (S : World → Prop) (hm : P.follows .mixedOrders = true) (hsn : Region.noSelect l.toArray = true) (hpl : l.all plainOp = true)
    (hlen : is.len = l.toArray.size) (hok : okV .any l.toArray Z is (Array.replicate l.toArray.size false) = true) (hs : S w.drew)
    (h : lexV Fence.wide 1 P l.toArray (PanQ Q (fun _ _ _ => False)) S Z is a w.drew) : (Code.region id l.toArray true).wp P Q a w :=
  wp_pan (Pc := fun _ _ _ => False) (fun _ _ _ h => h.elim) (wpIn_wide.1 (wpIn_region_lexV is Z S hm hsn hpl hlen hok (fun _ _ _ _ _ h => h) hs h))
end Go.Proofs.Ytanmndhdhlmjgaa
