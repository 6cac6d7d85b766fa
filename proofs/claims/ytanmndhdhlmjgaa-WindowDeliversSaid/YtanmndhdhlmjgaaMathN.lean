/- What an answer does to a transmission's sender; what holds behind each step. No condition. -/
import Derived.Test.YtanmndhdhlmjgaaMathM
import Derived.Test.YtanmndhdhlmjgaaRj
namespace Go.Proofs.Ytanmndhdhlmjgaa
theorem tw_spec : ∀ l : List Om, (l.takeWhile (·.ak)).length ≤ l.length ∧ (∀ i (h : i < l.length), i < (l.takeWhile (·.ak)).length → l[i].ak = true) ∧ (∀ h : (l.takeWhile (·.ak)).length < l.length, (l[(l.takeWhile (·.ak)).length]'h).ak = false)
  | [] => ⟨by simp, fun i h => by simp at h, fun h => by simp at h⟩
  | o :: l => by
    have ih := tw_spec l
    by_cases ho : o.ak = true
    · have e : (o :: l).takeWhile (·.ak) = o :: l.takeWhile (·.ak) := by rw [List.takeWhile_cons, if_pos ho]
      refine ⟨by rw [e]; simp only [List.length_cons]; omega, fun i h hi => ?_, fun h => ?_⟩
      · rw [e, List.length_cons] at hi
        cases i with
        | zero => exact ho
        | succ i => exact ih.2.1 i (by simpa using h) (by omega)
      · have h2 : (l.takeWhile (·.ak)).length < l.length := by rw [e] at h; simpa using h
        have h3 := ih.2.2 h2
        simp only [e, List.length_cons, List.getElem_cons_succ]
        exact h3
    · have e : (o :: l).takeWhile (·.ak) = [] := by rw [List.takeWhile_cons, if_neg ho]
      refine ⟨by rw [e]; simp, fun i h hi => by rw [e] at hi; simp at hi, fun h => ?_⟩
      simp only [e, List.length_nil, List.getElem_cons_zero]
      rwa [Bool.not_eq_true] at ho
theorem selB_pos (ack : Int) : ∀ (l : List Xm) (e : Int), selB ack e l = true → ∀ x ∈ l, 1 ≤ x.c
  | y :: l, e, h, x, hx => by
    rw [selB] at h
    split at h
    · cases h
    · rcases List.mem_cons.1 hx with rfl | hx
      · omega
      · exact selB_pos ack l _ h x hx
theorem sel_pos {p : Pm} (h : chkP p = 0) : ∀ x ∈ p.sel, 1 ≤ x.c := by
  unfold chkP at h
  split at h
  · cases h
  split at h
  · cases h
  split at h
  · cases h
  rename_i h3
  exact selB_pos p.ack p.sel p.ack (by simpa using h3)
/-- what an answer leaves -/
structure AkdI (pu : List (List Nat)) (rc : Int → Prop) (rn now : Int) (P : Nat) (rl : Int) (s : Sm) (p : Pm) (s2 : Sm) : Prop where
  si : SI pu rc rn now P s2
  next : s2.next = s.next
  lim : s2.lim = s.lim
  q : s2.q = s.q
  base : s.base ≤ s2.base
  crd : s2.base + s2.cred ≤ max (max (s.base + s.cred) (p.ack + p.cred)) s.next
  done : p.ack = s.next → s2.out = [] ∧ rl ≤ s2.cred
  keep : s2.base = s.base → s.cred ≤ s2.cred
theorem ack_i {pu : List (List Nat)} {rc : Int → Prop} {rn now rl : Int} {P K : Nat} {s : Sm} {p : Pm} (h : SI pu rc rn now P s) (hp : PyI K pu) (hK : K ≤ 1000) (h0 : 0 ≤ now) (hn : now ≤ 100000) (hP : P ≤ 100000) (ha : AnI rc rn rl p) (hr1 : ∀ n, rc n → n ≠ rn) (hr2 : ∀ n, rc n → n < s.next) (hr3 : ∀ n, n < rn → rc n) (hrl : 0 ≤ rl ∧ rl ≤ 8) : AkdI pu rc rn now P rl s p (ackS s now p).1 := by
  have hc := h.chk hp hK hn hP
  have e1 := h.b0
  have e2 := h.brn
  have e3 := h.rnx
  have e4 := h.end_
  have e5 := h.cr0
  have e6 := h.crd
  have e7 := ha.ack
  have e8 := ha.cred
  unfold ackS
  split
  · rename_i hna
    have hnb : p.ack < s.base := by
      rcases Int.lt_or_le p.ack s.base with hb | hb
      · exact hb
      · exfalso
        have hx : acceptB s now p = true := by
          unfold acceptB
          rw [Bool.and_eq_true, decide_eq_true_eq]
          refine ⟨⟨hc, by omega, ha.chk, ha.kind, by rw [ha.ses, h.ses], hb, by omega⟩, ?_⟩
          rw [Bool.not_eq_true', List.any_eq_false]
          intro x hx
          simp only [decide_eq_true_eq]
          intro hlt
          by_cases hxc : x.c < 1
          · -- extents are not empty
            have := (sel_pos ha.chk x hx)
            omega
          · have h9 := hr2 _ (ha.cov x hx (x.s + x.c - 1) (by omega) (by omega))
            omega
        rw [hx] at hna
        cases hna
    exact ⟨h, rfl, rfl, rfl, Int.le_refl _, Int.le_trans (Int.le_max_left _ _) (Int.le_max_left _ _), fun e => by omega, fun _ => Int.le_refl _⟩
  · rename_i hac
    rw [Bool.not_eq_false] at hac
    dsimp only
    obtain ⟨l, hl⟩ : ∃ l, l = s.out.map (ackO p) := ⟨_, rfl⟩
    rw [← hl]
    have hll : l.length = s.out.length := by rw [hl, List.length_map]
    obtain ⟨t1, t2, t3⟩ := tw_spec l
    obtain ⟨f, hf⟩ : ∃ f, f = (l.takeWhile (·.ak)).length := ⟨_, rfl⟩
    rw [← hf] at t1 t2 ⊢
    have t3 : ∀ hh : f < l.length, l[f].ak = false := by subst hf; exact t3
    clear hf
    have hab : ∀ n, ackedB p n = true → rc n := fun n hn => by
      unfold ackedB at hn
      rw [Bool.or_eq_true, decide_eq_true_eq, List.any_eq_true] at hn
      rcases hn with hn | ⟨x, hx, hxn⟩
      · exact hr3 n (by omega)
      · rw [decide_eq_true_eq] at hxn
        exact ha.cov x hx n hxn.1 hxn.2
    have hao : ∀ o : Om, (ackO p o).seq = o.seq ∧ (ackO p o).p = o.p ∧ (ackO p o).cnt = o.cnt ∧ (ackO p o).time = o.time ∧ ((ackO p o).ak = true → o.ak = true ∨ ackedB p o.seq = true) ∧ (ackedB p o.seq = true → (ackO p o).ak = true) := fun o => by
      unfold ackO
      split
      · rename_i hk
        rw [Bool.and_eq_true] at hk
        exact ⟨rfl, rfl, rfl, rfl, fun _ => .inr hk.2, fun _ => rfl⟩
      · rename_i hk
        refine ⟨rfl, rfl, rfl, rfl, fun e => .inl e, fun e => ?_⟩
        rw [e, Bool.and_true, Bool.not_eq_true', Bool.not_eq_false] at hk
        exact hk
    have hat : ∀ i (hi : i < l.length) (hs : i < s.out.length), l[i] = ackO p s.out[i] := fun i hi hs => by
      have : l[i]? = some (ackO p s.out[i]) := by rw [hl, List.getElem?_map, List.getElem?_eq_getElem hs]; rfl
      rw [List.getElem?_eq_getElem hi] at this
      injection this
    have hrec : ∀ i (hi : i < l.length), l[i].ak = true → rc (s.base + i) := fun i hi hk => by
      have ho := h.out i (by omega)
      rw [hat i hi (by omega)] at hk
      rcases (hao _).2.2.2.2.1 hk with hk | hk
      · exact ho.ak hk
      · rw [ho.seq] at hk
        exact hab _ hk
    have hbf : s.base + f ≤ rn := by
      rcases Int.lt_or_le rn (s.base + f) with hlt | hle
      · exfalso
        have hi : (rn - s.base).toNat < l.length := by omega
        have h1 := hrec _ hi (t2 _ hi (by omega))
        exact hr1 _ h1 (by omega)
      · exact hle
    refine ⟨⟨h.ses, h.lim, h.tmo, by dsimp only; omega, hbf, e3, by dsimp only; rw [List.length_drop]; omega, by dsimp only; rw [List.length_drop]; have := h.outl; omega, h.nxl, h.q, by dsimp only; omega, by dsimp only; omega, fun i hi => ?_⟩, rfl, rfl, rfl, by dsimp only; omega, by dsimp only; omega, fun hd => ⟨?_, by dsimp only; omega⟩, fun hb => ?_⟩
    · dsimp only at hi ⊢
      rw [List.length_drop] at hi
      have hi2 : f + i < l.length := by omega
      have hi3 : f + i < s.out.length := by omega
      have ho := h.out (f + i) hi3
      have hx := hao s.out[f + i]
      rw [List.getElem_drop, hat (f + i) hi2 hi3]
      have hn : s.base + ((f + i : Nat) : Int) = s.base + f + i := by push_cast; omega
      rw [hn] at ho
      refine ⟨hx.1.trans ho.seq, by rw [hx.2.2.1]; exact ho.cnt, by rw [hx.2.2.2.1]; exact ho.time, by rw [hx.2.1]; exact ho.p, fun hk => ?_, fun hz => ?_⟩
      · rcases hx.2.2.2.2.1 hk with hk | hk
        · exact ho.ak hk
        · rw [ho.seq] at hk
          exact hab _ hk
      · subst hz
        have h4 := t3 (by omega)
        rw [hat f (by omega) (by omega)] at h4
        simpa using h4
    · -- everything is acknowledged
      have hall : f = l.length := by
        rcases Nat.lt_or_ge f l.length with hlt | hge
        · exfalso
          have h4 := t3 hlt
          rw [hat f hlt (by omega)] at h4
          have ho := h.out f (by omega)
          have h5 := (hao s.out[f]).2.2.2.2.2 (by unfold ackedB; rw [ho.seq, Bool.or_eq_true, decide_eq_true_eq]; left; omega)
          rw [h5] at h4
          cases h4
        · omega
      dsimp only
      rw [hall, List.drop_length]
    · dsimp only at hb ⊢
      omega
end Go.Proofs.Ytanmndhdhlmjgaa
