/- The plain model of the budget, more: plans, uses; what is in order stays in order. No condition. -/
import Derived.Test.YtehfnanhamaenaaMathE
namespace Go.Proofs.Ytehfnanhamaenaa
structure Pl where
  par : Nat
  rate : Nat
  burst : Nat
structure Us where
  wait : Nat
  bucket : Nat
  want : Nat
def planB (i : Nat) (p : Pl) : Bk := ⟨(p.par : Int) % ((i : Int) + 1) - 1, (p.rate : Int) % 20, (p.burst : Int) % 60, 0⟩
def planF : List Pl → Nat → List Bk
  | [], _ => []
  | p :: l, i => planB i p :: planF l (i + 1)
def planL (l : List Pl) : List Bk := planF l 0
theorem planF_len (l : List Pl) : ∀ i, (planF l i).length = l.length := by
  induction l with
  | nil => intro i; rfl
  | cons p l ih => intro i; simp [planF, ih]
theorem planF_get (l : List Pl) : ∀ (i k : Nat) (hk : k < l.length), (planF l i)[k]'(by rw [planF_len]; exact hk) = planB (i + k) l[k] := by
  induction l with
  | nil => intro i k hk; simp at hk
  | cons p l ih =>
    intro i k hk
    cases k with
    | zero => rfl
    | succ k =>
      have := ih (i + 1) k (by simpa using hk)
      simp only [planF, List.getElem_cons_succ]
      rw [this, show i + 1 + k = i + (k + 1) by omega]
theorem planL_len (l : List Pl) : (planL l).length = l.length := planF_len l 0
theorem planL_get (l : List Pl) (k : Nat) (hk : k < l.length) : (planL l)[k]'(by rw [planL_len]; exact hk) = planB k l[k] := by
  have := planF_get l 0 k hk
  rw [Nat.zero_add] at this
  exact this
theorem planF_snoc (l : List Pl) (p : Pl) : ∀ i, planF (l ++ [p]) i = planF l i ++ [planB (i + l.length) p] := by
  induction l with
  | nil => intro i; rfl
  | cons q l ih =>
    intro i
    rw [List.cons_append, planF, planF, ih, List.length_cons, List.cons_append, show i + 1 + l.length = i + (l.length + 1) by omega]
theorem planL_take (l : List Pl) (k : Nat) (hk : k < l.length) : planL (l.take (k + 1)) = planL (l.take k) ++ [planB k l[k]] := by
  rw [← List.take_append_getElem hk]
  unfold planL
  rw [planF_snoc]
  simp [Nat.min_eq_left (Nat.le_of_lt hk)]
/-- all is in order -/
theorem checkL_ok {t : Int} {l : List Bk} (h1 : l.length ≤ 64) (h2 : 0 ≤ t) (h3 : t ≤ 1073741824) (h4 : ∀ k, (hk : k < l.length) → chkB l[k] k = 0) : checkL t l = 0 := by
  unfold checkL
  rw [if_neg (by omega), if_neg (by omega)]
  have key : ∀ (m : List Bk) (i : Nat), (∀ k, (hk : k < m.length) → chkB m[k] ((i + k : Nat) : Int) = 0) → firstE m i = 0 := by
    intro m
    induction m with
    | nil => intro i _; rfl
    | cons b m ih =>
      intro i h
      unfold firstE
      have h0 := h 0 (by simp)
      rw [if_pos (by simpa using h0)]
      refine ih (i + 1) fun k hk => ?_
      have := h (k + 1) (by simpa using hk)
      rw [show i + 1 + k = i + (k + 1) by omega]
      simpa using this
  exact key l 0 fun k hk => by simpa using h4 k hk
theorem chkB_ok {b : Bk} {i : Int} (h1 : -1 ≤ b.par) (h2 : b.par < i) (h3 : 0 ≤ b.rate) (h4 : b.rate ≤ 1073741824) (h5 : 0 ≤ b.burst) (h6 : b.burst ≤ 1073741824) (h7 : 0 ≤ b.tok) (h8 : b.tok ≤ b.burst) : chkB b i = 0 := by
  unfold chkB
  rw [if_neg (by omega), if_neg (by omega)]
def startL (l : List Pl) : List Bk := (planL l).map fill
theorem startL_len (l : List Pl) : (startL l).length = l.length := by simp [startL, planL_len]
theorem startL_get (l : List Pl) (k : Nat) (hk : k < l.length) : (startL l)[k]'(by rw [startL_len]; exact hk) = fill (planB k l[k]) := by
  simp [startL, planL_get l k hk]
theorem startL_ok (l : List Pl) (h : l.length ≤ 8) : checkL 0 (startL l) = 0 := by
  refine checkL_ok (by rw [startL_len]; omega) (by omega) (by omega) fun k hk => ?_
  rw [startL_len] at hk
  rw [startL_get l k hk]
  have h1 := Int.emod_nonneg (l[k].par : Int) (by omega : (k : Int) + 1 ≠ 0)
  have h2 := Int.emod_lt_of_pos (l[k].par : Int) (by omega : (0 : Int) < (k : Int) + 1)
  exact chkB_ok (by simp [fill, planB]; omega) (by simp [fill, planB]; omega) (by simp [fill, planB]; omega) (by simp [fill, planB]; omega) (by simp [fill, planB]; omega) (by simp [fill, planB]; omega) (by simp [fill, planB]; omega) (by simp [fill, planB]; omega)
theorem newP_plan (l : List Pl) (h : l.length ≤ 8) : newP (planL l) = ⟨0, startL l, 0⟩ := by
  have := startL_ok l h
  unfold newP
  unfold startL at this
  rw [if_pos this]
  rfl
/-- paths hang on the parents alone -/
theorem pathF_congr {l l' : List Bk} (h : ∀ j, (bkAt l j).par = (bkAt l' j).par) : ∀ (f : Nat) (i : Int), pathF l f i = pathF l' f i
  | 0, _ => rfl
  | f + 1, i => by
    unfold pathF
    rw [h, pathF_congr h f]
theorem pathL_congr {l l' : List Bk} (h : ∀ j, (bkAt l j).par = (bkAt l' j).par) (i : Int) : pathL l i = pathL l' i := pathF_congr h _ i
theorem takeP_at (n : Int) : ∀ (p : List Nat) (l : List Bk) (j : Nat), p.Nodup → (∀ i ∈ p, i < l.length) → bkAt (takeP n l p) j = if j ∈ p then takeB n (bkAt l j) else bkAt l j
  | [], l, j, _, _ => by simp [takeP_nil]
  | i :: p, l, j, hn, hl => by
    rw [List.nodup_cons] at hn
    have ih := takeP_at n p (l.set i (takeB n (bkAt l i))) j hn.2 (fun x hx => by rw [List.length_set]; exact hl x (List.mem_cons_of_mem _ hx))
    show bkAt (takeP n (l.set i (takeB n (bkAt l i))) p) j = _
    rw [ih, bkAt_set]
    by_cases hij : i = j
    · subst hij
      rw [if_neg hn.1, if_pos ⟨rfl, hl i (by simp)⟩, if_pos (by simp)]
    · by_cases hj : j ∈ p
      · rw [if_pos hj, if_neg (fun h => hij h.1), if_pos (by simp [hj])]
      · rw [if_neg hj, if_neg (fun h => hij h.1), if_neg (by simp [hj]; intro h; exact hij h.symm)]
theorem availP_mem (l : List Bk) : ∀ (p : List Nat) (m : Int), ∀ j ∈ p, availP l m p ≤ (bkAt l j).tok
  | [], _, j, h => by cases h
  | i :: p, m, j, h => by
    have h1 := availP_le l p (minI m (bkAt l i).tok)
    have h2 : availP l m (i :: p) = availP l (minI m (bkAt l i).tok) p := rfl
    rcases List.mem_cons.1 h with rfl | h
    · have h3 : minI m (bkAt l j).tok ≤ (bkAt l j).tok := by unfold minI; split <;> omega
      rw [h2]; omega
    · rw [h2]; exact availP_mem l p _ j h
theorem availP_ge (l : List Bk) (n : Int) : ∀ (p : List Nat) (m : Int), n ≤ m → (∀ j ∈ p, n ≤ (bkAt l j).tok) → n ≤ availP l m p
  | [], _, h, _ => h
  | i :: p, m, h, hp => by
    have h1 := hp i (by simp)
    exact availP_ge l n p (minI m (bkAt l i).tok) (by unfold minI; split <;> omega) (fun j hj => hp j (List.mem_cons_of_mem _ hj))
theorem pathL_self {l : List Bk} (hu : Up l) (k : Nat) (hk : k < l.length) : k ∈ pathL l k := by
  rw [pathL_step hu k hk]; simp
theorem availL_iff {t : Int} {l : List Bk} (h : checkL t l = 0) (k : Nat) (hk : k < l.length) (n : Int) : n ≤ availL l k ↔ ∀ j ∈ pathL l k, n ≤ (bkAt l j).tok := by
  constructor
  · intro hn j hj
    exact Int.le_trans hn (availP_mem l _ _ j hj)
  · intro hp
    exact availP_ge l n _ _ (hp k (pathL_self (up_of h) k hk)) hp
theorem availL_nn {t : Int} {l : List Bk} (h : checkL t l = 0) (k : Nat) (hk : k < l.length) : 0 ≤ availL l k :=
  (availL_iff h k hk 0).2 fun j _ => (tok_bd h j).1
theorem pathL_in {t : Int} {l : List Bk} (h : checkL t l = 0) (k : Nat) (hk : k < l.length) : (pathL l k).Nodup ∧ ∀ i ∈ pathL l k, i < l.length :=
  ⟨pathL_nodup (up_of h) (k + 1) k (by omega) (by omega), fun i hi => by have := pathL_lt (up_of h) (k + 1) k (by omega) (by omega) i hi; omega⟩
theorem takeP_ok {t n : Int} {l : List Bk} (h : checkL t l = 0) (k : Nat) (hk : k < l.length) (n0 : 0 ≤ n) (n1 : n ≤ availL l k) : checkL t (takeP n l (pathL l k)) = 0 := by
  have hz := checkL_zero h
  refine checkL_ok (by rw [takeP_len]; exact hz.1) hz.2.1 hz.2.2.1 fun j hj => ?_
  rw [← bkAt_lt _ j hj]
  rw [takeP_len] at hj
  obtain ⟨c1, c2, c3, c4, c5, c6, c7, c8⟩ := chk_all h j hj
  rw [← bkAt_lt l j hj] at c1 c2 c3 c4 c5 c6 c7 c8
  have hp := takeP_par n (pathL l k) l j
  have ha := takeP_at n (pathL l k) l j (pathL_in h k hk).1 (pathL_in h k hk).2
  have ht : 0 ≤ (bkAt (takeP n l (pathL l k)) j).tok ∧ (bkAt (takeP n l (pathL l k)) j).tok ≤ (bkAt l j).tok := by
    rw [ha]
    split
    · rename_i hm
      have := (availL_iff h k hk n).1 n1 j hm
      exact ⟨by simp [takeB]; omega, by simp [takeB]; omega⟩
    · exact ⟨c7, Int.le_refl _⟩
  exact chkB_ok (by rw [hp.1]; exact c1) (by rw [hp.1]; exact c2) (by rw [hp.2.1]; exact c3) (by rw [hp.2.1]; exact c4) (by rw [hp.2.2]; exact c5) (by rw [hp.2.2]; exact c6) ht.1 (by rw [hp.2.2]; omega)
theorem adv_map_at (d : Int) (l : List Bk) (j : Nat) (hj : j < l.length) : bkAt (l.map (adv d)) j = adv d (bkAt l j) := by
  rw [bkAt_lt _ j (by simpa using hj), bkAt_lt l j hj]
  simp
theorem adv_ok {t d : Int} {l : List Bk} (h : checkL t l = 0) (d0 : 0 ≤ d) (d1 : t + d ≤ 1073741824) : checkL (t + d) (l.map (adv d)) = 0 := by
  have hz := checkL_zero h
  refine checkL_ok (by simpa using hz.1) (by have := hz.2.1; omega) d1 fun j hj => ?_
  rw [List.length_map] at hj
  obtain ⟨c1, c2, c3, c4, c5, c6, c7, c8⟩ := chk_all h j hj
  have e : (l.map (adv d))[j]'(by simpa using hj) = adv d l[j] := by simp
  rw [e]
  have hm := Int.mul_nonneg c3 d0
  have hg : 0 ≤ giveV l[j].burst l[j].tok (l[j].rate * d) ∧ giveV l[j].burst l[j].tok (l[j].rate * d) ≤ l[j].burst := by
    unfold giveV
    split
    · exact ⟨c5, Int.le_refl _⟩
    · exact ⟨by omega, by omega⟩
  exact chkB_ok c1 c2 c3 c4 c5 c6 hg.1 hg.2
theorem advP_good {t d : Int} {l : List Bk} (h : checkL t l = 0) (d0 : 0 ≤ d) (d1 : t + d ≤ 1073741824) : advP t l (t + d) = ⟨t + d, l.map (adv d), 0⟩ := by
  rw [advP_ok h (by omega) d1]
  have e : t + d - t = d := by omega
  rw [e]
end Go.Proofs.Ytehfnanhamaenaa
