/- A transmission's sender: what holds of it, and what a poll leaves. No condition. -/
import Derived.Test.YtanmndhdhlmjgaaMathK
import Derived.Test.YtanmndhdhlmjgaaMathH
namespace Go.Proofs.Ytanmndhdhlmjgaa
/-- the payload with a number -/
def At (pu : List (List Nat)) (n : Int) (p : List Nat) : Prop := 0 ≤ n ∧ pu[n.toNat]? = some p
theorem At.append {pu l : List (List Nat)} {n : Int} {p : List Nat} (h : At pu n p) : At (pu ++ l) n p := by
  refine ⟨h.1, ?_⟩
  have h2 := (List.getElem?_eq_some_iff.1 h.2).1
  rw [List.getElem?_append_left h2]
  exact h.2
theorem At.lt {pu : List (List Nat)} {n : Int} {p : List Nat} (h : At pu n p) : n < pu.length := by
  have h2 := (List.getElem?_eq_some_iff.1 h.2).1
  have := h.1
  omega
theorem At.mem {pu : List (List Nat)} {n : Int} {p : List Nat} (h : At pu n p) : p ∈ pu := List.mem_of_getElem? h.2
theorem At.uniq {pu : List (List Nat)} {n : Int} {p q : List Nat} (h : At pu n p) (h' : At pu n q) : p = q := by
  have := h.2.symm.trans h'.2
  injection this
/-- one outstanding payload, with number n, at index i -/
structure OI (pu : List (List Nat)) (rc : Int → Prop) (now : Int) (P : Nat) (n : Int) (i : Nat) (o : Om) : Prop where
  seq : o.seq = n
  cnt : 1 ≤ o.cnt ∧ o.cnt ≤ P + 1
  time : 0 ≤ o.time ∧ o.time ≤ now
  p : At pu n o.p
  ak : o.ak = true → rc n
  fst : i = 0 → o.ak = false
theorem OI.mono {pu : List (List Nat)} {rc rc' : Int → Prop} {now now' : Int} {P P' : Nat} {n : Int} {i : Nat} {o : Om} (h : OI pu rc now P n i o) (l : List (List Nat)) (hr : ∀ n, rc n → rc' n) (hn : now ≤ now') (hP : P ≤ P') : OI (pu ++ l) rc' now' P' n i o :=
  ⟨h.seq, by have := h.cnt; omega, by have := h.time; omega, h.p.append, fun e => hr _ (h.ak e), h.fst⟩
/-- what holds of a sender; rc: what has been received, rn: how far without a gap -/
structure SI (pu : List (List Nat)) (rc : Int → Prop) (rn now : Int) (P : Nat) (s : Sm) : Prop where
  ses : s.ses = 1
  lim : 1 ≤ s.lim ∧ s.lim ≤ 8
  tmo : s.tmo = 5
  b0 : 0 ≤ s.base
  brn : s.base ≤ rn
  rnx : rn ≤ s.next
  end_ : s.next = s.base + s.out.length
  outl : (s.out.length : Int) ≤ s.lim
  nxl : s.next ≤ pu.length
  q : s.q = pu.drop s.next.toNat
  cr0 : 0 ≤ s.cred
  crd : s.base + s.cred ≤ rn + 8
  out : ∀ i (h : i < s.out.length), OI pu rc now P (s.base + i) i s.out[i]
/-- all payloads are short, and not too many -/
structure PyI (K : Nat) (pu : List (List Nat)) : Prop where
  len : pu.length ≤ K
  two : ∀ p ∈ pu, p.length = 2
section
variable {pu : List (List Nat)} {rc : Int → Prop} {rn now : Int} {P K : Nat} {s : Sm}
theorem outsE_of (base : Int) : ∀ (l : List Om) (i : Nat), (∀ k (h : k < l.length), outE base (i + k) l[k] = 0) → outsE base i l = 0
  | [], _, _ => rfl
  | o :: l, i, h => by
    have h0 : outE base i o = 0 := h 0 (by simp)
    rw [outsE, if_pos h0]
    refine outsE_of base l (i + 1) fun k hk => ?_
    have h2 := h (k + 1) (by simpa using hk)
    rw [show i + (k + 1) = i + 1 + k by omega] at h2
    exact h2
theorem SI.rng (h : SI pu rc rn now P s) (hp : PyI K pu) (hK : K ≤ 1000) (hn : now ≤ 100000) (hP : P ≤ 100000) : SRng s := by
  have h1 := h.lim
  have h2 := h.b0
  have h3 := h.brn
  have h4 := h.rnx
  have h5 := h.end_
  have h6 := h.outl
  have h7 := h.nxl
  have h8 := h.crd
  have h9 := hp.len
  have hq : s.q.length ≤ 4096 := by rw [h.q, List.length_drop]; omega
  refine ⟨by rw [h.ses]; omega, by omega, by rw [h.tmo]; omega, by omega, by omega, ⟨h.cr0, by omega⟩, h.outl, hq, h.end_, fun p hpq => ?_, outsE_of _ _ _ fun k hk => outE_of ?_⟩
  · rw [h.q] at hpq
    rw [hp.two p (List.mem_of_mem_drop hpq)]
    omega
  · have ho := h.out k hk
    have hc := ho.cnt
    have ht := ho.time
    refine ⟨by rw [ho.seq, Nat.zero_add], by omega, fun e => ?_, by omega, by rw [hp.two _ ho.p.mem]; omega⟩
    have := ho.fst (by omega)
    rw [this] at e
    exact absurd e.2 (by simp)
theorem SI.chk (h : SI pu rc rn now P s) (hp : PyI K pu) (hK : K ≤ 1000) (hn : now ≤ 100000) (hP : P ≤ 100000) : chkS s = 0 := chkS_of (h.rng hp hK hn hP)
/-- more is pushed -/
theorem SI.push (h : SI pu rc rn now P s) (x : List Nat) : SI (pu ++ [x]) rc rn now P { s with q := s.q ++ [x] } := by
  have h1 := h.nxl
  have h2 := h.b0
  have h3 := h.end_
  refine ⟨h.ses, h.lim, h.tmo, h.b0, h.brn, h.rnx, h.end_, h.outl, by simp only [List.length_append, List.length_singleton]; omega, ?_, h.cr0, h.crd, fun i hi => (h.out i hi).mono [x] (fun _ h => h) (Int.le_refl _) (Nat.le_refl _)⟩
  dsimp only
  rw [h.q, List.drop_append_of_le_length (by omega)]
/-- more is received -/
theorem SI.recv (h : SI pu rc rn now P s) {rc' : Int → Prop} {rn' : Int} (hr : ∀ n, rc n → rc' n) (h1 : rn ≤ rn') (h2 : rn' ≤ s.next) : SI pu rc' rn' now P s := by
  have h3 := h.brn
  have h4 := h.crd
  refine ⟨h.ses, h.lim, h.tmo, h.b0, by omega, h2, h.end_, h.outl, h.nxl, h.q, h.cr0, by omega, fun i hi => ?_⟩
  have h5 := (h.out i hi).mono [] hr (Int.le_refl _) (Nat.le_refl _)
  rw [List.append_nil] at h5
  exact h5
end
/-- payloads that leave the queue -/
def newO (now : Int) : Int → List (List Nat) → List Om
  | _, [] => []
  | n, p :: q => ⟨n, now, 1, false, p⟩ :: newO now (n + 1) q
theorem newO_len (now : Int) : ∀ (q : List (List Nat)) (n : Int), (newO now n q).length = q.length
  | [], _ => rfl
  | _ :: q, n => by rw [newO, List.length_cons, List.length_cons, newO_len now q]
theorem newO_at (now : Int) : ∀ (q : List (List Nat)) (n : Int) (i : Nat) (h : i < (newO now n q).length) (h' : i < q.length), (newO now n q)[i] = ⟨n + i, now, 1, false, q[i]⟩
  | p :: q, n, 0, _, _ => by simp [newO]
  | p :: q, n, i + 1, h, h' => by
    simp only [newO, List.getElem_cons_succ]
    rw [newO_at now q (n + 1) i (by rw [newO_len]; simpa using h') (by simpa using h')]
    congr 1
    push_cast
    omega
/-- what filling leaves -/
structure FillR (now : Int) (m m' : Sm) (ps : List Pm) (j : Nat) : Prop where
  out : m'.out = m.out ++ newO now m.next (m.q.take j)
  q : m'.q = m.q.drop j
  next : m'.next = m.next + j
  ps : ps = (newO now m.next (m.q.take j)).map (dataP m.ses)
  ses : m'.ses = m.ses
  lim : m'.lim = m.lim
  tmo : m'.tmo = m.tmo
  base : m'.base = m.base
  cred : m'.cred = m.cred
  jq : j ≤ m.q.length
  room : j = 0 ∨ ((m.out.length + j : Nat) : Int) ≤ min m.lim m.cred
  stop : j = m.q.length ∨ min m.lim m.cred ≤ ((m.out.length + j : Nat) : Int) ∨ 1073741824 ≤ m.next + j
theorem fill_r (now : Int) : ∀ (k : Nat) (m : Sm), m.q.length ≤ k → ∃ j, FillR now m (fillS now m k).1 (fillS now m k).2 j
  | 0, m, h => by
    have h0 : m.q = [] := List.length_eq_zero_iff.1 (by omega)
    exact ⟨0, by simp [fillS, newO], by simp [fillS], by simp [fillS], by simp [fillS, newO], rfl, rfl, rfl, rfl, rfl, by omega, .inl rfl, .inl (by rw [h0]; rfl)⟩
  | k + 1, m, h => by
    rw [fillS]
    split
    · rename_i hq
      exact ⟨0, by simp [newO], by simp, by simp, by simp [newO], rfl, rfl, rfl, rfl, rfl, by omega, .inl rfl, .inl (by rw [hq]; rfl)⟩
    · rename_i p q hq
      split
      · rename_i hr
        obtain ⟨j, hj⟩ := fill_r now k { m with q := q, out := m.out ++ [⟨m.next, now, 1, false, p⟩], next := m.next + 1 } (by rw [hq, List.length_cons] at h; dsimp only; omega)
        have h1 := hj.room
        have h2 := hj.stop
        have h3 := hj.jq
        simp only [List.length_append, List.length_singleton] at h1 h2
        dsimp only at h3
        refine ⟨j + 1, ?_, ?_, ?_, ?_, hj.ses, hj.lim, hj.tmo, hj.base, hj.cred, by rw [hq, List.length_cons]; omega, .inr (by omega), ?_⟩
        · dsimp only; rw [hj.out, hq]; simp [newO]
        · dsimp only; rw [hj.q, hq]; rfl
        · have h4 := hj.next; dsimp only at h4 ⊢; rw [h4]; push_cast; omega
        · dsimp only; rw [hj.ps, hq]; simp [newO]
        · rw [hq, List.length_cons]
          rcases h2 with h2 | h2 | h2
          · exact .inl (by omega)
          · exact .inr (.inl (by omega))
          · exact .inr (.inr (by push_cast; omega))
      · rename_i hr
        refine ⟨0, by simp [newO], by simp, by simp, by simp [newO], rfl, rfl, rfl, rfl, rfl, by omega, .inl rfl, .inr ?_⟩
        push_cast
        omega
/-- what a poll sends of one outstanding payload, if all that wait have waited long enough -/
def segO (ses : Int) (o : Om) : List Pm := if o.ak = true then [] else [dataP ses o]
/-- what a poll leaves -/
structure PollI (pu : List (List Nat)) (rc : Int → Prop) (rn now : Int) (P : Nat) (s : Sm) (q : Sm × List Pm) : Prop where
  si : SI pu rc rn now P q.1
  ps : ∀ p ∈ q.2, (∃ o ∈ q.1.out, p = dataP 1 o) ∨ p = ⟨2, 1, q.1.next, 0, 0, [], []⟩
  few : q.2.length ≤ 17
  base : q.1.base = s.base
  cred : q.1.cred = s.cred
  lim : q.1.lim = s.lim
  next : s.next ≤ q.1.next ∧ (q.1.next = s.next ∨ q.1.next ≤ s.base + s.cred)
theorem poll_i {pu : List (List Nat)} {rc : Int → Prop} {rn now now' : Int} {P K : Nat} {s : Sm} (h : SI pu rc rn now P s) (hp : PyI K pu) (hK : K ≤ 1000) (h0 : 0 ≤ now) (hn : now ≤ now') (hn' : now' ≤ 100000) (hP : P ≤ 50000) :
    PollI pu rc rn now' (P + 1) s (pollS s now') ∧
      (now + 5 ≤ now' → (pollS s now').2 = (pollS s now').1.out.flatMap (segO 1) ++ probeP (pollS s now').1) ∧
      ((pollS s now').1.q = [] ∨ min s.lim s.cred ≤ (pollS s now').1.out.length) := by
  have hr := h.rng hp hK (by omega) (by omega)
  have hc : chkS s = 0 := chkS_of hr
  obtain ⟨m1, hm1⟩ : ∃ m1, m1 = ({ s with out := s.out.map (againO now' s.tmo) } : Sm) := ⟨_, rfl⟩
  obtain ⟨j, hj⟩ := fill_r now' s.q.length m1 (by rw [hm1]; exact Nat.le_refl _)
  have he : pollS s now' = ((fillS now' m1 s.q.length).1, s.out.flatMap (againP s.ses now' s.tmo) ++ (fillS now' m1 s.q.length).2 ++ probeP (fillS now' m1 s.q.length).1) := by
    unfold pollS
    rw [if_neg (by rw [hc]; simp; omega), hm1]
  obtain ⟨m2, hm2⟩ : ∃ m2, m2 = (fillS now' m1 s.q.length).1 := ⟨_, rfl⟩
  obtain ⟨ps, hps⟩ : ∃ ps, ps = (fillS now' m1 s.q.length).2 := ⟨_, rfl⟩
  rw [← hm2, ← hps] at hj he
  rw [he]
  dsimp only
  clear he hm2 hps
  have a1 : m1.out = s.out.map (againO now' s.tmo) := by rw [hm1]
  have a2 : m1.q = s.q := by rw [hm1]
  have a3 : m1.next = s.next := by rw [hm1]
  have a4 : m1.ses = s.ses ∧ m1.lim = s.lim ∧ m1.tmo = s.tmo ∧ m1.base = s.base ∧ m1.cred = s.cred := by rw [hm1]; simp
  clear hm1
  have b1 := hj.out
  have b2 := hj.q
  have b3 := hj.next
  have b4 := hj.ps
  have b5 := hj.jq
  have b6 := hj.room
  have b7 := hj.stop
  have c1 := hj.ses
  have c2 := hj.lim
  have c3 := hj.tmo
  have c4 := hj.base
  have c5 := hj.cred
  rw [a1, a2, a3] at b1
  rw [a2] at b2 b5 b7
  rw [a3] at b3 b7
  rw [a2, a3, a4.1] at b4
  rw [a4.2.1, a4.2.2.2.2, a1, List.length_map] at b6 b7
  rw [a4.1] at c1
  rw [a4.2.1] at c2
  rw [a4.2.2.1] at c3
  rw [a4.2.2.2.1] at c4
  rw [a4.2.2.2.2] at c5
  clear hj a1 a2 a3 a4
  have hlen : m2.out.length = s.out.length + j := by
    rw [b1, List.length_append, List.length_map, newO_len, List.length_take]
    omega
  have e1 := h.end_
  have e2 := h.nxl
  have e3 := h.b0
  have e4 := h.brn
  have e5 := h.rnx
  have hql : s.q.length = pu.length - s.next.toNat := by rw [h.q, List.length_drop]
  have hao : ∀ o : Om, (againO now' s.tmo o).seq = o.seq ∧ (againO now' s.tmo o).p = o.p ∧ (againO now' s.tmo o).ak = o.ak ∧ ((againO now' s.tmo o).time = o.time ∨ (againO now' s.tmo o).time = now') ∧ (o.cnt ≤ (againO now' s.tmo o).cnt ∧ (againO now' s.tmo o).cnt ≤ o.cnt + 1) := fun o => by
    unfold againO
    split
    · exact ⟨rfl, rfl, rfl, .inr rfl, by dsimp only; omega⟩
    · exact ⟨rfl, rfl, rfl, .inl rfl, by omega⟩
  have hold : ∀ i (hi : i < m2.out.length) (hs : i < s.out.length), m2.out[i] = againO now' s.tmo s.out[i] := fun i hi hs => by
    have : m2.out[i]? = some (againO now' s.tmo s.out[i]) := by
      rw [b1, List.getElem?_append_left (by rw [List.length_map]; exact hs), List.getElem?_map, List.getElem?_eq_getElem hs]
      rfl
    rw [List.getElem?_eq_getElem hi] at this
    injection this
  have hnew : ∀ i (hi : i < m2.out.length) (hs : s.out.length ≤ i), ∃ p, m2.out[i] = ⟨s.next + (i - s.out.length : Nat), now', 1, false, p⟩ ∧ At pu (s.next + (i - s.out.length : Nat)) p := fun i hi hs => by
    have hq : i - s.out.length < s.q.length := by omega
    have ht : i - s.out.length < (s.q.take j).length := by rw [List.length_take]; omega
    refine ⟨s.q[i - s.out.length], ?_, ?_⟩
    · have : m2.out[i]? = some ⟨s.next + (i - s.out.length : Nat), now', 1, false, s.q[i - s.out.length]⟩ := by
        rw [b1, List.getElem?_append_right (by rw [List.length_map]; exact hs), List.length_map, List.getElem?_eq_getElem (by rw [newO_len]; exact ht), newO_at _ _ _ _ _ ht, List.getElem_take]
      rw [List.getElem?_eq_getElem hi] at this
      injection this
    · refine ⟨by omega, ?_⟩
      have h2 : s.q[i - s.out.length]? = some s.q[i - s.out.length] := List.getElem?_eq_getElem hq
      rw [← h2]
      conv => rhs; rw [h.q]
      rw [List.getElem?_drop]
      congr 1
      omega
  have hnl : m2.next ≤ pu.length := by rw [b3]; omega
  have hOI : ∀ i (hi : i < m2.out.length), OI pu rc now' (P + 1) (m2.base + i) i m2.out[i] := fun i hi => by
    rw [c4]
    by_cases hs : i < s.out.length
    · rw [hold i hi hs]
      have ho := h.out i hs
      have h2 := hao s.out[i]
      have h3 := ho.cnt
      have h4 := ho.time
      refine ⟨h2.1.trans ho.seq, by omega, by omega, by rw [h2.2.1]; exact ho.p, fun e => ho.ak (by rw [← h2.2.2.1]; exact e), fun e => by rw [h2.2.2.1]; exact ho.fst e⟩
    · obtain ⟨p, hp2, hat⟩ := hnew i hi (by omega)
      have hx : s.next + ((i - s.out.length : Nat) : Int) = s.base + i := by omega
      rw [hp2]
      rw [hx] at hat ⊢
      exact ⟨rfl, by dsimp only; omega, by dsimp only; omega, hat, (fun e => nomatch e), fun _ => rfl⟩
  have hSI : SI pu rc rn now' (P + 1) m2 := by
    refine ⟨c1.trans h.ses, by rw [c2]; exact h.lim, c3.trans h.tmo, by rw [c4]; exact h.b0, by rw [c4]; exact h.brn, by rw [b3]; omega, by rw [b3, c4, hlen]; push_cast; omega, ?_, hnl, ?_, by rw [c5]; exact h.cr0, by rw [c4, c5]; exact h.crd, hOI⟩
    · rw [c2, hlen]
      have h1 := h.outl
      rcases b6 with b6 | b6
      · omega
      · have : min s.lim s.cred ≤ s.lim := Int.min_le_left _ _
        omega
    · rw [b2, h.q, List.drop_drop, b3]
      congr 1
      omega
  have hmem1 : ∀ p ∈ s.out.flatMap (againP s.ses now' s.tmo), ∃ o ∈ m2.out, p = dataP 1 o := fun p hpm => by
    obtain ⟨o, ho, hpo⟩ := List.mem_flatMap.1 hpm
    unfold againP at hpo
    split at hpo
    · rw [List.mem_singleton] at hpo
      refine ⟨againO now' s.tmo o, by rw [b1]; exact List.mem_append_left _ (List.mem_map_of_mem ho), ?_⟩
      rw [hpo, h.ses]
    · cases hpo
  have hmem2 : ∀ p ∈ ps, ∃ o ∈ m2.out, p = dataP 1 o := fun p hpm => by
    rw [b4] at hpm
    obtain ⟨o, ho, rfl⟩ := List.mem_map.1 hpm
    exact ⟨o, by rw [b1]; exact List.mem_append_right _ ho, by rw [h.ses]⟩
  have hpr : (probeP m2).length ≤ 1 ∧ ∀ p ∈ probeP m2, p = ⟨2, 1, m2.next, 0, 0, [], []⟩ := by
    unfold probeP
    split
    · refine ⟨by simp, fun p hpm => ?_⟩
      rw [List.mem_singleton] at hpm
      rw [hpm, c1, h.ses]
    · exact ⟨by simp, nofun⟩
  have hl8 : m2.out.length ≤ 8 := by have h1 := hSI.outl; have h2 := hSI.lim; omega
  have hfl : ∀ l : List Om, (l.flatMap (againP s.ses now' s.tmo)).length ≤ l.length := fun l => by
    induction l with
    | nil => simp
    | cons o l ih =>
      have h2 : (againP s.ses now' s.tmo o).length ≤ 1 := by unfold againP; split <;> simp
      rw [List.flatMap_cons, List.length_append, List.length_cons]
      omega
  refine ⟨⟨hSI, fun p hpm => ?_, ?_, c4, c5, c2, by rw [b3]; omega, ?_⟩, fun h5 => ?_, ?_⟩
  · rcases List.mem_append.1 hpm with hpm | hpm
    · rcases List.mem_append.1 hpm with hpm | hpm
      · exact .inl (hmem1 p hpm)
      · exact .inl (hmem2 p hpm)
    · exact .inr (hpr.2 p hpm)
  · have h1 := hfl s.out
    have h2 : ps.length = j := by rw [b4, List.length_map, newO_len, List.length_take]; omega
    have h3 := hpr.1
    rw [List.length_append, List.length_append]
    omega
  · dsimp only
    rw [b3]
    rcases b6 with b6 | b6
    · left; omega
    · right
      have : min s.lim s.cred ≤ s.cred := Int.min_le_right _ _
      omega
  · congr 1
    rw [b1, List.flatMap_append]
    congr 1
    · rw [List.flatMap_map]
      have key : ∀ i (hi : i < s.out.length), againP s.ses now' s.tmo s.out[i] = segO 1 (againO now' s.tmo s.out[i]) := fun i hi => by
        have ho := h.out i hi
        have h2 := ho.time
        have h3 := ho.cnt
        have h4 := hao s.out[i]
        unfold againP segO
        rw [h4.2.2.1]
        by_cases hak : s.out[i].ak = true
        · have : again now' s.tmo s.out[i] = false := by unfold again; rw [hak]; rfl
          rw [this, if_neg (by simp), if_pos hak]
        · have hg : again now' s.tmo s.out[i] = true := by
            unfold again
            rw [Bool.not_eq_true] at hak
            rw [hak, h.tmo]
            simp only [Bool.not_false, Bool.true_and, Bool.and_eq_true, decide_eq_true_eq]
            omega
          rw [if_pos hg, if_neg hak, h.ses]
      clear hmem1 hold hfl hpr hmem2
      generalize s.out = l at key
      clear b1 b6 b7 hlen hnew e1
      induction l with
      | nil => rfl
      | cons o l ih =>
        have k0 : againP s.ses now' s.tmo o = segO 1 (againO now' s.tmo o) := key 0 (by simp)
        rw [List.flatMap_cons, List.flatMap_cons, k0]
        congr 1
        exact ih (fun i hi => key (i + 1) (by simpa using hi))
    · rw [b4, h.ses]
      generalize s.next = n0
      generalize s.q.take j = l
      induction l generalizing n0 with
      | nil => rfl
      | cons p l ih =>
        simp only [newO, List.map_cons, List.flatMap_cons]
        rw [ih]
        rfl
  · rcases b7 with b7 | b7 | b7
    · left
      rw [b2, b7]
      simp
    · right
      rw [hlen]
      exact b7
    · exfalso
      have := hp.len
      omega
end Go.Proofs.Ytanmndhdhlmjgaa
/- A transmission's receiver, its answers, and what an answer does to the sender. No condition. -/
namespace Go.Proofs.Ytanmndhdhlmjgaa
/-- a number has been received -/
def rcv (r : Rm) (n : Int) : Prop := n < r.next ∨ ∃ a ∈ r.early, a.seq = n
/-- what holds of a receiver; nx: the sender's next number -/
structure RI (pu : List (List Nat)) (nx : Int) (r : Rm) (dl : List (List Nat)) : Prop where
  ses : r.ses = 1
  lim : 1 ≤ r.lim ∧ r.lim ≤ 8
  n0 : 0 ≤ r.next
  ear : EarOk r.next (r.next + r.lim) r.early
  rnx : r.next ≤ nx
  earx : ∀ a ∈ r.early, a.seq < nx
  ep : ∀ a ∈ r.early, At pu a.seq a.p
  nxl : nx ≤ pu.length
  dl : dl = pu.take r.next.toNat
theorem sorted_len : ∀ (l : List Am) (a b : Int), l.Pairwise (fun x y => x.seq < y.seq) → (∀ x ∈ l, a < x.seq ∧ x.seq < b) → a < b → (l.length : Int) ≤ b - a - 1
  | [], a, b, _, _, h => by simp; omega
  | x :: l, a, b, ho, hx, h => by
    have ho := List.pairwise_cons.1 ho
    have h1 := hx x (by simp)
    have ih := sorted_len l x.seq b ho.2 (fun y hy => ⟨ho.1 y hy, (hx y (by simp [hy])).2⟩) h1.2
    rw [List.length_cons]
    push_cast
    omega
theorem RI.few {pu : List (List Nat)} {nx : Int} {r : Rm} {dl : List (List Nat)} (h : RI pu nx r dl) : (r.early.length : Int) < r.lim := by
  have h1 := h.lim
  have h2 := sorted_len r.early r.next (r.next + r.lim) h.ear.ord (fun x hx => ⟨h.ear.lo x hx, h.ear.hi x hx⟩) (by omega)
  omega
theorem RI.chk {pu : List (List Nat)} {nx : Int} {r : Rm} {dl : List (List Nat)} {K : Nat} (h : RI pu nx r dl) (hp : PyI K pu) (hK : K ≤ 1000) : chkR r = 0 := by
  have h1 := h.lim
  have h2 := h.n0
  have h3 := h.rnx
  have h4 := h.nxl
  have h5 := hp.len
  refine (chkR_ok r).2 ⟨by rw [h.ses]; omega, by omega, by omega, h.few, ⟨h.ear.lo, fun a ha => ?_, h.ear.len, h.ear.ord⟩⟩
  have h6 := h.ear.hi a ha
  have h7 := h.earx a ha
  omega
theorem RI.push {pu : List (List Nat)} {nx : Int} {r : Rm} {dl : List (List Nat)} (h : RI pu nx r dl) (x : List Nat) : RI (pu ++ [x]) nx r dl := by
  have h1 := h.rnx
  have h2 := h.nxl
  have h3 := h.n0
  refine ⟨h.ses, h.lim, h.n0, h.ear, h.rnx, h.earx, fun a ha => (h.ep a ha).append, by rw [List.length_append]; push_cast; omega, ?_⟩
  rw [h.dl, List.take_append_of_le_length (by omega)]
theorem RI.next {pu : List (List Nat)} {nx nx' : Int} {r : Rm} {dl : List (List Nat)} (h : RI pu nx r dl) (h1 : nx ≤ nx') (h2 : nx' ≤ pu.length) : RI pu nx' r dl :=
  ⟨h.ses, h.lim, h.n0, h.ear, by have := h.rnx; omega, fun a ha => by have := h.earx a ha; omega, h.ep, h2, h.dl⟩
theorem rcv_not {pu : List (List Nat)} {nx : Int} {r : Rm} {dl : List (List Nat)} (h : RI pu nx r dl) {n : Int} (hr : rcv r n) : n ≠ r.next := by
  rcases hr with hr | ⟨a, ha, rfl⟩
  · omega
  · have := h.ear.lo a ha; omega
theorem rcv_lt {pu : List (List Nat)} {nx : Int} {r : Rm} {dl : List (List Nat)} (h : RI pu nx r dl) {n : Int} (hr : rcv r n) : n < nx := by
  rcases hr with hr | ⟨a, ha, rfl⟩
  · have := h.rnx; omega
  · exact h.earx a ha
/-- what delivering leaves -/
structure DelI (pu : List (List Nat)) (n : Int) (l : List Am) (d1 : List (List Nat)) (d2 : Int) (d3 : List Am) : Prop where
  ge : n ≤ d2
  rest : ∀ a ∈ d3, d2 < a.seq ∧ a ∈ l
  ord : d3.Pairwise (fun x y => x.seq < y.seq)
  all : ∀ a ∈ l, a.seq < d2 ∨ a ∈ d3
  pay : pu.take n.toNat ++ d1 = pu.take d2.toNat
  top : ∀ nx, n ≤ nx → (∀ a ∈ l, a.seq < nx) → d2 ≤ nx
  hit : (∃ a ∈ l, a.seq = n) → n < d2
theorem deliv_i {pu : List (List Nat)} : ∀ (l : List Am) (n : Int), 0 ≤ n → l.Pairwise (fun x y => x.seq < y.seq) → (∀ a ∈ l, n ≤ a.seq) → (∀ a ∈ l, At pu a.seq a.p) → DelI pu n l (deliv n l).1 (deliv n l).2.1 (deliv n l).2.2
  | [], n, _, _, _, _ => by
    rw [deliv]
    exact ⟨Int.le_refl _, nofun, List.Pairwise.nil, nofun, by simp, fun _ h _ => h, fun ⟨_, h, _⟩ => nomatch h⟩
  | a :: l, n, h0, ho, hl, hp => by
    have ho := List.pairwise_cons.1 ho
    rw [deliv]
    split
    · rename_i he
      have ih := deliv_i l (n + 1) (by omega) ho.2 (fun b hb => by have := ho.1 b hb; omega) (fun b hb => hp b (by simp [hb]))
      show DelI pu n (a :: l) (a.p :: (deliv (n + 1) l).1) (deliv (n + 1) l).2.1 (deliv (n + 1) l).2.2
      generalize (deliv (n + 1) l).1 = d1 at *
      generalize (deliv (n + 1) l).2.1 = d2 at *
      generalize (deliv (n + 1) l).2.2 = d3 at *
      have h1 := ih.ge
      refine ⟨by omega, fun b hb => ⟨(ih.rest b hb).1, by simp [(ih.rest b hb).2]⟩, ih.ord, fun b hb => ?_, ?_, fun nx h2 h3 => ih.top nx (by have := h3 a (by simp); omega) (fun b hb => h3 b (by simp [hb])), fun _ => by omega⟩
      · rcases List.mem_cons.1 hb with rfl | hb
        · left; omega
        · exact ih.all b hb
      · have hat := hp a (by simp)
        rw [he] at hat
        have h4 := (List.getElem?_eq_some_iff.1 hat.2).1
        rw [← ih.pay, show (n + 1).toNat = n.toNat + 1 by omega, List.take_add_one, hat.2]
        simp
    · rename_i he
      have h1 := hl a (by simp)
      show DelI pu n (a :: l) [] n (a :: l)
      refine ⟨Int.le_refl _, fun b hb => ⟨?_, hb⟩, List.pairwise_cons.2 ho, fun b hb => .inr hb, by simp, fun nx h2 _ => h2, fun ⟨b, hb, hbn⟩ => ?_⟩
      · rcases List.mem_cons.1 hb with rfl | hb
        · omega
        · have := ho.1 b hb; omega
      · exfalso
        rcases List.mem_cons.1 hb with rfl | hb
        · exact he hbn
        · have := ho.1 b hb; omega
/-- the end of a list of extents -/
def endX (e : Int) (l : List Xm) : Int := match l.getLast? with | some x => x.s + x.c | none => e
theorem endX_nil (e : Int) : endX e [] = e := rfl
theorem endX_snoc (e : Int) (l : List Xm) (x : Xm) : endX e (l ++ [x]) = x.s + x.c := by unfold endX; simp
theorem endX_cons (e : Int) (x : Xm) (l : List Xm) : endX e (x :: l) = endX (x.s + x.c) l := by
  rcases nil_or_snoc l with rfl | ⟨L, b, rfl⟩
  · rfl
  · rw [endX_snoc, ← List.cons_append, endX_snoc]
theorem selB_snoc (ack : Int) : ∀ (l : List Xm) (e : Int) (x : Xm), selB ack e (l ++ [x]) = true ↔ selB ack e l = true ∧ ¬ (x.s ≤ endX e l ∨ x.c < 1 ∨ ack + 64 < x.s ∨ ack + 64 - x.s < x.c)
  | [], e, x => by
    rw [List.nil_append, endX_nil]
    by_cases h : x.s ≤ e ∨ x.c < 1 ∨ ack + 64 < x.s ∨ ack + 64 - x.s < x.c
    · simp only [selB]; rw [if_pos h]; simp [h]
    · simp only [selB]; rw [if_neg h]; simp [h]
  | y :: l, e, x => by
    rw [List.cons_append, selB, selB, endX_cons]
    split
    · simp
    · exact selB_snoc ack l _ x
/-- the numbers of extents are among those of a list -/
def Cov (xs : List Xm) (S : Int → Prop) : Prop := ∀ x ∈ xs, ∀ n, x.s ≤ n → n < x.s + x.c → S n
theorem sel_fold (ack : Int) : ∀ (l : List Am) (xs : List Xm) (S : Int → Prop), l.Pairwise (fun x y => x.seq < y.seq) → (∀ a ∈ l, endX ack xs ≤ a.seq) → (∀ a ∈ l, ack < a.seq ∧ a.seq < ack + 64) → selB ack ack xs = true → Cov xs S → (∀ a ∈ l, S a.seq) →
    selB ack ack (l.foldl (fun x a => addX x a.seq) xs) = true ∧ Cov (l.foldl (fun x a => addX x a.seq) xs) S
  | [], xs, S, _, _, _, h, hc, _ => ⟨h, hc⟩
  | a :: l, xs, S, ho, he, hb, h, hc, hs => by
    have ho := List.pairwise_cons.1 ho
    have h1 := he a (by simp)
    have h2 := hb a (by simp)
    have hsa := hs a (by simp)
    rw [List.foldl_cons]
    have key : selB ack ack (addX xs a.seq) = true ∧ Cov (addX xs a.seq) S ∧ endX ack (addX xs a.seq) = a.seq + 1 := by
      rcases nil_or_snoc xs with rfl | ⟨ys, y, rfl⟩
      · rw [addX_nil]
        refine ⟨?_, fun x hx n hn1 hn2 => ?_, ?_⟩
        · have := (selB_snoc ack [] ack ⟨a.seq, 1⟩).2 ⟨rfl, by rw [endX_nil]; dsimp only; omega⟩
          simpa using this
        · rw [List.mem_singleton] at hx
          subst hx
          dsimp only at hn1 hn2
          rw [show n = a.seq by omega]
          exact hsa
        · exact endX_snoc ack [] _
      · rw [endX_snoc] at h1
        obtain ⟨h3, h4⟩ := (selB_snoc ack ys ack y).1 h
        rw [addX_snoc]
        split
        · rename_i heq
          refine ⟨(selB_snoc ack ys ack _).2 ⟨h3, by dsimp only; omega⟩, fun x hx n hn1 hn2 => ?_, by rw [endX_snoc]; dsimp only; omega⟩
          rcases List.mem_append.1 hx with hx | hx
          · exact hc x (List.mem_append_left _ hx) n hn1 hn2
          · rw [List.mem_singleton] at hx
            subst hx
            dsimp only at hn1 hn2
            by_cases hn : n < y.s + y.c
            · exact hc y (by simp) n hn1 hn
            · rw [show n = a.seq by omega]
              exact hsa
        · rename_i heq
          refine ⟨(selB_snoc ack (ys ++ [y]) ack _).2 ⟨h, by rw [endX_snoc]; dsimp only; omega⟩, fun x hx n hn1 hn2 => ?_, by rw [endX_snoc]⟩
          rcases List.mem_append.1 hx with hx | hx
          · exact hc x hx n hn1 hn2
          · rw [List.mem_singleton] at hx
            subst hx
            dsimp only at hn1 hn2
            rw [show n = a.seq by omega]
            exact hsa
    exact sel_fold ack l _ S ho.2 (fun b hb2 => by rw [key.2.2]; have := ho.1 b hb2; omega) (fun b hb2 => hb b (by simp [hb2])) key.1 key.2.1 (fun b hb2 => hs b (by simp [hb2]))
/-- what holds of an answer -/
structure AnI (rc : Int → Prop) (rn rl : Int) (p : Pm) : Prop where
  ses : p.ses = 1
  kind : p.kind = 1
  chk : chkP p = 0
  ack : 0 ≤ p.ack ∧ p.ack ≤ rn
  cred : p.cred = rl
  cov : Cov p.sel rc
theorem AnI.mono {rc rc' : Int → Prop} {rn rn' rl : Int} {p : Pm} (h : AnI rc rn rl p) (h1 : ∀ n, rc n → rc' n) (h2 : rn ≤ rn') : AnI rc' rn' rl p :=
  ⟨h.ses, h.kind, h.chk, by have := h.ack; omega, h.cred, fun x hx n a b => h1 n (h.cov x hx n a b)⟩
theorem answ_i {pu : List (List Nat)} {nx : Int} {r : Rm} {dl : List (List Nat)} {K : Nat} (h : RI pu nx r dl) (hp : PyI K pu) (hK : K ≤ 1000) : AnI (rcv r) r.next r.lim (answP r) ∧ (answP r).ack = r.next := by
  have h1 := h.lim
  have h2 := h.n0
  have h3 := h.rnx
  have h4 := h.nxl
  have h5 := hp.len
  have hs := sel_fold r.next r.early [] (rcv r) h.ear.ord (fun a ha => by rw [endX_nil]; have := h.ear.lo a ha; omega) (fun a ha => ⟨h.ear.lo a ha, by have := h.ear.hi a ha; omega⟩) rfl nofun (fun a ha => .inr ⟨a, ha, rfl⟩)
  refine ⟨⟨h.ses, rfl, ?_, ⟨h2, Int.le_refl _⟩, rfl, hs.2⟩, rfl⟩
  unfold chkP answP
  dsimp only
  rw [if_neg (by omega), if_neg (by rw [h.ses]; omega), if_neg (by unfold selA; rw [hs.1]; simp), if_neg (by simp), if_neg (by simp)]
/-- what holds of a packet -/
structure PI (pu : List (List Nat)) (nx : Int) (p : Pm) : Prop where
  ses : p.ses = 1
  chk : chkP p = 0
  data : (p.kind = 0 ∧ 0 ≤ p.seq ∧ p.seq < nx ∧ At pu p.seq p.p) ∨ p.kind = 2
theorem PI.mono {pu : List (List Nat)} {nx nx' : Int} {p : Pm} (h : PI pu nx p) (l : List (List Nat)) (hn : nx ≤ nx') : PI (pu ++ l) nx' p :=
  ⟨h.ses, h.chk, h.data.imp (fun h => ⟨h.1, h.2.1, by omega, h.2.2.2.append⟩) id⟩
theorem insA_has (a : Am) : ∀ l : List Am, ∃ b ∈ insA a l, b.seq = a.seq
  | [] => ⟨a, by simp [insA], rfl⟩
  | c :: l => by
    rw [insA]
    split
    · obtain ⟨b, hb, h⟩ := insA_has a l
      exact ⟨b, by simp [hb], h⟩
    · split
      · rename_i h
        exact ⟨c, by simp, h⟩
      · exact ⟨a, by simp, rfl⟩
theorem insA_old (a : Am) : ∀ (l : List Am) (b : Am), b ∈ l → ∃ c ∈ insA a l, c.seq = b.seq
  | c :: l, b, hb => by
    rw [insA]
    split
    · rcases List.mem_cons.1 hb with rfl | hb
      · exact ⟨b, by simp, rfl⟩
      · obtain ⟨d, hd, h⟩ := insA_old a l b hb
        exact ⟨d, by simp [hd], h⟩
    · split
      · exact ⟨b, hb, rfl⟩
      · exact ⟨b, by simp [List.mem_cons.1 hb], rfl⟩
/-- what an arrival leaves -/
structure ArrI (pu : List (List Nat)) (nx : Int) (r : Rm) (dl : List (List Nat)) (p : Pm) (q : Rm × List (List Nat) × List Pm) : Prop where
  ri : RI pu nx q.1 (dl ++ q.2.1)
  lim : q.1.lim = r.lim
  ge : r.next ≤ q.1.next
  rc : ∀ n, rcv r n → rcv q.1 n
  an : q.2.2 = [answP q.1]
  hit : p.kind = 0 → p.seq = r.next → r.next < q.1.next
theorem arr_i {pu : List (List Nat)} {nx : Int} {r : Rm} {dl : List (List Nat)} {K : Nat} {p : Pm} (h : RI pu nx r dl) (hp : PyI K pu) (hK : K ≤ 1000) (hpk : PI pu nx p) : ArrI pu nx r dl p (recvR r p) := by
  have h1 := h.lim
  have h2 := h.n0
  have h3 := h.rnx
  have h4 := h.nxl
  have h5 := hp.len
  have hc := h.chk hp hK
  have hk1 : p.kind ≠ 1 := by rcases hpk.data with hd | hd <;> omega
  unfold recvR
  rw [if_neg (by rw [hc, hpk.chk, hpk.ses, h.ses]; simp; exact hk1)]
  dsimp only
  obtain ⟨r1, hr1⟩ : ∃ r1, r1 = (if p.kind = 0 then keepR r p else r) := ⟨_, rfl⟩
  rw [← hr1]
  have e1 : r1.ses = r.ses ∧ r1.lim = r.lim ∧ r1.next = r.next := by
    rw [hr1]
    split
    · have := keep_next r p; exact ⟨this.2.1, this.2.2, this.1⟩
    · exact ⟨rfl, rfl, rfl⟩
  have e2 : r1.early.Pairwise (fun x y => x.seq < y.seq) ∧ (∀ a ∈ r1.early, (r.next ≤ a.seq ∧ a.seq < r.next + r.lim) ∧ a.seq < nx ∧ At pu a.seq a.p) ∧ (∀ a ∈ r.early, ∃ b ∈ r1.early, b.seq = a.seq) ∧ (p.kind = 0 → p.seq = r.next → ∃ b ∈ r1.early, b.seq = r.next) := by
    have g0 : ∀ a ∈ r.early, (r.next ≤ a.seq ∧ a.seq < r.next + r.lim) ∧ a.seq < nx ∧ At pu a.seq a.p := fun a ha => ⟨⟨by have := h.ear.lo a ha; omega, h.ear.hi a ha⟩, h.earx a ha, h.ep a ha⟩
    rw [hr1]
    split
    · rename_i h0
      unfold keepR
      split
      · rename_i hw
        refine ⟨h.ear.ord, g0, fun a ha => ⟨a, ha, rfl⟩, fun _ e => ?_⟩
        rcases hpk.data with hd | hd
        · omega
        · omega
      · rename_i hw
        have hd : 0 ≤ p.seq ∧ p.seq < nx ∧ At pu p.seq p.p := by
          rcases hpk.data with hd | hd
          · exact hd.2
          · omega
        refine ⟨insA_ord _ h.ear.ord, fun a ha => ?_, fun a ha => ?_, fun _ e => ?_⟩
        · rcases insA_mem ha with rfl | ha
          · exact ⟨by dsimp only; omega, hd.2.1, hd.2.2⟩
          · exact g0 a ha
        · exact insA_old _ _ a ha
        · obtain ⟨b, hb, hb2⟩ := insA_has ⟨p.seq, p.p⟩ r.early
          exact ⟨b, hb, hb2.trans e⟩
    · exact ⟨h.ear.ord, g0, fun a ha => ⟨a, ha, rfl⟩, fun e _ => by contradiction⟩
  clear hr1
  have hd := deliv_i (pu := pu) r1.early r1.next (by rw [e1.2.2]; exact h2) e2.1 (fun a ha => by rw [e1.2.2]; exact (e2.2.1 a ha).1.1) (fun a ha => (e2.2.1 a ha).2.2)
  obtain ⟨⟨d1, d2, d3⟩, hdd⟩ : ∃ d, deliv r1.next r1.early = d := ⟨_, rfl⟩
  rw [hdd] at hd ⊢
  clear hdd
  dsimp only at hd ⊢
  have f1 := hd.ge
  have f2 := hd.top nx (by rw [e1.2.2]; exact h3) (fun a ha => (e2.2.1 a ha).2.1)
  rw [e1.2.2] at f1
  have hpay := hd.pay
  rw [e1.2.2] at hpay
  refine ⟨⟨e1.1.trans h.ses, by rw [e1.2.1]; exact h1, by dsimp only; omega, ⟨fun a ha => (hd.rest a ha).1, fun a ha => ?_, fun a ha => ?_, hd.ord⟩, f2, fun a ha => (e2.2.1 a (hd.rest a ha).2).2.1, fun a ha => (e2.2.1 a (hd.rest a ha).2).2.2, h4, ?_⟩, e1.2.1, f1, fun n hn => ?_, rfl, fun k0 ks => ?_⟩
  · have := (e2.2.1 a (hd.rest a ha).2).1.2
    dsimp only
    rw [e1.2.1]
    omega
  · have := (e2.2.1 a (hd.rest a ha).2).2.2
    rw [hp.two _ this.mem]
    omega
  · rw [h.dl]
    exact hpay
  · rcases hn with hn | ⟨a, ha, rfl⟩
    · left; dsimp only; omega
    · obtain ⟨b, hb, hba⟩ := e2.2.2.1 a ha
      rcases hd.all b hb with hb2 | hb2
      · left; dsimp only; omega
      · exact .inr ⟨b, hb2, hba⟩
  · have := hd.hit (by rw [e1.2.2]; exact e2.2.2.2 k0 ks)
    rw [e1.2.2] at this
    exact this
end Go.Proofs.Ytanmndhdhlmjgaa
