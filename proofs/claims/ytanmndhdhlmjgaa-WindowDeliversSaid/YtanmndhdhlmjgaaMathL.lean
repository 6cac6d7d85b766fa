/- A transmission's sender: what holds of it, and what a poll leaves. No condition. -/
import Derived.Test.YtanmndhdhlmjgaaMathK
namespace Go.Proofs.Ytanmndhdhlmjgaa
/-- the payload with a number -/
def At (pu : List (List Nat)) (n : Int) (p : List Nat) : Prop := 0 ≤ n ∧ pu[n.toNat]? = some p
theorem At.append {pu l : List (List Nat)} {n : Int} {p : List Nat} (h : At pu n p) : At (pu ++ l) n p := by
  refine ⟨h.1, ?_⟩
  have h2 := (List.getElem?_eq_some_iff.1 h.2).1
  rw [List.getElem?_append_left h2]
  exact h.2
theorem At.lt {pu : List (List Nat)} {n : Int} {p : List Nat} (h : At pu n p) : n < pu.length := by
  have h2 := (List.getElem?_eq_some_iff.1 h.2).1
  have := h.1
  omega
theorem At.mem {pu : List (List Nat)} {n : Int} {p : List Nat} (h : At pu n p) : p ∈ pu := List.mem_of_getElem? h.2
theorem At.uniq {pu : List (List Nat)} {n : Int} {p q : List Nat} (h : At pu n p) (h' : At pu n q) : p = q := by
  have := h.2.symm.trans h'.2
  injection this
/-- one outstanding payload, with number n, at index i -/
structure OI (pu : List (List Nat)) (rc : Int → Prop) (now : Int) (P : Nat) (n : Int) (i : Nat) (o : Om) : Prop where
  seq : o.seq = n
  cnt : 1 ≤ o.cnt ∧ o.cnt ≤ P + 1
  time : 0 ≤ o.time ∧ o.time ≤ now
  p : At pu n o.p
  ak : o.ak = true → rc n
  fst : i = 0 → o.ak = false
theorem OI.mono {pu : List (List Nat)} {rc rc' : Int → Prop} {now now' : Int} {P P' : Nat} {n : Int} {i : Nat} {o : Om} (h : OI pu rc now P n i o) (l : List (List Nat)) (hr : ∀ n, rc n → rc' n) (hn : now ≤ now') (hP : P ≤ P') : OI (pu ++ l) rc' now' P' n i o :=
  ⟨h.seq, by have := h.cnt; omega, by have := h.time; omega, h.p.append, fun e => hr _ (h.ak e), h.fst⟩
/-- what holds of a sender; rc: what has been received, rn: how far without a gap -/
structure SI (pu : List (List Nat)) (rc : Int → Prop) (rn now : Int) (P : Nat) (s : Sm) : Prop where
  ses : s.ses = 1
  lim : 1 ≤ s.lim ∧ s.lim ≤ 8
  tmo : s.tmo = 5
  b0 : 0 ≤ s.base
  brn : s.base ≤ rn
  rnx : rn ≤ s.next
  end_ : s.next = s.base + s.out.length
  outl : (s.out.length : Int) ≤ s.lim
  nxl : s.next ≤ pu.length
  q : s.q = pu.drop s.next.toNat
  cr0 : 0 ≤ s.cred
  crd : s.base + s.cred ≤ rn + 8
  out : ∀ i (h : i < s.out.length), OI pu rc now P (s.base + i) i s.out[i]
/-- all payloads are short, and not too many -/
structure PyI (K : Nat) (pu : List (List Nat)) : Prop where
  len : pu.length ≤ K
  two : ∀ p ∈ pu, p.length = 2
section
variable {pu : List (List Nat)} {rc : Int → Prop} {rn now : Int} {P K : Nat} {s : Sm}
theorem outsE_of (base : Int) : ∀ (l : List Om) (i : Nat), (∀ k (h : k < l.length), outE base (i + k) l[k] = 0) → outsE base i l = 0
  | [], _, _ => rfl
  | o :: l, i, h => by
    have h0 : outE base i o = 0 := h 0 (by simp)
    rw [outsE, if_pos h0]
    refine outsE_of base l (i + 1) fun k hk => ?_
    have h2 := h (k + 1) (by simpa using hk)
    rw [show i + (k + 1) = i + 1 + k by omega] at h2
    exact h2
theorem SI.rng (h : SI pu rc rn now P s) (hp : PyI K pu) (hK : K ≤ 1000) (hn : now ≤ 100000) (hP : P ≤ 100000) : SRng s := by
  have h1 := h.lim
  have h2 := h.b0
  have h3 := h.brn
  have h4 := h.rnx
  have h5 := h.end_
  have h6 := h.outl
  have h7 := h.nxl
  have h8 := h.crd
  have h9 := hp.len
  have hq : s.q.length ≤ 4096 := by rw [h.q, List.length_drop]; omega
  refine ⟨by rw [h.ses]; omega, by omega, by rw [h.tmo]; omega, by omega, by omega, ⟨h.cr0, by omega⟩, h.outl, hq, h.end_, fun p hpq => ?_, outsE_of _ _ _ fun k hk => outE_of ?_⟩
  · rw [h.q] at hpq
    rw [hp.two p (List.mem_of_mem_drop hpq)]
    omega
  · have ho := h.out k hk
    have hc := ho.cnt
    have ht := ho.time
    refine ⟨by rw [ho.seq, Nat.zero_add], by omega, fun e => ?_, by omega, by rw [hp.two _ ho.p.mem]; omega⟩
    have := ho.fst (by omega)
    rw [this] at e
    exact absurd e.2 (by simp)
theorem SI.chk (h : SI pu rc rn now P s) (hp : PyI K pu) (hK : K ≤ 1000) (hn : now ≤ 100000) (hP : P ≤ 100000) : chkS s = 0 := chkS_of (h.rng hp hK hn hP)
/-- more is pushed -/
theorem SI.push (h : SI pu rc rn now P s) (x : List Nat) : SI (pu ++ [x]) rc rn now P { s with q := s.q ++ [x] } := by
  have h1 := h.nxl
  have h2 := h.b0
  have h3 := h.end_
  refine ⟨h.ses, h.lim, h.tmo, h.b0, h.brn, h.rnx, h.end_, h.outl, by simp only [List.length_append, List.length_singleton]; omega, ?_, h.cr0, h.crd, fun i hi => (h.out i hi).mono [x] (fun _ h => h) (Int.le_refl _) (Nat.le_refl _)⟩
  dsimp only
  rw [h.q, List.drop_append_of_le_length (by omega)]
/-- more is received -/
theorem SI.recv (h : SI pu rc rn now P s) {rc' : Int → Prop} {rn' : Int} (hr : ∀ n, rc n → rc' n) (h1 : rn ≤ rn') (h2 : rn' ≤ s.next) : SI pu rc' rn' now P s := by
  have h3 := h.brn
  have h4 := h.crd
  refine ⟨h.ses, h.lim, h.tmo, h.b0, by omega, h2, h.end_, h.outl, h.nxl, h.q, h.cr0, by omega, fun i hi => ?_⟩
  have h5 := (h.out i hi).mono [] hr (Int.le_refl _) (Nat.le_refl _)
  rw [List.append_nil] at h5
  exact h5
end
/-- payloads that leave the queue -/
def newO (now : Int) : Int → List (List Nat) → List Om
  | _, [] => []
  | n, p :: q => ⟨n, now, 1, false, p⟩ :: newO now (n + 1) q
theorem newO_len (now : Int) : ∀ (q : List (List Nat)) (n : Int), (newO now n q).length = q.length
  | [], _ => rfl
  | _ :: q, n => by rw [newO, List.length_cons, List.length_cons, newO_len now q]
theorem newO_at (now : Int) : ∀ (q : List (List Nat)) (n : Int) (i : Nat) (h : i < (newO now n q).length) (h' : i < q.length), (newO now n q)[i] = ⟨n + i, now, 1, false, q[i]⟩
  | p :: q, n, 0, _, _ => by simp [newO]
  | p :: q, n, i + 1, h, h' => by
    simp only [newO, List.getElem_cons_succ]
    rw [newO_at now q (n + 1) i (by rw [newO_len]; simpa using h') (by simpa using h')]
    congr 1
    push_cast
    omega
/-- what filling leaves -/
structure FillR (now : Int) (m m' : Sm) (ps : List Pm) (j : Nat) : Prop where
  out : m'.out = m.out ++ newO now m.next (m.q.take j)
  q : m'.q = m.q.drop j
  next : m'.next = m.next + j
  ps : ps = (newO now m.next (m.q.take j)).map (dataP m.ses)
  ses : m'.ses = m.ses
  lim : m'.lim = m.lim
  tmo : m'.tmo = m.tmo
  base : m'.base = m.base
  cred : m'.cred = m.cred
  jq : j ≤ m.q.length
  room : j = 0 ∨ ((m.out.length + j : Nat) : Int) ≤ min m.lim m.cred
  stop : j = m.q.length ∨ min m.lim m.cred ≤ ((m.out.length + j : Nat) : Int) ∨ 1073741824 ≤ m.next + j
theorem fill_r (now : Int) : ∀ (k : Nat) (m : Sm), m.q.length ≤ k → ∃ j, FillR now m (fillS now m k).1 (fillS now m k).2 j
  | 0, m, h => by
    have h0 : m.q = [] := List.length_eq_zero_iff.1 (by omega)
    exact ⟨0, by simp [fillS, newO], by simp [fillS], by simp [fillS], by simp [fillS, newO], rfl, rfl, rfl, rfl, rfl, by omega, .inl rfl, .inl (by rw [h0]; rfl)⟩
  | k + 1, m, h => by
    rw [fillS]
    split
    · rename_i hq
      exact ⟨0, by simp [newO], by simp, by simp, by simp [newO], rfl, rfl, rfl, rfl, rfl, by omega, .inl rfl, .inl (by rw [hq]; rfl)⟩
    · rename_i p q hq
      split
      · rename_i hr
        obtain ⟨j, hj⟩ := fill_r now k { m with q := q, out := m.out ++ [⟨m.next, now, 1, false, p⟩], next := m.next + 1 } (by rw [hq, List.length_cons] at h; dsimp only; omega)
        have h1 := hj.room
        have h2 := hj.stop
        have h3 := hj.jq
        simp only [List.length_append, List.length_singleton] at h1 h2
        dsimp only at h3
        refine ⟨j + 1, ?_, ?_, ?_, ?_, hj.ses, hj.lim, hj.tmo, hj.base, hj.cred, by rw [hq, List.length_cons]; omega, .inr (by omega), ?_⟩
        · dsimp only; rw [hj.out, hq]; simp [newO]
        · dsimp only; rw [hj.q, hq]; rfl
        · have h4 := hj.next; dsimp only at h4 ⊢; rw [h4]; push_cast; omega
        · dsimp only; rw [hj.ps, hq]; simp [newO]
        · rw [hq, List.length_cons]
          rcases h2 with h2 | h2 | h2
          · exact .inl (by omega)
          · exact .inr (.inl (by omega))
          · exact .inr (.inr (by push_cast; omega))
      · rename_i hr
        refine ⟨0, by simp [newO], by simp, by simp, by simp [newO], rfl, rfl, rfl, rfl, rfl, by omega, .inl rfl, .inr ?_⟩
        push_cast
        omega
/-- what a poll sends of one outstanding payload, if all that wait have waited long enough -/
def segO (ses : Int) (o : Om) : List Pm := if o.ak = true then [] else [dataP ses o]
/-- what a poll leaves -/
structure PollI (pu : List (List Nat)) (rc : Int → Prop) (rn now : Int) (P : Nat) (s : Sm) (q : Sm × List Pm) : Prop where
  si : SI pu rc rn now P q.1
  ps : ∀ p ∈ q.2, (∃ o ∈ q.1.out, p = dataP 1 o) ∨ p = ⟨2, 1, q.1.next, 0, 0, [], []⟩
  few : q.2.length ≤ 17
  base : q.1.base = s.base
  cred : q.1.cred = s.cred
  lim : q.1.lim = s.lim
  next : s.next ≤ q.1.next ∧ (q.1.next = s.next ∨ q.1.next ≤ s.base + s.cred)
theorem poll_i {pu : List (List Nat)} {rc : Int → Prop} {rn now now' : Int} {P K : Nat} {s : Sm} (h : SI pu rc rn now P s) (hp : PyI K pu) (hK : K ≤ 1000) (h0 : 0 ≤ now) (hn : now ≤ now') (hn' : now' ≤ 100000) (hP : P ≤ 50000) :
    PollI pu rc rn now' (P + 1) s (pollS s now') ∧
      (now + 5 ≤ now' → (pollS s now').2 = (pollS s now').1.out.flatMap (segO 1) ++ probeP (pollS s now').1) ∧
      ((pollS s now').1.q = [] ∨ min s.lim s.cred ≤ (pollS s now').1.out.length) := by
  have hr := h.rng hp hK (by omega) (by omega)
  have hc : chkS s = 0 := chkS_of hr
  obtain ⟨m1, hm1⟩ : ∃ m1, m1 = ({ s with out := s.out.map (againO now' s.tmo) } : Sm) := ⟨_, rfl⟩
  obtain ⟨j, hj⟩ := fill_r now' s.q.length m1 (by rw [hm1]; exact Nat.le_refl _)
  have he : pollS s now' = ((fillS now' m1 s.q.length).1, s.out.flatMap (againP s.ses now' s.tmo) ++ (fillS now' m1 s.q.length).2 ++ probeP (fillS now' m1 s.q.length).1) := by
    unfold pollS
    rw [if_neg (by rw [hc]; simp; omega), hm1]
  obtain ⟨m2, hm2⟩ : ∃ m2, m2 = (fillS now' m1 s.q.length).1 := ⟨_, rfl⟩
  obtain ⟨ps, hps⟩ : ∃ ps, ps = (fillS now' m1 s.q.length).2 := ⟨_, rfl⟩
  rw [← hm2, ← hps] at hj he
  rw [he]
  dsimp only
  clear he hm2 hps
  have a1 : m1.out = s.out.map (againO now' s.tmo) := by rw [hm1]
  have a2 : m1.q = s.q := by rw [hm1]
  have a3 : m1.next = s.next := by rw [hm1]
  have a4 : m1.ses = s.ses ∧ m1.lim = s.lim ∧ m1.tmo = s.tmo ∧ m1.base = s.base ∧ m1.cred = s.cred := by rw [hm1]; simp
  clear hm1
  have b1 := hj.out
  have b2 := hj.q
  have b3 := hj.next
  have b4 := hj.ps
  have b5 := hj.jq
  have b6 := hj.room
  have b7 := hj.stop
  have c1 := hj.ses
  have c2 := hj.lim
  have c3 := hj.tmo
  have c4 := hj.base
  have c5 := hj.cred
  rw [a1, a2, a3] at b1
  rw [a2] at b2 b5 b7
  rw [a3] at b3 b7
  rw [a2, a3, a4.1] at b4
  rw [a4.2.1, a4.2.2.2.2, a1, List.length_map] at b6 b7
  rw [a4.1] at c1
  rw [a4.2.1] at c2
  rw [a4.2.2.1] at c3
  rw [a4.2.2.2.1] at c4
  rw [a4.2.2.2.2] at c5
  clear hj a1 a2 a3 a4
  have hlen : m2.out.length = s.out.length + j := by
    rw [b1, List.length_append, List.length_map, newO_len, List.length_take]
    omega
  have e1 := h.end_
  have e2 := h.nxl
  have e3 := h.b0
  have e4 := h.brn
  have e5 := h.rnx
  have hql : s.q.length = pu.length - s.next.toNat := by rw [h.q, List.length_drop]
  have hao : ∀ o : Om, (againO now' s.tmo o).seq = o.seq ∧ (againO now' s.tmo o).p = o.p ∧ (againO now' s.tmo o).ak = o.ak ∧ ((againO now' s.tmo o).time = o.time ∨ (againO now' s.tmo o).time = now') ∧ (o.cnt ≤ (againO now' s.tmo o).cnt ∧ (againO now' s.tmo o).cnt ≤ o.cnt + 1) := fun o => by
    unfold againO
    split
    · exact ⟨rfl, rfl, rfl, .inr rfl, by dsimp only; omega⟩
    · exact ⟨rfl, rfl, rfl, .inl rfl, by omega⟩
  have hold : ∀ i (hi : i < m2.out.length) (hs : i < s.out.length), m2.out[i] = againO now' s.tmo s.out[i] := fun i hi hs => by
    have : m2.out[i]? = some (againO now' s.tmo s.out[i]) := by
      rw [b1, List.getElem?_append_left (by rw [List.length_map]; exact hs), List.getElem?_map, List.getElem?_eq_getElem hs]
      rfl
    rw [List.getElem?_eq_getElem hi] at this
    injection this
  have hnew : ∀ i (hi : i < m2.out.length) (hs : s.out.length ≤ i), ∃ p, m2.out[i] = ⟨s.next + (i - s.out.length : Nat), now', 1, false, p⟩ ∧ At pu (s.next + (i - s.out.length : Nat)) p := fun i hi hs => by
    have hq : i - s.out.length < s.q.length := by omega
    have ht : i - s.out.length < (s.q.take j).length := by rw [List.length_take]; omega
    refine ⟨s.q[i - s.out.length], ?_, ?_⟩
    · have : m2.out[i]? = some ⟨s.next + (i - s.out.length : Nat), now', 1, false, s.q[i - s.out.length]⟩ := by
        rw [b1, List.getElem?_append_right (by rw [List.length_map]; exact hs), List.length_map, List.getElem?_eq_getElem (by rw [newO_len]; exact ht), newO_at _ _ _ _ _ ht, List.getElem_take]
      rw [List.getElem?_eq_getElem hi] at this
      injection this
    · refine ⟨by omega, ?_⟩
      have h2 : s.q[i - s.out.length]? = some s.q[i - s.out.length] := List.getElem?_eq_getElem hq
      rw [← h2]
      conv => rhs; rw [h.q]
      rw [List.getElem?_drop]
      congr 1
      omega
  have hnl : m2.next ≤ pu.length := by rw [b3]; omega
  have hOI : ∀ i (hi : i < m2.out.length), OI pu rc now' (P + 1) (m2.base + i) i m2.out[i] := fun i hi => by
    rw [c4]
    by_cases hs : i < s.out.length
    · rw [hold i hi hs]
      have ho := h.out i hs
      have h2 := hao s.out[i]
      have h3 := ho.cnt
      have h4 := ho.time
      refine ⟨h2.1.trans ho.seq, by omega, by omega, by rw [h2.2.1]; exact ho.p, fun e => ho.ak (by rw [← h2.2.2.1]; exact e), fun e => by rw [h2.2.2.1]; exact ho.fst e⟩
    · obtain ⟨p, hp2, hat⟩ := hnew i hi (by omega)
      have hx : s.next + ((i - s.out.length : Nat) : Int) = s.base + i := by omega
      rw [hp2]
      rw [hx] at hat ⊢
      exact ⟨rfl, by dsimp only; omega, by dsimp only; omega, hat, (fun e => nomatch e), fun _ => rfl⟩
  have hSI : SI pu rc rn now' (P + 1) m2 := by
    refine ⟨c1.trans h.ses, by rw [c2]; exact h.lim, c3.trans h.tmo, by rw [c4]; exact h.b0, by rw [c4]; exact h.brn, by rw [b3]; omega, by rw [b3, c4, hlen]; push_cast; omega, ?_, hnl, ?_, by rw [c5]; exact h.cr0, by rw [c4, c5]; exact h.crd, hOI⟩
    · rw [c2, hlen]
      have h1 := h.outl
      rcases b6 with b6 | b6
      · omega
      · have : min s.lim s.cred ≤ s.lim := Int.min_le_left _ _
        omega
    · rw [b2, h.q, List.drop_drop, b3]
      congr 1
      omega
  have hmem1 : ∀ p ∈ s.out.flatMap (againP s.ses now' s.tmo), ∃ o ∈ m2.out, p = dataP 1 o := fun p hpm => by
    obtain ⟨o, ho, hpo⟩ := List.mem_flatMap.1 hpm
    unfold againP at hpo
    split at hpo
    · rw [List.mem_singleton] at hpo
      refine ⟨againO now' s.tmo o, by rw [b1]; exact List.mem_append_left _ (List.mem_map_of_mem ho), ?_⟩
      rw [hpo, h.ses]
    · cases hpo
  have hmem2 : ∀ p ∈ ps, ∃ o ∈ m2.out, p = dataP 1 o := fun p hpm => by
    rw [b4] at hpm
    obtain ⟨o, ho, rfl⟩ := List.mem_map.1 hpm
    exact ⟨o, by rw [b1]; exact List.mem_append_right _ ho, by rw [h.ses]⟩
  have hpr : (probeP m2).length ≤ 1 ∧ ∀ p ∈ probeP m2, p = ⟨2, 1, m2.next, 0, 0, [], []⟩ := by
    unfold probeP
    split
    · refine ⟨by simp, fun p hpm => ?_⟩
      rw [List.mem_singleton] at hpm
      rw [hpm, c1, h.ses]
    · exact ⟨by simp, nofun⟩
  have hl8 : m2.out.length ≤ 8 := by have h1 := hSI.outl; have h2 := hSI.lim; omega
  have hfl : ∀ l : List Om, (l.flatMap (againP s.ses now' s.tmo)).length ≤ l.length := fun l => by
    induction l with
    | nil => simp
    | cons o l ih =>
      have h2 : (againP s.ses now' s.tmo o).length ≤ 1 := by unfold againP; split <;> simp
      rw [List.flatMap_cons, List.length_append, List.length_cons]
      omega
  refine ⟨⟨hSI, fun p hpm => ?_, ?_, c4, c5, c2, by rw [b3]; omega, ?_⟩, fun h5 => ?_, ?_⟩
  · rcases List.mem_append.1 hpm with hpm | hpm
    · rcases List.mem_append.1 hpm with hpm | hpm
      · exact .inl (hmem1 p hpm)
      · exact .inl (hmem2 p hpm)
    · exact .inr (hpr.2 p hpm)
  · have h1 := hfl s.out
    have h2 : ps.length = j := by rw [b4, List.length_map, newO_len, List.length_take]; omega
    have h3 := hpr.1
    rw [List.length_append, List.length_append]
    omega
  · dsimp only
    rw [b3]
    rcases b6 with b6 | b6
    · left; omega
    · right
      have : min s.lim s.cred ≤ s.cred := Int.min_le_right _ _
      omega
  · congr 1
    rw [b1, List.flatMap_append]
    congr 1
    · rw [List.flatMap_map]
      have key : ∀ i (hi : i < s.out.length), againP s.ses now' s.tmo s.out[i] = segO 1 (againO now' s.tmo s.out[i]) := fun i hi => by
        have ho := h.out i hi
        have h2 := ho.time
        have h3 := ho.cnt
        have h4 := hao s.out[i]
        unfold againP segO
        rw [h4.2.2.1]
        by_cases hak : s.out[i].ak = true
        · have : again now' s.tmo s.out[i] = false := by unfold again; rw [hak]; rfl
          rw [this, if_neg (by simp), if_pos hak]
        · have hg : again now' s.tmo s.out[i] = true := by
            unfold again
            rw [Bool.not_eq_true] at hak
            rw [hak, h.tmo]
            simp only [Bool.not_false, Bool.true_and, Bool.and_eq_true, decide_eq_true_eq]
            omega
          rw [if_pos hg, if_neg hak, h.ses]
      clear hmem1 hold hfl hpr hmem2
      generalize s.out = l at key
      clear b1 b6 b7 hlen hnew e1
      induction l with
      | nil => rfl
      | cons o l ih =>
        have k0 : againP s.ses now' s.tmo o = segO 1 (againO now' s.tmo o) := key 0 (by simp)
        rw [List.flatMap_cons, List.flatMap_cons, k0]
        congr 1
        exact ih (fun i hi => key (i + 1) (by simpa using hi))
    · rw [b4, h.ses]
      generalize s.next = n0
      generalize s.q.take j = l
      induction l generalizing n0 with
      | nil => rfl
      | cons p l ih =>
        simp only [newO, List.map_cons, List.flatMap_cons]
        rw [ih]
        rfl
  · rcases b7 with b7 | b7 | b7
    · left
      rw [b2, b7]
      simp
    · right
      rw [hlen]
      exact b7
    · exfalso
      have := hp.len
      omega
end Go.Proofs.Ytanmndhdhlmjgaa
