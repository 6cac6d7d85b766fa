/- The plain model of the queue of events. No condition. -/
namespace Go.Proofs.Ytjaoppopfeonhaa
/-- a flight -/
structure Em where
  t : Int
  n : Int
  p : List Nat
/-- the error of a flight alone -/
def wrongE (e : Em) (nx : Int) : Nat :=
  if e.t < 0 ∨ 1073741824 < e.t then 24 else if e.n < 0 ∨ nx ≤ e.n then 2 else if 65536 < e.p.length then 5 else 0
/-- one event stands ahead of another -/
def befB (e f : Em) : Bool := decide (e.t < f.t ∨ (e.t = f.t ∧ e.n < f.n))
/-- the event at place k does not stand behind the one ahead of it -/
def ordBad (l : List Em) (k : Nat) (e : Em) : Bool := match l[k - 1]? with | some f => decide (0 < k) && !befB f e | none => false
/-- the error at place k -/
def badAt (nx : Int) (l : List Em) (k : Nat) : Nat :=
  match l[k]? with
  | none => 0
  | some e =>
    if wrongE e nx ≠ 0 then wrongE e nx
    else if ordBad l k e = true then 3
    else if (l.take k).any (fun f => f.n == e.n) then 8 else 0
def chkE (nx : Int) (l : List Em) : Nat := (((List.range l.length).map (badAt nx l)).find? (fun x => x != 0)).getD 0
/-- a link -/
structure Lm where
  mi : Int
  ma : Int
  ra : Int
  dn : Bool
  idle : Int
  nx : Int
  fl : List Em
def zeroL : Lm := ⟨0, 0, 0, false, 0, 0, []⟩
def cfgE (mi ma ra : Int) : Nat := if mi < 0 ∨ ma < mi ∨ 1073741824 < ma ∨ ra < 0 ∨ 65536 < ra then 2 else 0
def chkH (l : Lm) : Nat :=
  if cfgE l.mi l.ma l.ra ≠ 0 then 2
  else if l.idle < 0 ∨ 1073741824 < l.idle then 24
  else if l.nx < 0 ∨ 1073741824 < l.nx then 2
  else if 4096 < l.fl.length then 6
  else if l.dn = true ∧ 0 < l.fl.length then 12 else 0
def chkL (l : Lm) : Nat := if chkH l ≠ 0 then chkH l else chkE l.nx l.fl
theorem find_first {l : List Nat} {k c : Nat} (h : ∀ j, j < k → l[j]? = some 0) (hk : l[k]? = some c) (hc : c ≠ 0) : (l.find? (fun x => x != 0)).getD 0 = c := by
  induction l generalizing k with
  | nil => simp at hk
  | cons x l ih =>
    cases k with
    | zero =>
      simp at hk
      subst hk
      rw [List.find?_cons_of_pos (by simpa using hc)]
      rfl
    | succ k =>
      have h0 := h 0 (by omega)
      simp at h0
      subst h0
      rw [List.find?_cons_of_neg (by simp)]
      exact ih (k := k) (fun j hj => by have := h (j + 1) (Nat.succ_lt_succ hj); simpa using this) (by simpa using hk)
theorem bad_get (nx : Int) (l : List Em) {j : Nat} (hj : j < l.length) : ((List.range l.length).map (badAt nx l))[j]? = some (badAt nx l j) := by
  rw [List.getElem?_map, List.getElem?_range hj]
  rfl
theorem chkE_at {nx : Int} {l : List Em} {k c : Nat} (h : ∀ j, j < k → badAt nx l j = 0) (hk : k < l.length) (hb : badAt nx l k = c) (hc : c ≠ 0) : chkE nx l = c := by
  unfold chkE
  exact find_first (k := k) (fun j hj => by rw [bad_get nx l (j := j) (Nat.lt_trans hj hk), h j hj]) (by rw [bad_get nx l hk, hb]) hc
theorem chkE_ok {nx : Int} {l : List Em} (h : ∀ j, j < l.length → badAt nx l j = 0) : chkE nx l = 0 := by
  unfold chkE
  rw [List.find?_eq_none.2]
  · rfl
  · intro x hx
    obtain ⟨j, hj, rfl⟩ := List.mem_map.1 hx
    rw [h j (List.mem_range.1 hj)]
    simp
theorem chkE_zero {nx : Int} {l : List Em} (h : chkE nx l = 0) : ∀ j, j < l.length → badAt nx l j = 0 := by
  intro j
  induction j using Nat.strongRecOn with
  | _ j ih =>
    intro hj
    rcases Nat.eq_zero_or_pos (badAt nx l j) with h0 | h0
    · exact h0
    · have := chkE_at (fun i hi => ih i hi (Nat.lt_trans hi hj)) hj rfl (by omega)
      omega
/-- a link in order -/
structure OkL (l : Lm) : Prop where
  mi0 : 0 ≤ l.mi
  mima : l.mi ≤ l.ma
  ma : l.ma ≤ 1073741824
  ra0 : 0 ≤ l.ra
  ra : l.ra ≤ 65536
  idle0 : 0 ≤ l.idle
  idle : l.idle ≤ 1073741824
  nx0 : 0 ≤ l.nx
  nx : l.nx ≤ 1073741824
  len : l.fl.length ≤ 4096
  dn : l.dn = true → l.fl = []
  each : ∀ e ∈ l.fl, wrongE e l.nx = 0
  ord : ∀ (k : Nat) (e f : Em), l.fl[k]? = some e → l.fl[k + 1]? = some f → befB e f = true
  dis : ∀ (i k : Nat) (e f : Em), i < k → l.fl[i]? = some e → l.fl[k]? = some f → e.n ≠ f.n
theorem okL_of {l : Lm} (h : chkL l = 0) : OkL l := by
  unfold chkL at h
  split at h
  · contradiction
  · rename_i hn
    have hh : chkH l = 0 := by omega
    have hz := chkE_zero h
    have hw : ∀ k e, l.fl[k]? = some e → wrongE e l.nx = 0 ∧ ordBad l.fl k e = false ∧ (l.fl.take k).any (fun f => f.n == e.n) = false := by
      intro k e hk
      have h1 := hz k (List.getElem?_eq_some_iff.1 hk).1
      unfold badAt at h1
      rw [hk] at h1
      dsimp only at h1
      split at h1
      · contradiction
      · split at h1
        · cases h1
        · split at h1
          · cases h1
          · rename_i a b c
            exact ⟨by omega, by simpa using b, Bool.eq_false_iff.2 c⟩
    unfold chkH at hh
    split at hh
    · cases hh
    · rename_i c1
      split at hh
      · cases hh
      · split at hh
        · cases hh
        · split at hh
          · cases hh
          · split at hh
            · cases hh
            · rename_i c2 c3 c4 c5
              have c1' : cfgE l.mi l.ma l.ra = 0 := by omega
              unfold cfgE at c1'
              split at c1'
              · cases c1'
              · rename_i c6
                refine ⟨by omega, by omega, by omega, by omega, by omega, by omega, by omega, by omega, by omega, by omega, ?_, ?_, ?_, ?_⟩
                · intro hd
                  have : ¬ 0 < l.fl.length := fun h9 => c5 ⟨hd, h9⟩
                  exact List.eq_nil_of_length_eq_zero (by omega)
                · intro e he
                  obtain ⟨k, hk, rfl⟩ := List.getElem_of_mem he
                  exact (hw k _ (List.getElem?_eq_getElem hk)).1
                · intro k e f he hf
                  have := (hw (k + 1) f hf).2.1
                  unfold ordBad at this
                  rw [Nat.add_sub_cancel, he] at this
                  simpa using this
                · intro i k e f hik he hf
                  have := (hw k f hf).2.2
                  rw [List.any_eq_false] at this
                  have h2 := this e (List.mem_of_getElem? (by rw [List.getElem?_take_of_lt hik]; exact he))
                  simpa using h2
theorem chkL_of {l : Lm} (h : OkL l) : chkL l = 0 := by
  have hh : chkH l = 0 := by
    unfold chkH
    rw [if_neg (by unfold cfgE; rw [if_neg (by have := h.mi0; have := h.mima; have := h.ma; have := h.ra0; have := h.ra; omega)]; simp), if_neg (by have := h.idle0; have := h.idle; omega), if_neg (by have := h.nx0; have := h.nx; omega), if_neg (by have := h.len; omega), if_neg]
    rintro ⟨hd, hl⟩
    rw [h.dn hd] at hl
    cases hl
  unfold chkL
  rw [if_neg (by omega)]
  refine chkE_ok (fun j hj => ?_)
  unfold badAt
  rw [List.getElem?_eq_getElem hj]
  dsimp only
  rw [if_neg (by rw [h.each _ (List.getElem_mem hj)]; simp), if_neg, if_neg]
  · intro hc
    obtain ⟨f, hf, hn⟩ := List.any_eq_true.1 hc
    obtain ⟨i, hi, hif⟩ := List.getElem_of_mem hf
    rw [List.length_take] at hi
    rw [List.getElem_take] at hif
    exact h.dis i j f l.fl[j] (by omega) (by rw [List.getElem?_eq_getElem (i := i) (by omega), hif]) (List.getElem?_eq_getElem hj) (by simpa using hn)
  · intro hc
    unfold ordBad at hc
    cases j with
    | zero => simp at hc; split at hc <;> simp at hc
    | succ j =>
      rw [Nat.add_sub_cancel, List.getElem?_eq_getElem (by omega)] at hc
      have := h.ord j l.fl[j] l.fl[j + 1] (List.getElem?_eq_getElem (by omega)) (List.getElem?_eq_getElem hj)
      simp [this] at hc
/-- the place of the first that fits -/
def idxB {α : Type} (f : α → Bool) : List α → Option Nat
  | [] => none
  | e :: l => if f e then some 0 else (idxB f l).map (· + 1)
def idxI {α : Type} (f : α → Bool) (l : List α) : Int := match idxB f l with | some k => (k : Int) | none => -1
theorem idxB_some {α : Type} {f : α → Bool} {l : List α} {k : Nat} {e : α} (h : ∀ j x, j < k → l[j]? = some x → f x = false) (hk : l[k]? = some e) (he : f e = true) : idxB f l = some k := by
  induction l generalizing k with
  | nil => simp at hk
  | cons x l ih =>
    cases k with
    | zero => simp at hk; subst hk; simp [idxB, he]
    | succ k =>
      have h0 := h 0 x (by omega) (by simp)
      rw [idxB, h0, ih (k := k) (fun j y hj hy => h (j + 1) y (Nat.succ_lt_succ hj) (by simpa using hy)) (by simpa using hk)]
      rfl
theorem idxB_none {α : Type} {f : α → Bool} {l : List α} (h : ∀ x ∈ l, f x = false) : idxB f l = none := by
  induction l with
  | nil => rfl
  | cons x l ih => rw [idxB, h x (by simp), ih (fun y hy => h y (by simp [hy]))]; rfl
theorem idxB_lt {α : Type} {f : α → Bool} {l : List α} {k : Nat} (h : idxB f l = some k) : k < l.length ∧ (∀ j x, j < k → l[j]? = some x → f x = false) ∧ ∃ e, l[k]? = some e ∧ f e = true := by
  induction l generalizing k with
  | nil => cases h
  | cons x l ih =>
    rw [idxB] at h
    split at h
    · rename_i hx
      injection h with h
      subst h
      exact ⟨by simp, fun j y hj => by omega, x, by simp, hx⟩
    · rename_i hx
      cases hq : idxB f l with
      | none => rw [hq] at h; cases h
      | some q =>
        rw [hq] at h
        injection h with h
        subst h
        obtain ⟨h1, h2, e, h3, h4⟩ := ih hq
        refine ⟨by simp; omega, fun j y hj hy => ?_, e, by simpa using h3, h4⟩
        cases j with
        | zero => simp at hy; subst hy; simpa using hx
        | succ j => exact h2 j y (by simpa using hj) (by simpa using hy)
theorem idxB_nil {α : Type} {f : α → Bool} {l : List α} (h : idxB f l = none) : ∀ x ∈ l, f x = false := by
  induction l with
  | nil => simp
  | cons x l ih =>
    rw [idxB] at h
    split at h
    · cases h
    · rename_i hx
      cases hq : idxB f l with
      | some q => rw [hq] at h; cases h
      | none =>
        intro y hy
        rcases List.mem_cons.1 hy with rfl | hy
        · simpa using hx
        · exact ih hq y hy
theorem idxB_any {α : Type} (f : α → Bool) (l : List α) : (idxB f l).isSome = l.any f := by
  induction l with
  | nil => rfl
  | cons x l ih =>
    rw [idxB, List.any_cons]
    split
    · rename_i h; rw [h]; rfl
    · rename_i h
      rw [Bool.not_eq_true] at h
      rw [h, Bool.false_or, ← ih, Option.isSome_map]
theorem idxB_map {α β : Type} (f : β → Bool) (g : α → β) (l : List α) : idxB f (l.map g) = idxB (fun x => f (g x)) l := by
  induction l with
  | nil => rfl
  | cons x l ih => rw [List.map_cons, idxB, idxB, ih]
/-- the place behind all that are not later, for the code and for the reference -/
def atE (f : Em → Bool) (l : List Em) : Nat := match idxB f l with | some k => k | none => l.length
theorem atE_le (f : Em → Bool) (l : List Em) : atE f l ≤ l.length := by
  unfold atE
  cases h : idxB f l with
  | none => exact Nat.le_refl _
  | some k => exact Nat.le_of_lt (idxB_lt h).1
def laterB (x : Int) (e : Em) : Bool := decide (x < e.t)
def insE (x : Em) (l : List Em) : List Em := l.take (atE (laterB x.t) l) ++ x :: l.drop (atE (laterB x.t) l)
/-- a decision -/
def decV (cs : List Int) (n : Int) : Int := match cs with | [] => 0 | x :: _ => if x.tmod n < 0 then x.tmod n + n else x.tmod n
def decR (cs : List Int) : List Int := cs.drop 1
def ticksM (b : Nat) (ra : Int) : Int := if ra = 0 then 0 else ((b : Int) + ra - 1).tdiv ra
/-- what Send answers -/
structure SendA where
  l : Lm
  r : List Int
  e : Nat
def sendN : Nat → Lm → Int → List Nat → List Int → Lm × List Int
  | 0, l, _, _, r => (l, r)
  | k + 1, l, en, p, r => sendN k { l with fl := insE ⟨en + l.mi + decV r (l.ma - l.mi + 1), l.nx, p⟩ l.fl, nx := l.nx + 1 } en p (decR r)
def timesOf (how : Int) : Nat := if how = 1 then 0 else if how = 2 then 2 else 1
def endM (l : Lm) (now : Int) (b : Nat) : Int := max now l.idle + ticksM b l.ra
def sendM (l : Lm) (now : Int) (p : List Nat) (cs : List Int) : SendA :=
  if chkL l ≠ 0 then ⟨zeroL, [], chkL l⟩
  else if now < 0 ∨ 1073741824 < now then ⟨zeroL, [], 24⟩
  else if 65536 < p.length then ⟨zeroL, [], 5⟩
  else if l.dn = true then ⟨l, cs, 0⟩
  else if 1073741824 < endM l now p.length + l.ma then ⟨zeroL, [], 24⟩
  else if 4094 < l.fl.length ∨ 1073741822 < l.nx then ⟨zeroL, [], 11⟩
  else ⟨(sendN (timesOf (decV cs 3)) { l with idle := endM l now p.length } (endM l now p.length) p (decR cs)).1, (sendN (timesOf (decV cs 3)) { l with idle := endM l now p.length } (endM l now p.length) p (decR cs)).2, 0⟩
def delivM (l : Lm) (now : Int) : Lm × List (List Nat) :=
  if chkL l ≠ 0 then (l, []) else ({ l with fl := l.fl.drop (atE (laterB now) l.fl) }, (l.fl.take (atE (laterB now) l.fl)).map Em.p)
def nextM (l : Lm) : Int × Bool := if chkL l ≠ 0 then (0, false) else match l.fl with | [] => (0, false) | e :: _ => (e.t, true)
def cutM (l : Lm) : Lm := if chkL l ≠ 0 then l else { l with dn := true, fl := [] }
def restM (l : Lm) (now : Int) : Lm := if chkL l ≠ 0 ∨ l.dn = false ∨ now < 0 ∨ 1073741824 < now then l else { l with dn := false, idle := now }
end Go.Proofs.Ytjaoppopfeonhaa
