/- The plain law of RecordDetects: one changed byte. No condition. -/
import Derived.Test.YtbiiahbhgjjhgaaMathR
namespace Go.Proofs.Ytbiiahbhgjjhgaa
theorem sum_one (l : List Nat) (i x : Nat) (hi : i < l.length) (hx : x < 256) (h0 : x ≠ 0) : updS 0 (l.set i (l.getD i 0 ^^^ x)) ≠ updS 0 l := by
  intro e
  unfold updS at e
  have e1 : updL (not32 0) (l.set i (l.getD i 0 ^^^ x)) = updL (not32 0) l := by
    rw [← not32_not32 (updL (not32 0) l), ← e, not32_not32]
  have hs : l.set i (l.getD i 0 ^^^ x) = l.take i ++ (l.getD i 0 ^^^ x) :: l.drop (i + 1) := by
    rw [List.set_eq_take_append_cons_drop, if_pos hi]
  have hl : l = l.take i ++ l.getD i 0 :: l.drop (i + 1) := by
    have h := List.set_eq_take_append_cons_drop (l := l) (i := i) (a := l.getD i 0)
    rw [if_pos hi] at h
    rw [← h, List.getD_eq_getElem?_getD, List.getElem?_eq_getElem hi]
    simp
  rw [hs] at e1
  conv at e1 => rhs; rw [hl]
  rw [updL_append, updL_append, updL_cons, updL_cons] at e1
  generalize updL (not32 0) (l.take i) = r at e1
  have h1 : updB r (l.getD i 0 ^^^ x) = updB r (l.getD i 0) ^^^ updB x 0 := by
    rw [← updB_xor]
    unfold updB
    rw [Nat.xor_assoc, Nat.xor_comm x]
  rw [h1, updL_xor] at e1
  have hz : updB x 0 ≠ 0 := by
    intro h
    unfold updB at h
    rw [Nat.xor_zero] at h
    exact h0 (crcN_zero (by omega) 8 h)
  have hlt : updB x 0 < 4294967296 := updB_lt (by omega) (by omega)
  generalize updL (updB r (l.getD i 0)) (l.drop (i + 1)) = A at e1
  have e2 : A ^^^ updZ (l.drop (i + 1)).length (updB x 0) = A ^^^ 0 := by rw [Nat.xor_zero]; exact e1
  exact updZ_nonzero hlt hz _ (xor_right_inj e2)
theorem le_ge {l : List Nat} (h : AllB l) : le (ge l) l.length = l := by
  induction l with
  | nil => rfl
  | cons x l ih =>
    have hx := h x (by simp)
    rw [List.length_cons, ge, le, show (x + 256 * ge l) % 256 = x by omega, show (x + 256 * ge l) / 256 = ge l by omega, ih (fun y hy => h y (by simp [hy]))]
def Sec.put (s : Sec) (j v : Nat) : Sec :=
  if j = 0 then ⟨s.a, s.b, s.c, s.d, v, s.f, s.g, s.h⟩ else if j = 1 then ⟨s.a, s.b, s.c, s.d, s.e, v, s.g, s.h⟩ else if j = 2 then ⟨s.a, s.b, s.c, s.d, s.e, s.f, v, s.h⟩ else ⟨s.a, s.b, s.c, s.d, s.e, s.f, s.g, v⟩
theorem Sec.put_num (s : Sec) (j v : Nat) : (s.put j v).num = s.num := by
  unfold Sec.put
  split
  · rfl
  · split
    · rfl
    · split <;> rfl
theorem four {j : Nat} (h : j < 4) : j = 0 ∨ j = 1 ∨ j = 2 ∨ j = 3 := by omega
theorem Sec.put_dat (s : Sec) (j v : Nat) (hj : j < 4) : (s.put j v).dat = s.dat.set j v := by
  rcases four hj with rfl | rfl | rfl | rfl <;> rfl
theorem Sec.put_ok {s : Sec} (h : s.Ok) (j : Nat) {v : Nat} (hv : v < 256) : (s.put j v).Ok := by
  obtain ⟨h1, h2, h3, h4, h5, h6, h7, h8⟩ := h
  unfold Sec.put
  split
  · exact ⟨h1, h2, h3, h4, hv, h6, h7, h8⟩
  · split
    · exact ⟨h1, h2, h3, h4, h5, hv, h7, h8⟩
    · split
      · exact ⟨h1, h2, h3, h4, h5, h6, hv, h8⟩
      · exact ⟨h1, h2, h3, h4, h5, h6, h7, hv⟩
/-- the sectors, one byte of their stream set -/
def setS : List Sec → Nat → Nat → List Sec
  | [], _, _ => []
  | s :: l, i, v => if i < 4 then s.put i v :: l else s :: setS l (i - 4) v
theorem stOf_cons (s : Sec) (l : List Sec) : stOf (s :: l) = s.dat ++ stOf l := by simp [stOf]
theorem setS_st (l : List Sec) (i v : Nat) : stOf (setS l i v) = (stOf l).set i v := by
  induction l generalizing i with
  | nil => simp [setS, stOf]
  | cons s l ih =>
    rw [setS, stOf_cons, List.set_append]
    split
    · rename_i h
      rw [if_pos (by simp [Sec.dat]; exact h), stOf_cons, Sec.put_dat _ _ _ h]
    · rename_i h
      rw [if_neg (by simp [Sec.dat]; omega), stOf_cons, ih]
      rfl
theorem setS_len (l : List Sec) (i v : Nat) : (setS l i v).length = l.length := by
  induction l generalizing i with
  | nil => rfl
  | cons s l ih =>
    rw [setS]
    split
    · rfl
    · simp [ih]
theorem setS_mem {l : List Sec} {i v : Nat} : ∀ x ∈ setS l i v, ∃ y ∈ l, x = y ∨ ∃ j, x = y.put j v := by
  induction l generalizing i with
  | nil => intro x hx; simp [setS] at hx
  | cons s l ih =>
    intro x hx
    rw [setS] at hx
    split at hx
    · rcases List.mem_cons.1 hx with rfl | hx
      · exact ⟨s, by simp, Or.inr ⟨_, rfl⟩⟩
      · exact ⟨x, by simp [hx], Or.inl rfl⟩
    · rcases List.mem_cons.1 hx with rfl | hx
      · exact ⟨x, by simp, Or.inl rfl⟩
      · obtain ⟨y, hy, h⟩ := ih x hx
        exact ⟨y, by simp [hy], h⟩
theorem setS_ok {l : List Sec} (i : Nat) {v : Nat} (h : ∀ s ∈ l, s.Ok) (hv : v < 256) : ∀ s ∈ setS l i v, s.Ok := by
  intro x hx
  obtain ⟨y, hy, rfl | ⟨j, rfl⟩⟩ := setS_mem x hx
  · exact h _ hy
  · exact Sec.put_ok (h _ hy) j hv
theorem setS_num {l : List Sec} {i v q : Nat} (h : ∀ s ∈ l, s.num = q) : ∀ s ∈ setS l i v, s.num = q := by
  intro x hx
  obtain ⟨y, hy, rfl | ⟨j, rfl⟩⟩ := setS_mem x hx
  · exact h _ hy
  · rw [Sec.put_num]; exact h _ hy
theorem setS_head (s : Sec) (l : List Sec) (i v : Nat) (h1 : i ≠ 1) (h2 : i ≠ 2) : ∃ s' l', setS (s :: l) i v = s' :: l' ∧ s'.num = s.num ∧ s'.f = s.f ∧ s'.g = s.g := by
  rw [setS]
  split
  · rename_i h
    refine ⟨_, _, rfl, Sec.put_num _ _ _, ?_, ?_⟩
    · unfold Sec.put
      by_cases c0 : i = 0
      · rw [if_pos c0]
      · rw [if_neg c0, if_neg h1, if_neg h2]
    · unfold Sec.put
      by_cases c0 : i = 0
      · rw [if_pos c0]
      · rw [if_neg c0, if_neg h1, if_neg h2]
  · exact ⟨_, _, rfl, rfl, rfl, rfl⟩
theorem xor_ne {v x : Nat} (h : x ≠ 0) : v ^^^ x ≠ v := by
  intro e
  have e2 : v ^^^ x = v ^^^ 0 := by rw [Nat.xor_zero]; exact e
  exact h (xor_right_inj e2)
theorem tail_flip {k q n m : Nat} {p : List Nat} (hk : k < 256) (hp : AllB p) (i x : Nat) (hx : x < 256) (h0 : x ≠ 0) (hi : i < p.length + 7 + m) :
    (tailM ((strmR k p ++ List.replicate m 0).set i ((strmR k p ++ List.replicate m 0).getD i 0 ^^^ x)) p.length q n).e = 9 ∨
    (tailM ((strmR k p ++ List.replicate m 0).set i ((strmR k p ++ List.replicate m 0).getD i 0 ^^^ x)) p.length q n).e = 3 := by
  have hS := updS_bd _ (body_lt hk hp)
  have hbl := body_len k p
  have hst : strmR k p ++ List.replicate m 0 = bodyR k p ++ (le (updS 0 (bodyR k p)) 4 ++ List.replicate m 0) := by unfold strmR; rw [List.append_assoc]
  rw [hst]
  generalize bodyR k p = b at *
  have e7 : ∀ a : List Nat, a.drop (7 + p.length) = (a.drop (3 + p.length)).drop 4 := fun a => by rw [List.drop_drop]; congr 1; omega
  have T : ∀ (b1 c : List Nat) (z : List Nat), b1.length = 3 + p.length → c.length = 4 → tailM (b1 ++ (c ++ z)) p.length q n = if ge c = updS 0 b1 then (if (b1 ++ (c ++ z)).getD 0 0 = 0 ∨ z.any (fun x => x != 0) = true then .err 3 else ⟨0, (b1 ++ (c ++ z)).getD 0 0, q, ((b1 ++ (c ++ z)).drop 3).take p.length, n⟩) else .err 9 := by
    intro b1 c z h1 h2
    unfold tailM
    rw [e7, List.drop_left' h1, List.take_left' (l₁ := b1) h1, List.take_left' (l₁ := c) h2, List.drop_left' (l₁ := c) h2]
  by_cases c1 : i < b.length
  · have e1 : (b ++ (le (updS 0 b) 4 ++ List.replicate m 0)).getD i 0 = b.getD i 0 := by
      rw [List.getD_eq_getElem?_getD, List.getD_eq_getElem?_getD, List.getElem?_append_left c1]
    rw [e1, List.set_append, if_pos c1, T _ _ _ (by rw [List.length_set]; omega) (le_len _ _), ge_le _ _ hS]
    rw [if_neg (fun h => sum_one b i x c1 hx h0 h.symm)]
    exact Or.inl rfl
  · have e1 : (b ++ (le (updS 0 b) 4 ++ List.replicate m 0)).getD i 0 = (le (updS 0 b) 4 ++ List.replicate m 0).getD (i - b.length) 0 := by
      rw [List.getD_eq_getElem?_getD, List.getD_eq_getElem?_getD, List.getElem?_append_right (by omega)]
    rw [e1, List.set_append, if_neg c1]
    generalize hj : i - b.length = j
    by_cases c2 : j < 4
    · have e2 : (le (updS 0 b) 4 ++ List.replicate m 0).getD j 0 = (le (updS 0 b) 4).getD j 0 := by
        rw [List.getD_eq_getElem?_getD, List.getD_eq_getElem?_getD, List.getElem?_append_left (by rw [le_len]; exact c2)]
      rw [e2, List.set_append, if_pos (by rw [le_len]; exact c2), T _ _ _ (by omega) (by rw [List.length_set, le_len])]
      rw [if_neg]
      · exact Or.inl rfl
      · intro h
        have hL := le_lt (updS 0 b) 4
        have hb' : AllB ((le (updS 0 b) 4).set j ((le (updS 0 b) 4).getD j 0 ^^^ x)) := by
          intro y hy
          rcases List.mem_or_eq_of_mem_set hy with hy | rfl
          · exact hL _ hy
          · exact Nat.xor_lt_two_pow (n := 8) (getD_lt hL _) hx
        have h3 := le_ge hb'
        rw [h, List.length_set, le_len] at h3
        have h4 := congrArg (fun l => l.getD j 0) h3
        rw [List.getD_eq_getElem?_getD (l := List.set _ _ _), List.getElem?_set_self (by rw [le_len]; exact c2)] at h4
        exact xor_ne h0 h4.symm
    · have e2 : (le (updS 0 b) 4 ++ List.replicate m 0).getD j 0 = 0 := by
        rw [List.getD_eq_getElem?_getD, List.getElem?_append_right (by rw [le_len]; omega), List.getElem?_replicate]
        split <;> rfl
      have c3 : j - 4 < m := by omega
      rw [e2, List.set_append, if_neg (by rw [le_len]; exact c2), T _ _ _ (by omega) (le_len _ _), le_len, Nat.zero_xor, ge_le _ _ hS, if_pos rfl, if_pos]
      · exact Or.inr rfl
      · refine Or.inr (List.any_eq_true.2 ⟨x, ?_, by simpa using h0⟩)
        refine List.mem_iff_getElem?.2 ⟨j - 4, ?_⟩
        rw [List.getElem?_set_self (by rw [List.length_replicate]; exact c3)]
/-- one changed byte, not one of the length, is detected -/
theorem dec_flip {k q : Nat} {p : List Nat} (i x : Nat) (hk : k < 256) (hq0 : 0 < q) (hq : q < 4294967296) (hp : AllB p) (hl : p.length ≤ 4096) (hx : x < 256) (h0 : x ≠ 0) (h1 : i ≠ 1) (h2 : i ≠ 2) (hi : i < 4 * szN p.length) :
    (decM (setS (encR k q p) i ((stOf (encR k q p)).getD i 0 ^^^ x))).e = 9 ∨ (decM (setS (encR k q p) i ((stOf (encR k q p)).getD i 0 ^^^ x))).e = 3 := by
  obtain ⟨s, l, e, g1, _, g3⟩ := enc_cons (k := k) p hq hl
  have hn := enc_num (k := k) p hq
  have hlen := enc_len k q p
  have hst := enc_st k q p
  generalize hv : (stOf (encR k q p)).getD i 0 ^^^ x = v
  obtain ⟨s', l', e', n', f', g'⟩ := setS_head s l i v h1 h2
  have hlen' := setS_len (encR k q p) i v
  have hn' := setS_num (i := i) (v := v) hn
  have hst' := setS_st (encR k q p) i v
  rw [hst] at hv hst'
  rw [e, e'] at hlen' hn' hst'
  rw [e] at hlen
  rw [e, e']
  have hB : BegOk s' l' := by
    refine ⟨by rw [n', g1]; omega, by rw [f', g', g3]; exact hl, by rw [f', g', g3]; omega, fun y hy => ?_⟩
    rw [hn' y (List.mem_of_mem_take hy), n', g1]
  rw [decM_ok hB, f', g', g3, List.take_of_length_le (by omega), hst', ← hv]
  have hz : p.length + 7 + (4 * szN p.length - (p.length + 7)) = 4 * szN p.length := by unfold szN; omega
  exact tail_flip hk hp i x hx h0 (by omega)
end Go.Proofs.Ytbiiahbhgjjhgaa
