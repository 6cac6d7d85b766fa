/- The plain model of chapter 13: numbers in bytes, sectors, records, what Encode and Decode compute. No condition. -/
import Derived.Test.YtbiiahbhgjjhgaaMathD
namespace Go.Proofs.Ytbiiahbhgjjhgaa
/-- a sector -/
structure Sec where
  a : Nat
  b : Nat
  c : Nat
  d : Nat
  e : Nat
  f : Nat
  g : Nat
  h : Nat
def Sec.Ok (s : Sec) : Prop := s.a < 256 ∧ s.b < 256 ∧ s.c < 256 ∧ s.d < 256 ∧ s.e < 256 ∧ s.f < 256 ∧ s.g < 256 ∧ s.h < 256
def Sec.num (s : Sec) : Nat := s.a + 256 * s.b + 65536 * s.c + 16777216 * s.d
def Sec.dat (s : Sec) : List Nat := [s.e, s.f, s.g, s.h]
def AllB (l : List Nat) : Prop := ∀ x ∈ l, x < 256
/-- a number in k bytes -/
def le : Nat → Nat → List Nat
  | _, 0 => []
  | n, k + 1 => n % 256 :: le (n / 256) k
/-- the number in bytes -/
def ge : List Nat → Nat
  | [] => 0
  | x :: l => x + 256 * ge l
theorem le_len (n k : Nat) : (le n k).length = k := by
  induction k generalizing n with
  | zero => rfl
  | succ k ih => simp [le, ih]
theorem le_lt (n k : Nat) : AllB (le n k) := by
  induction k generalizing n with
  | zero => intro x hx; simp [le] at hx
  | succ k ih =>
    intro x hx
    simp only [le, List.mem_cons] at hx
    rcases hx with rfl | hx
    · omega
    · exact ih _ x hx
theorem ge_le (n k : Nat) (h : n < 256 ^ k) : ge (le n k) = n := by
  induction k generalizing n with
  | zero => simp at h; subst h; rfl
  | succ k ih =>
    rw [le, ge, ih (n / 256) (by rw [Nat.pow_succ] at h; exact (Nat.div_lt_iff_lt_mul (by omega)).2 h)]
    omega
theorem le_succ (n k : Nat) : le n (k + 1) = le n k ++ [n / 256 ^ k % 256] := by
  induction k generalizing n with
  | zero => simp [le]
  | succ k ih =>
    rw [le, ih, le, List.cons_append, Nat.div_div_eq_div_mul, Nat.pow_succ, Nat.mul_comm (256 ^ k)]
theorem ge_lt {l : List Nat} (h : AllB l) : ge l < 256 ^ l.length := by
  induction l with
  | nil => simp [ge]
  | cons x l ih =>
    have h1 := h x (by simp)
    have h2 := ih (fun y hy => h y (by simp [hy]))
    rw [ge, List.length_cons, Nat.pow_succ]
    have h3 : 256 * (ge l + 1) ≤ 256 * 256 ^ l.length := Nat.mul_le_mul_left _ h2
    omega
theorem ge_snoc (l : List Nat) (x : Nat) : ge (l ++ [x]) = ge l + 256 ^ l.length * x := by
  induction l with
  | nil => simp [ge]
  | cons y l ih => rw [List.cons_append, ge, ih, ge, List.length_cons, Nat.pow_succ, Nat.mul_add, ← Nat.mul_assoc, Nat.mul_comm 256 (256 ^ l.length)]; omega
theorem le2 (n : Nat) : le n 2 = [n % 256, n / 256 % 256] := rfl
theorem le4 (n : Nat) : le n 4 = [n % 256, n / 256 % 256, n / 256 / 256 % 256, n / 256 / 256 / 256 % 256] := rfl
theorem ge2 (x y : Nat) : ge [x, y] = x + 256 * y := rfl
theorem Sec.num_lt {s : Sec} (h : s.Ok) : s.num < 4294967296 := by
  obtain ⟨h1, h2, h3, h4, _⟩ := h
  unfold Sec.num
  omega
/-- the number of sectors -/
def szN (n : Nat) : Nat := (n + 10) / 4
/-- what the sum is of -/
def bodyR (k : Nat) (p : List Nat) : List Nat := k :: (le p.length 2 ++ p)
def strmR (k : Nat) (p : List Nat) : List Nat := bodyR k p ++ le (updS 0 (bodyR k p)) 4
/-- one sector: the number, four bytes of the stream -/
def secR (q : Nat) (st : List Nat) (i : Nat) : Sec :=
  ⟨q % 256, q / 256 % 256, q / 256 / 256 % 256, q / 256 / 256 / 256 % 256, st.getD (4 * i) 0, st.getD (4 * i + 1) 0, st.getD (4 * i + 2) 0, st.getD (4 * i + 3) 0⟩
def secsR (q : Nat) (st : List Nat) (n : Nat) : List Sec := (List.range n).map (secR q st)
/-- the sectors of a record -/
def encR (k q : Nat) (p : List Nat) : List Sec := secsR q (strmR k p) (szN p.length)
theorem strm_len (k : Nat) (p : List Nat) : (strmR k p).length = p.length + 7 := by
  simp [strmR, bodyR, le_len]; omega
theorem body_len (k : Nat) (p : List Nat) : (bodyR k p).length = p.length + 3 := by
  simp [bodyR, le_len]; omega
theorem body_lt {k : Nat} {p : List Nat} (hk : k < 256) (hp : AllB p) : AllB (bodyR k p) := by
  intro x hx
  simp only [bodyR, List.mem_cons, List.mem_append] at hx
  rcases hx with rfl | hx | hx
  · exact hk
  · exact le_lt _ _ x hx
  · exact hp x hx
theorem strm_lt {k : Nat} {p : List Nat} (hk : k < 256) (hp : AllB p) : AllB (strmR k p) := by
  intro x hx
  rcases List.mem_append.1 hx with hx | hx
  · exact body_lt hk hp x hx
  · exact le_lt _ _ x hx
theorem getD_lt {l : List Nat} (h : AllB l) (i : Nat) : l.getD i 0 < 256 := by
  rcases Nat.lt_or_ge i l.length with hi | hi
  · rw [List.getD_eq_getElem?_getD, List.getElem?_eq_getElem hi]; exact h _ (List.getElem_mem _)
  · rw [List.getD_eq_getElem?_getD, List.getElem?_eq_none hi]; simp
theorem secR_ok (q : Nat) {st : List Nat} (h : AllB st) (i : Nat) : (secR q st i).Ok :=
  ⟨Nat.mod_lt _ (by omega), Nat.mod_lt _ (by omega), Nat.mod_lt _ (by omega), Nat.mod_lt _ (by omega), getD_lt h _, getD_lt h _, getD_lt h _, getD_lt h _⟩
theorem secR_num {q : Nat} (h : q < 4294967296) (st : List Nat) (i : Nat) : (secR q st i).num = q := by
  simp only [secR, Sec.num]
  omega
theorem secs_len (q : Nat) (st : List Nat) (n : Nat) : (secsR q st n).length = n := by simp [secsR]
/-- the stream of sectors -/
def stOf (l : List Sec) : List Nat := l.flatMap Sec.dat
theorem stOf_len (l : List Sec) : (stOf l).length = 4 * l.length := by
  induction l with
  | nil => rfl
  | cons s l ih =>
    have : stOf (s :: l) = s.dat ++ stOf l := by simp [stOf]
    rw [this, List.length_append, ih, List.length_cons]
    simp [Sec.dat]
    omega
theorem stOf_append (l m : List Sec) : stOf (l ++ m) = stOf l ++ stOf m := by simp [stOf]
theorem stOf_secs (q : Nat) (st : List Nat) (n : Nat) : stOf (secsR q st n) = (List.range (4 * n)).map fun i => st.getD i 0 := by
  induction n with
  | zero => rfl
  | succ n ih =>
    have h1 : secsR q st (n + 1) = secsR q st n ++ [secR q st n] := by simp [secsR, List.range_succ]
    rw [h1, stOf_append, ih, show 4 * (n + 1) = 4 * n + 1 + 1 + 1 + 1 by omega]
    simp only [List.range_succ, List.map_append, List.map_cons, List.map_nil, List.append_assoc, List.cons_append, List.nil_append]
    rfl
theorem getD_pad (st : List Nat) (m : Nat) (h : st.length ≤ m) : ((List.range m).map fun i => st.getD i 0) = st ++ List.replicate (m - st.length) 0 := by
  apply List.ext_getElem
  · simp; omega
  · intro i h1 h2
    rw [List.getElem_map, List.getElem_range]
    rcases Nat.lt_or_ge i st.length with hi | hi
    · rw [List.getElem_append_left hi, List.getD_eq_getElem?_getD, List.getElem?_eq_getElem hi]; rfl
    · rw [List.getElem_append_right hi, List.getElem_replicate, List.getD_eq_getElem?_getD, List.getElem?_eq_none hi]; rfl
theorem stOf_secs_pad (q : Nat) (st : List Nat) (n : Nat) (h : st.length ≤ 4 * n) : stOf (secsR q st n) = st ++ List.replicate (4 * n - st.length) 0 := by
  rw [stOf_secs, getD_pad _ _ h]
/-- what Decode answers -/
structure Dec where
  e : Nat
  k : Nat
  q : Nat
  p : List Nat
  n : Nat
def Dec.err (e : Nat) : Dec := ⟨e, 0, 0, [], 0⟩
/-- what is left to be told of the stream -/
def tailM (st : List Nat) (len q n : Nat) : Dec :=
  if ge ((st.drop (3 + len)).take 4) = updS 0 (st.take (3 + len)) then
    if st.getD 0 0 = 0 ∨ (st.drop (7 + len)).any (fun x => x != 0) = true then .err 3
    else ⟨0, st.getD 0 0, q, (st.drop 3).take len, n⟩
  else .err 9
def decM : List Sec → Dec
  | [] => .err 10
  | s :: l =>
    if s.num = 0 then .err 7
    else if 4096 < s.f + 256 * s.g then .err 5
    else if (s :: l).length < szN (s.f + 256 * s.g) then .err 10
    else if ((s :: l).take (szN (s.f + 256 * s.g))).any (fun x => x.num != s.num) = true then .err 10
    else tailM (stOf ((s :: l).take (szN (s.f + 256 * s.g)))) (s.f + 256 * s.g) s.num (szN (s.f + 256 * s.g))
/-- the error with which Decode stops ahead of the stream (0: none) -/
def begE : List Sec → Nat
  | [] => 10
  | s :: l =>
    if s.num = 0 then 7
    else if 4096 < s.f + 256 * s.g then 5
    else if (s :: l).length < szN (s.f + 256 * s.g) then 10
    else if ((s :: l).take (szN (s.f + 256 * s.g))).any (fun x => x.num != s.num) = true then 10
    else 0
theorem decM_err {l : List Sec} (h : begE l ≠ 0) : decM l = .err (begE l) := by
  cases l with
  | nil => rfl
  | cons s l =>
    simp only [begE, decM] at h ⊢
    by_cases h1 : s.num = 0
    · rw [if_pos h1, if_pos h1]
    · rw [if_neg h1] at h ⊢
      rw [if_neg h1]
      by_cases h2 : 4096 < s.f + 256 * s.g
      · rw [if_pos h2, if_pos h2]
      · rw [if_neg h2] at h ⊢
        rw [if_neg h2]
        by_cases h3 : (s :: l).length < szN (s.f + 256 * s.g)
        · rw [if_pos h3, if_pos h3]
        · rw [if_neg h3] at h ⊢
          rw [if_neg h3]
          by_cases h4 : ((s :: l).take (szN (s.f + 256 * s.g))).any (fun x => x.num != s.num) = true
          · rw [if_pos h4, if_pos h4]
          · rw [if_neg h4] at h
            exact absurd rfl h
/-- what holds of sectors that begin with a whole record's numbers -/
structure BegOk (s : Sec) (l : List Sec) : Prop where
  num : s.num ≠ 0
  len : s.f + 256 * s.g ≤ 4096
  all : szN (s.f + 256 * s.g) ≤ (s :: l).length
  same : ∀ x ∈ (s :: l).take (szN (s.f + 256 * s.g)), x.num = s.num
theorem begE_zero {s : Sec} {l : List Sec} (h : begE (s :: l) = 0) : BegOk s l := by
  simp only [begE] at h
  by_cases h1 : s.num = 0
  · rw [if_pos h1] at h; omega
  · rw [if_neg h1] at h
    by_cases h2 : 4096 < s.f + 256 * s.g
    · rw [if_pos h2] at h; omega
    · rw [if_neg h2] at h
      by_cases h3 : (s :: l).length < szN (s.f + 256 * s.g)
      · rw [if_pos h3] at h; omega
      · rw [if_neg h3] at h
        by_cases h4 : ((s :: l).take (szN (s.f + 256 * s.g))).any (fun x => x.num != s.num) = true
        · rw [if_pos h4] at h; omega
        · refine ⟨h1, by omega, by omega, fun x hx => ?_⟩
          by_cases h5 : x.num = s.num
          · exact h5
          · exact absurd (List.any_eq_true.2 ⟨x, hx, by simpa using h5⟩) h4
theorem begOk_zero {s : Sec} {l : List Sec} (h : BegOk s l) : begE (s :: l) = 0 := by
  simp only [begE]
  rw [if_neg h.num, if_neg (by have := h.len; omega), if_neg (by have := h.all; omega), if_neg]
  intro h4
  obtain ⟨x, hx, hne⟩ := List.any_eq_true.1 h4
  simp [h.same x hx] at hne
theorem decM_ok {s : Sec} {l : List Sec} (h : BegOk s l) : decM (s :: l) = tailM (stOf ((s :: l).take (szN (s.f + 256 * s.g)))) (s.f + 256 * s.g) s.num (szN (s.f + 256 * s.g)) := by
  simp only [decM]
  rw [if_neg h.num, if_neg (by have := h.len; omega), if_neg (by have := h.all; omega), if_neg]
  intro h4
  obtain ⟨x, hx, hne⟩ := List.any_eq_true.1 h4
  simp [h.same x hx] at hne
theorem enc_len (k q : Nat) (p : List Nat) : (encR k q p).length = szN p.length := secs_len _ _ _
theorem enc_ok {k : Nat} (q : Nat) {p : List Nat} (hk : k < 256) (hp : AllB p) : ∀ s ∈ encR k q p, s.Ok := by
  intro s hs
  obtain ⟨i, _, rfl⟩ := List.mem_map.1 hs
  exact secR_ok _ (strm_lt hk hp) _
theorem enc_num {k q : Nat} (p : List Nat) (hq : q < 4294967296) : ∀ s ∈ encR k q p, s.num = q := by
  intro s hs
  obtain ⟨i, _, rfl⟩ := List.mem_map.1 hs
  exact secR_num hq _ _
theorem enc_st (k q : Nat) (p : List Nat) : stOf (encR k q p) = strmR k p ++ List.replicate (4 * szN p.length - (p.length + 7)) 0 := by
  rw [encR, stOf_secs_pad _ _ _ (by rw [strm_len]; unfold szN; omega), strm_len]
theorem szN_pos (n : Nat) : 2 ≤ szN n := by unfold szN; omega
theorem strm_head (k : Nat) (p : List Nat) : ∃ x r, strmR k p = k :: p.length % 256 :: p.length / 256 % 256 :: x :: r := by
  have h := strm_len k p
  have e : strmR k p = k :: p.length % 256 :: p.length / 256 % 256 :: (p ++ le (updS 0 (bodyR k p)) 4) := by simp [strmR, bodyR, le]
  cases hr : p ++ le (updS 0 (bodyR k p)) 4 with
  | nil => rw [e, hr] at h; simp at h
  | cons x r => exact ⟨x, r, by rw [e, hr]⟩
theorem enc_cons {k q : Nat} (p : List Nat) (hq : q < 4294967296) (hp : p.length ≤ 4096) : ∃ s l, encR k q p = s :: l ∧ s.num = q ∧ s.e = k ∧ s.f + 256 * s.g = p.length := by
  obtain ⟨n, hn⟩ : ∃ n, szN p.length = n + 1 := ⟨szN p.length - 1, by have := szN_pos p.length; omega⟩
  obtain ⟨x, r, hs⟩ := strm_head k p
  refine ⟨secR q (strmR k p) 0, (List.map Nat.succ (List.range n)).map (secR q (strmR k p)), ?_, secR_num hq _ _, ?_, ?_⟩
  · unfold encR secsR
    rw [hn, List.range_succ_eq_map, List.map_cons]
  · simp [secR, hs]
  · simp [secR, hs]
    omega
theorem updS_bd (l : List Nat) (h : AllB l) : updS 0 l < 4294967296 := updS_lt (by omega) h
/-- what Decode makes of a stream of a record -/
theorem tail_enc {k q n : Nat} {p : List Nat} (m : Nat) (hk0 : 0 < k) (hk : k < 256) (hp : AllB p) :
    tailM (strmR k p ++ List.replicate m 0) p.length q n = ⟨0, k, q, p, n⟩ := by
  have hb : (strmR k p ++ List.replicate m 0).take (3 + p.length) = bodyR k p := by
    unfold strmR
    rw [List.append_assoc, List.take_left' (by rw [body_len]; omega)]
  have hd : (strmR k p ++ List.replicate m 0).drop (3 + p.length) = le (updS 0 (bodyR k p)) 4 ++ List.replicate m 0 := by
    unfold strmR
    rw [List.append_assoc, List.drop_left' (by rw [body_len]; omega)]
  have hd7 : (strmR k p ++ List.replicate m 0).drop (7 + p.length) = List.replicate m 0 := by
    rw [List.drop_left' (by rw [strm_len]; omega)]
  have h3 : ((strmR k p ++ List.replicate m 0).drop 3).take p.length = p := by
    have e : strmR k p ++ List.replicate m 0 = [k, p.length % 256, p.length / 256 % 256] ++ (p ++ (le (updS 0 (bodyR k p)) 4 ++ List.replicate m 0)) := by simp [strmR, bodyR, le]
    rw [e, List.drop_left' (l₁ := [k, p.length % 256, p.length / 256 % 256]) (by rfl), List.take_left' rfl]
  have h0 : (strmR k p ++ List.replicate m 0).getD 0 0 = k := by
    obtain ⟨x, r, hs⟩ := strm_head k p
    simp [hs]
  unfold tailM
  rw [hb, hd, hd7, h3, h0, List.take_left' (le_len _ _), ge_le _ _ (updS_bd _ (body_lt hk hp)), if_pos rfl, if_neg]
  rintro (h | h)
  · omega
  · simp at h
/-- Decode of what begins with the sectors of a record -/
theorem dec_enc {k q : Nat} {p : List Nat} (more : List Sec) (hk0 : 0 < k) (hk : k < 256) (hq0 : 0 < q) (hq : q < 4294967296) (hp : AllB p) (hl : p.length ≤ 4096) :
    decM (encR k q p ++ more) = ⟨0, k, q, p, szN p.length⟩ := by
  obtain ⟨s, l, e, h1, _, h3⟩ := enc_cons (k := k) p hq hl
  have ht : (encR k q p ++ more).take (szN p.length) = encR k q p := List.take_left' (enc_len _ _ _)
  have hlen : (encR k q p ++ more).length = szN p.length + more.length := by rw [List.length_append, enc_len]
  have hst := enc_st k q p
  have hn := enc_num (k := k) p hq
  have e' : encR k q p ++ more = s :: (l ++ more) := by rw [e]; rfl
  rw [e'] at ht hlen ⊢
  simp only [decM]
  rw [h3, ht, hlen, hst, h1, if_neg (by omega), if_neg (by omega), if_neg (by omega), if_neg, tail_enc _ hk0 hk hp]
  intro h
  obtain ⟨x, hx, hne⟩ := List.any_eq_true.1 h
  simp [hn x hx] at hne
/-- Decode of the beginning of the sectors of a record -/
theorem dec_torn {k q : Nat} {p : List Nat} (c : Nat) (hq0 : 0 < q) (hq : q < 4294967296) (hl : p.length ≤ 4096) (hc : c < szN p.length) :
    decM ((encR k q p).take c) = .err 10 := by
  obtain ⟨s, l, e, h1, _, h3⟩ := enc_cons (k := k) p hq hl
  have hle := enc_len k q p
  rw [e] at hle ⊢
  cases c with
  | zero => rfl
  | succ c =>
    rw [List.take_succ_cons]
    simp only [decM]
    rw [h3, h1, if_neg (by omega), if_neg (by omega), if_pos]
    rw [List.length_cons, List.length_take]
    omega
end Go.Proofs.Ytbiiahbhgjjhgaa
