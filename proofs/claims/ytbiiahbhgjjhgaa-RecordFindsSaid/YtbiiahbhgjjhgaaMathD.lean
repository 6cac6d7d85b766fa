/- Plain arithmetic of the sums: a change within four successive bytes is seen. No condition but 32-bit registers. -/
import Derived.Test.YtbiiahbhgjjhgaaMathB
namespace Go.Proofs.Ytbiiahbhgjjhgaa
theorem xor_right_inj {a b c : Nat} (h : a ^^^ b = a ^^^ c) : b = c := by rw [← xx a b, ← xx a c, h]
theorem xor_eq_zero {a b : Nat} (h : a ^^^ b = 0) : a = b := by
  have h2 : a ^^^ b = a ^^^ a := by rw [h, Nat.xor_self]
  exact (xor_right_inj h2).symm
theorem crc1_zero {r : Nat} (hr : r < 4294967296) (h : crc1 r = 0) : r = 0 := by
  unfold crc1 at h
  by_cases c : r % 2 = 1
  · rw [if_pos c] at h
    have := xor_eq_zero h
    omega
  · rw [if_neg c, Nat.xor_zero] at h
    omega
theorem crcN_zero {r : Nat} (hr : r < 4294967296) : ∀ k, crcN k r = 0 → r = 0
  | 0, h => h
  | k + 1, h => crcN_zero hr k (crc1_zero (crcN_lt hr k) h)
theorem crc8_inj {a b : Nat} (ha : a < 4294967296) (hb : b < 4294967296) (h : crc8 a = crc8 b) : a = b := by
  have h2 : crcN 8 (a ^^^ b) = 0 := by
    rw [crcN_xor]
    show crc8 a ^^^ crc8 b = 0
    rw [h, Nat.xor_self]
  exact xor_eq_zero (crcN_zero (Nat.xor_lt_two_pow (n := 32) ha hb) 8 h2)
theorem crc8_shift (a : Nat) : crc8 (a * 256) = a := crcN_shift 8 a
theorem updZ_nonzero {r : Nat} (hr : r < 4294967296) (h0 : r ≠ 0) : ∀ k, updZ k r ≠ 0
  | 0 => h0
  | k + 1 => by
    rw [updZ_succ]
    intro h
    unfold updB at h
    rw [Nat.xor_zero] at h
    exact updZ_nonzero hr h0 k (crcN_zero (updZ_lt hr k) 8 h)
/-- one more byte: if what stands behind it is small, what stood ahead of it was as small, shifted -/
theorem back {r y z : Nat} (hr : r < 4294967296) (hy : y < 256) (hz : z < 16777216) (h : updB r y = z) : r ^^^ y = z * 256 := by
  unfold updB at h
  rw [← crc8_shift z] at h
  exact crc8_inj (Nat.xor_lt_two_pow (n := 32) hr (by omega)) (by omega) h
theorem xor_low {q y : Nat} (hy : y < 256) : q * 256 ^^^ y = q * 256 + y := by
  have h := split8 (q * 256 + y)
  rw [show (q * 256 + y) / 256 = q by omega, show (q * 256 + y) % 256 = y by omega] at h
  exact h.symm
theorem four_nonzero {y0 y1 y2 y3 : Nat} (h0 : y0 < 256) (h1 : y1 < 256) (h2 : y2 < 256) (h3 : y3 < 256) (h : updL 0 [y0, y1, y2, y3] = 0) : y0 = 0 ∧ y1 = 0 ∧ y2 = 0 ∧ y3 = 0 := by
  have l1 : updB 0 y0 < 4294967296 := updB_lt (by omega) h0
  have l2 := updB_lt l1 h1
  have l3 := updB_lt l2 h2
  have e3 : updB (updB (updB (updB 0 y0) y1) y2) y3 = 0 := h
  have b3 := back l3 h3 (by omega) e3
  have b3' : updB (updB (updB 0 y0) y1) y2 = y3 := by
    have := xor_eq_zero (by simpa using b3)
    exact this
  have b2 := back l2 h2 (by omega) b3'
  have b2' : updB (updB 0 y0) y1 = y3 * 256 + y2 := by
    rw [← xor_low h2, ← b2, Nat.xor_assoc, Nat.xor_self, Nat.xor_zero]
  have b1 := back l1 h1 (by omega) b2'
  have b1' : updB 0 y0 = (y3 * 256 + y2) * 256 + y1 := by
    rw [← xor_low h1, ← b1, Nat.xor_assoc, Nat.xor_self, Nat.xor_zero]
  have b0 := back (by omega) h0 (by omega) b1'
  rw [Nat.zero_xor] at b0
  omega
theorem updL_xor2 (l m : List Nat) (hl : l.length = m.length) : ∀ a b : Nat, updL (a ^^^ b) (List.zipWith (· ^^^ ·) l m) = updL a l ^^^ updL b m := by
  induction l generalizing m with
  | nil =>
    intro a b
    cases m with
    | nil => rfl
    | cons y m => simp at hl
  | cons x l ih =>
    intro a b
    cases m with
    | nil => simp at hl
    | cons y m =>
      rw [List.zipWith_cons_cons, updL_cons, updL_cons, updL_cons, ← ih m (by simpa using hl)]
      congr 1
      unfold updB crc8
      rw [← crcN_xor]
      congr 1
      rw [Nat.xor_assoc, Nat.xor_assoc, xlc b]
theorem detects (l : List Nat) (i y0 y1 y2 y3 : Nat) (hi : i + 4 ≤ l.length) (h0 : y0 < 256) (h1 : y1 < 256) (h2 : y2 < 256) (h3 : y3 < 256) (hne : ¬ (y0 = 0 ∧ y1 = 0 ∧ y2 = 0 ∧ y3 = 0)) (m : List Nat)
    (hm : m = l.take i ++ (List.zipWith (· ^^^ ·) ((l.drop i).take 4) [y0, y1, y2, y3] ++ l.drop (i + 4))) : updS 0 l ≠ updS 0 m := by
  intro e
  unfold updS at e
  have e1 : updL (not32 0) l = updL (not32 0) m := by
    rw [← not32_not32 (updL (not32 0) l), e, not32_not32]
  have hd : l = l.take i ++ ((l.drop i).take 4 ++ l.drop (i + 4)) := by
    rw [← List.drop_drop, List.take_append_drop, List.take_append_drop]
  rw [hm] at e1
  conv at e1 => lhs; rw [hd]
  rw [updL_append, updL_append, updL_append, updL_append] at e1
  have hz := updL_xor2 ((l.drop i).take 4) [y0, y1, y2, y3] (by simp; omega) (updL (not32 0) (l.take i)) 0
  rw [Nat.xor_zero] at hz
  rw [hz, updL_xor] at e1
  have hd0 : updL 0 [y0, y1, y2, y3] ≠ 0 := fun h => hne (four_nonzero h0 h1 h2 h3 h)
  have hlt : updL 0 [y0, y1, y2, y3] < 4294967296 := updL_lt (by omega) (by
    intro x hx
    simp at hx
    rcases hx with rfl | rfl | rfl | rfl <;> assumption)
  have e2 : updL (updL (updL (not32 0) (l.take i)) ((l.drop i).take 4)) (l.drop (i + 4)) ^^^ 0 = updL (updL (updL (not32 0) (l.take i)) ((l.drop i).take 4)) (l.drop (i + 4)) ^^^ updZ (l.drop (i + 4)).length (updL 0 [y0, y1, y2, y3]) := by
    rw [Nat.xor_zero]
    exact e1
  exact updZ_nonzero hlt hd0 _ (xor_right_inj e2).symm
/-- l, the bytes from i on changed by the first k of ys -/
def pat (l : List Nat) (i : Nat) (ys : List Nat) (k : Nat) : List Nat := (List.range l.length).map fun j => if i ≤ j ∧ j < i + k then l.getD j 0 ^^^ ys.getD (j - i) 0 else l.getD j 0
theorem pat_len (l : List Nat) (i : Nat) (ys : List Nat) (k : Nat) : (pat l i ys k).length = l.length := by simp [pat]
theorem pat_zero (l : List Nat) (i : Nat) (ys : List Nat) : pat l i ys 0 = l := by
  unfold pat
  apply List.ext_getElem
  · simp
  · intro j h1 h2
    rw [List.getElem_map, List.getElem_range, if_neg (by omega), List.getD_eq_getElem?_getD, List.getElem?_eq_getElem h2]
    rfl
theorem pat_get (l : List Nat) (i : Nat) (ys : List Nat) (k : Nat) (h : i + k < l.length) : (pat l i ys k)[i + k]? = some (l.getD (i + k) 0) := by
  unfold pat
  rw [List.getElem?_map, List.getElem?_range h]
  simp
theorem pat_set (l : List Nat) (i : Nat) (ys : List Nat) (k : Nat) : (pat l i ys k).set (i + k) (l.getD (i + k) 0 ^^^ ys.getD k 0) = pat l i ys (k + 1) := by
  unfold pat
  apply List.ext_getElem
  · simp
  · intro j h1 h2
    rw [List.getElem_set, List.getElem_map, List.getElem_range, List.getElem_map, List.getElem_range]
    by_cases e : i + k = j
    · subst e
      rw [if_pos rfl, if_pos (by omega), show i + k - i = k by omega]
    · rw [if_neg e]
      by_cases c : i ≤ j ∧ j < i + k
      · rw [if_pos c, if_pos (by omega)]
      · rw [if_neg c, if_neg (by omega)]
theorem pat_at (l : List Nat) (i : Nat) (ys : List Nat) (k j : Nat) (h : j < (pat l i ys k).length) : (pat l i ys k)[j] = if i ≤ j ∧ j < i + k then l.getD j 0 ^^^ ys.getD (j - i) 0 else l.getD j 0 := by
  have hl : j < l.length := by rw [pat_len] at h; exact h
  rw [← Option.some_inj, ← List.getElem?_eq_getElem h]
  unfold pat
  rw [List.getElem?_map, List.getElem?_range hl]
  rfl
theorem pat_four (l : List Nat) (i : Nat) (y0 y1 y2 y3 : Nat) (hi : i + 4 ≤ l.length) :
    pat l i [y0, y1, y2, y3] 4 = l.take i ++ (List.zipWith (· ^^^ ·) ((l.drop i).take 4) [y0, y1, y2, y3] ++ l.drop (i + 4)) := by
  have hz : (List.zipWith (· ^^^ ·) ((l.drop i).take 4) [y0, y1, y2, y3]).length = 4 := by simp; omega
  apply List.ext_getElem
  · rw [pat_len, List.length_append, List.length_append, hz]
    simp
    omega
  · intro j h1 h2
    have hj : j < l.length := by rw [pat_len] at h1; exact h1
    have hg : l.getD j 0 = l[j] := by rw [List.getD_eq_getElem?_getD, List.getElem?_eq_getElem hj]; rfl
    rw [pat_at, hg]
    by_cases c1 : j < i
    · rw [if_neg (by omega), List.getElem_append_left (by simp; omega), List.getElem_take]
    · rw [List.getElem_append_right (by simp; omega)]
      have e1 : j - (l.take i).length = j - i := by simp; omega
      by_cases c2 : j < i + 4
      · rw [if_pos (by omega), List.getElem_append_left (by rw [hz, e1]; omega), List.getElem_zipWith]
        simp only [e1, List.getElem_take, List.getElem_drop, show i + (j - i) = j by omega]
        congr 1
        rw [List.getD_eq_getElem?_getD, List.getElem?_eq_getElem (by simp; omega)]
        rfl
      · rw [if_neg (by omega), List.getElem_append_right (by rw [hz, e1]; omega)]
        simp only [e1, hz, List.getElem_drop, show i + 4 + (j - i - 4) = j by omega]
end Go.Proofs.Ytbiiahbhgjjhgaa
