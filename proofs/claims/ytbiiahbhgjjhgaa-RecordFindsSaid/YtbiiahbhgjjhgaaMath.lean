/- The plain arithmetic of chapter 4: one step of the register, on naturals. No condition. -/
import Derived.WalkKit
import Derived.WalkLawsBesides
import Derived.Laws.BitsAllLaws
namespace Go.Proofs.Ytbiiahbhgjjhgaa
/-- one bit through the register -/
def crc1 (r : Nat) : Nat := (r / 2) ^^^ (if r % 2 = 1 then 2197175160 else 0)
def crcN : Nat → Nat → Nat
  | 0, r => r
  | k + 1, r => crc1 (crcN k r)
def crc8 (r : Nat) : Nat := crcN 8 r
theorem crc1_lt {r : Nat} (h : r < 4294967296) : crc1 r < 4294967296 := by
  unfold crc1
  refine Nat.xor_lt_two_pow (n := 32) (by omega) ?_
  split <;> omega
theorem crcN_lt {r : Nat} (h : r < 4294967296) : ∀ k, crcN k r < 4294967296
  | 0 => h
  | k + 1 => crc1_lt (crcN_lt h k)
theorem crc1_odd {y : Nat} (hy : y < 4294967296) (h : ((y : Int) % 2 == 1) = true) : bits .xor .u32 ((y : Int) / 2) 2197175160 = (crc1 y : Nat) := by
  have h1 : (y : Int) % 2 = 1 := by simpa using h
  have h2 : y % 2 = 1 := by omega
  have e := u32_xor_nat (y / 2) 2197175160 (by omega) (by omega)
  unfold crc1
  rw [if_pos h2]
  exact e
theorem crc1_even {y : Nat} (h : ((y : Int) % 2 == 1) = false) : ((y : Int) / 2) = (crc1 y : Nat) := by
  have h1 : ¬ (y : Int) % 2 = 1 := by simpa using h
  have h2 : ¬ y % 2 = 1 := by omega
  unfold crc1
  rw [if_neg h2]
  simp
theorem crc1_go {y : Nat} (hy : y < 4294967296) : bits .xor .u32 ((y : Int) / 2) (2197175160 * bits .and .u32 (y : Int) 1 % 4294967296) = (crc1 y : Nat) := by
  have e0 : bits .and .u32 (y : Int) 1 = ((y % 2 : Nat) : Int) := by
    have e := u32_and_nat y 1 hy (by omega)
    rw [show y &&& 1 = y % 2 from Nat.and_one_is_mod y] at e
    exact e
  rw [e0]
  by_cases h : y % 2 = 1
  · rw [← crc1_odd hy (by simp; omega), h]; rfl
  · have h0 : y % 2 = 0 := by omega
    have e := u32_xor_nat (y / 2) 0 (by omega) (by omega)
    rw [h0]
    refine Eq.trans e ?_
    rw [← crc1_even (y := y) (by simp; omega)]
    simp
/-- a table of 256 numbers, as cells -/
def Tab (f : Nat → Nat) : Array Value := ((List.range 256).map fun i => Value.int .u32 (f i)).toArray
theorem Tab_size (f : Nat → Nat) : (Tab f).size = 256 := by simp [Tab]
theorem Tab_get (f : Nat → Nat) (k : Nat) (h : k < 256) : (Tab f)[k]? = some (.int .u32 (f k)) := by simp [Tab, h]
theorem Tab_set (f : Nat → Nat) (k v : Nat) : (Tab f).setIfInBounds k (.int .u32 v) = Tab fun i => if i = k then v else f i := by
  unfold Tab
  rw [List.setIfInBounds_toArray]
  congr 1
  apply List.ext_getElem
  · simp
  · intro i h1 h2
    simp only [List.getElem_set, List.getElem_map, List.getElem_range]
    by_cases e : k = i
    · subst e; simp
    · rw [if_neg e, if_neg (fun x => e x.symm)]
/-- the register behind one byte, and the sum behind bytes -/
def updB (r x : Nat) : Nat := crc8 (r ^^^ x)
def not32 (x : Nat) : Nat := 4294967295 ^^^ x
theorem not32_lt {x : Nat} (h : x < 4294967296) : not32 x < 4294967296 := Nat.xor_lt_two_pow (n := 32) (by omega) h
theorem updB_lt {r x : Nat} (h : r < 4294967296) (hx : x < 256) : updB r x < 4294967296 := crcN_lt (Nat.xor_lt_two_pow (n := 32) h (by omega)) 8
theorem xlc (a b c : Nat) : a ^^^ (b ^^^ c) = b ^^^ (a ^^^ c) := by rw [← Nat.xor_assoc, Nat.xor_comm a b, Nat.xor_assoc]
theorem xcan (p d : Nat) : p ^^^ (d ^^^ p) = d := by rw [xlc, Nat.xor_self, Nat.xor_zero]
theorem crc1_xor (a b : Nat) : crc1 (a ^^^ b) = crc1 a ^^^ crc1 b := by
  unfold crc1
  have hd : (a ^^^ b) / 2 = a / 2 ^^^ b / 2 := by
    have := Nat.xor_div_two_pow (a := a) (b := b) (n := 1)
    simpa using this
  have hm : (a ^^^ b) % 2 = (a % 2) ^^^ (b % 2) := by
    have := Nat.xor_mod_two_pow (a := a) (b := b) (n := 1)
    simpa using this
  rw [hd, hm]
  generalize a / 2 = c
  generalize b / 2 = d
  have ha : a % 2 = 0 ∨ a % 2 = 1 := by omega
  have hb : b % 2 = 0 ∨ b % 2 = 1 := by omega
  rcases ha with ha | ha <;> rcases hb with hb | hb <;> rw [ha, hb] <;> simp [Nat.xor_assoc]
  · rw [Nat.xor_comm d]
  · exact congrArg _ (xcan _ _).symm
theorem crcN_xor (k a b : Nat) : crcN k (a ^^^ b) = crcN k a ^^^ crcN k b := by
  induction k with
  | zero => rfl
  | succ k ih => show crc1 _ = crc1 _ ^^^ crc1 _; rw [ih, crc1_xor]
theorem crcN_shift (k a : Nat) : crcN k (a * 2 ^ k) = a := by
  induction k generalizing a with
  | zero => simp [crcN]
  | succ k ih =>
    show crc1 (crcN k (a * 2 ^ (k + 1))) = a
    rw [Nat.pow_succ, Nat.mul_comm (2 ^ k) 2, ← Nat.mul_assoc, ih]
    unfold crc1
    rw [if_neg (by omega)]
    simp
theorem split8 (r : Nat) : r = (r / 256 * 2 ^ 8) ^^^ (r % 256) := by
  have h : (r / 256 * 2 ^ 8) ^^^ (r % 256) = r / 256 * 2 ^ 8 + r % 256 := by
    have h1 : r % 256 < 2 ^ 8 := by omega
    apply Nat.eq_of_testBit_eq
    intro i
    rw [Nat.testBit_xor, Nat.mul_comm, Nat.testBit_two_pow_mul_add _ h1, Nat.testBit_two_pow_mul]
    by_cases hi : i < 8
    · simp [hi, show ¬ 8 ≤ i by omega]
    · simp only [hi, if_false, show 8 ≤ i by omega, decide_true, Bool.true_and]
      rw [Nat.testBit_lt_two_pow (x := r % 256) (i := i) (Nat.lt_of_lt_of_le h1 (Nat.pow_le_pow_right (by omega) (by omega)))]
      simp
  rw [h]
  omega
theorem upd_go (r x : Nat) : r / 256 ^^^ crc8 ((r % 256) ^^^ x) = updB r x := by
  unfold updB crc8
  conv => rhs; rw [split8 r, Nat.xor_assoc, crcN_xor, crcN_shift]
theorem upd_go0 (r : Nat) : r / 256 ^^^ crc8 (r % 256) = updB r 0 := by
  have := upd_go r 0
  simpa using this
def updL (r : Nat) (l : List Nat) : Nat := l.foldl updB r
theorem updL_snoc (r : Nat) (l : List Nat) (x : Nat) : updL r (l ++ [x]) = updB (updL r l) x := by simp [updL]
theorem updL_lt {r : Nat} (hr : r < 4294967296) {l : List Nat} (hl : ∀ x ∈ l, x < 256) : updL r l < 4294967296 := by
  induction l generalizing r with
  | nil => exact hr
  | cons x l ih => exact ih (updB_lt hr (hl x (by simp))) (fun y hy => hl y (by simp [hy]))
def updS (s : Nat) (l : List Nat) : Nat := not32 (updL (not32 s) l)
def updZ (k r : Nat) : Nat := updL r (List.replicate k 0)
theorem updZ_succ (k r : Nat) : updZ (k + 1) r = updB (updZ k r) 0 := by
  unfold updZ
  rw [List.replicate_succ', updL_snoc]
theorem updZ_lt {r : Nat} (hr : r < 4294967296) (k : Nat) : updZ k r < 4294967296 :=
  updL_lt hr (fun x hx => by rw [List.eq_of_mem_replicate hx]; omega)
theorem not32_go {r : Nat} (hr : r < 4294967296) : bits .xor .u32 4294967295 (r : Int) = (not32 r : Nat) := u32_xor_nat 4294967295 r (by omega) hr
end Go.Proofs.Ytbiiahbhgjjhgaa
