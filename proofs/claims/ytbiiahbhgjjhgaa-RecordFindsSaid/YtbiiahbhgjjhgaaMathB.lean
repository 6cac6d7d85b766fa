/- Plain arithmetic of the sums: they are affine; changes are seen. No condition but 32-bit registers. -/
import Derived.Test.YtbiiahbhgjjhgaaMath
namespace Go.Proofs.Ytbiiahbhgjjhgaa
theorem xx (m x : Nat) : m ^^^ (m ^^^ x) = x := by rw [← Nat.xor_assoc, Nat.xor_self, Nat.zero_xor]
theorem not32_def (x : Nat) : not32 x = 4294967295 ^^^ x := by unfold not32; rfl
theorem not32_not32 (x : Nat) : not32 (not32 x) = x := by
  rw [not32_def, not32_def]
  generalize 4294967295 = M
  exact xx M x
theorem self_not32 (t : Nat) : t = not32 0 ^^^ not32 t := by
  rw [not32_def, not32_def]
  generalize 4294967295 = M
  rw [Nat.xor_zero, xx]
theorem swap_not32 (z y : Nat) : z ^^^ not32 y = not32 (y ^^^ z) := by
  rw [not32_def, not32_def]
  generalize 4294967295 = M
  rw [xlc, Nat.xor_comm z y]
theorem updB_xor (a b x : Nat) : updB (a ^^^ b) x = updB a x ^^^ updB b 0 := by
  unfold updB crc8
  rw [Nat.xor_zero, ← crcN_xor]
  congr 1
  rw [Nat.xor_assoc, Nat.xor_comm b x, ← Nat.xor_assoc]
theorem updL_cons (r x : Nat) (l : List Nat) : updL r (x :: l) = updL (updB r x) l := rfl
theorem updZ_zero (r : Nat) : updZ 0 r = r := rfl
theorem updZ_cons (k r : Nat) : updZ (k + 1) r = updZ k (updB r 0) := rfl
theorem updL_xor (l : List Nat) : ∀ a b : Nat, updL (a ^^^ b) l = updL a l ^^^ updZ l.length b := by
  induction l with
  | nil => intro a b; rfl
  | cons x l ih =>
    intro a b
    rw [updL_cons, updL_cons, updB_xor, ih, List.length_cons, updZ_cons]
theorem updL_append (r : Nat) (l m : List Nat) : updL r (l ++ m) = updL (updL r l) m := by simp [updL]
theorem joins_update (l m : List Nat) : updS (updS 0 l) m = updS 0 (l ++ m) := by
  unfold updS
  rw [not32_not32, updL_append]
theorem joins_combine (l m : List Nat) : updZ m.length (updS 0 l) ^^^ updS 0 m = updS 0 (l ++ m) := by
  unfold updS
  rw [updL_append]
  generalize updL (not32 0) l = t
  conv => rhs; rw [self_not32 t, updL_xor]
  rw [swap_not32]
theorem updS_lt {s : Nat} (hs : s < 4294967296) {l : List Nat} (hl : ∀ x ∈ l, x < 256) : updS s l < 4294967296 :=
  not32_lt (updL_lt (not32_lt hs) hl)
end Go.Proofs.Ytbiiahbhgjjhgaa
