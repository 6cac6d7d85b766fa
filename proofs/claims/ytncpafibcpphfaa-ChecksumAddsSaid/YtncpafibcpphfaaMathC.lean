/- Plain arithmetic of the digest: a change of one byte changes it. No condition but 64-bit registers. -/
import Derived.Test.YtncpafibcpphfaaWf
namespace Go.Proofs.Ytncpafibcpphfaa
theorem mul_inj_mod {M p q a b : Nat} (hq : p * q % M = 1) (h : a * p % M = b * p % M) (ha : a < M) (hb : b < M) : a = b := by
  have key : ∀ c : Nat, c < M → c * p % M * q % M = c := by
    intro c hc
    rw [Nat.mod_mul_mod, Nat.mul_assoc, Nat.mul_mod, hq, Nat.mul_one, Nat.mod_mod, Nat.mod_eq_of_lt hc]
  rw [← key a ha, ← key b hb, h]
theorem xor_inj_left {a b c : Nat} (h : a ^^^ b = a ^^^ c) : b = c := by
  have := congrArg (a ^^^ ·) h
  simpa [← Nat.xor_assoc] using this
theorem fnv1_inj_left {h k x : Nat} (hh : h < 18446744073709551616) (hk : k < 18446744073709551616) (hx : x < 256) (e : fnv1 h x = fnv1 k x) : h = k := by
  unfold fnv1 at e
  have e2 := mul_inj_mod (q := 14886173955864302971) (by decide +kernel) e (Nat.xor_lt_two_pow (n := 64) hh (by omega)) (Nat.xor_lt_two_pow (n := 64) hk (by omega))
  rw [Nat.xor_comm h, Nat.xor_comm k] at e2
  exact xor_inj_left e2
theorem fnv1_inj_right {h x y : Nat} (hh : h < 18446744073709551616) (hx : x < 256) (hy : y < 256) (e : fnv1 h x = fnv1 h y) : x = y := by
  unfold fnv1 at e
  have e2 := mul_inj_mod (q := 14886173955864302971) (by decide +kernel) e (Nat.xor_lt_two_pow (n := 64) hh (by omega)) (Nat.xor_lt_two_pow (n := 64) hh (by omega))
  exact xor_inj_left e2
theorem fnvL_inj {h k : Nat} (hh : h < 18446744073709551616) (hk : k < 18446744073709551616) (l : List B8) (e : fnvL h l = fnvL k l) : h = k := by
  induction l generalizing h k with
  | nil => exact e
  | cons x l ih =>
    rw [fnvL_cons, fnvL_cons] at e
    exact fnv1_inj_left hh hk x.2 (ih (fnv1_lt _ _) (fnv1_lt _ _) e)
theorem fnvEnd_inj {h k : Nat} (hh : h < 18446744073709551616) (hk : k < 18446744073709551616) (e : fnvEnd h = fnvEnd k) : h = k := by
  unfold fnvEnd at e
  have hd : ∀ z : Nat, z < 18446744073709551616 → (z ^^^ z / 4294967296) / 4294967296 = z / 4294967296 := by
    intro z hz
    have := Nat.xor_div_two_pow (a := z) (b := z / 4294967296) (n := 32)
    rw [show (2 : Nat) ^ 32 = 4294967296 from rfl] at this
    rw [this, Nat.div_eq_of_lt (a := z / 4294967296) (by omega), Nat.xor_zero]
  have h1 : h / 4294967296 = k / 4294967296 := by rw [← hd h hh, ← hd k hk, e]
  rw [h1, Nat.xor_comm h, Nat.xor_comm k] at e
  exact xor_inj_left e
theorem dig_set_ne (l : List B8) (i : Nat) (hi : i < l.length) (y : B8) (hy : y ≠ l[i]) : dig l ≠ dig (l.set i y) := by
  intro e
  have h0 : fnv0 < 18446744073709551616 := by unfold fnv0; omega
  have e1 := fnvEnd_inj (fnvL_lt h0 _) (fnvL_lt h0 _) e
  have hl : l = l.take i ++ l[i] :: l.drop (i + 1) := by simp
  have hs : l.set i y = l.take i ++ y :: l.drop (i + 1) := List.set_eq_take_append_cons_drop.trans (by rw [if_pos hi])
  have happ : ∀ (h : Nat) (a b : List B8), fnvL h (a ++ b) = fnvL (fnvL h a) b := by
    intro h a b
    unfold fnvL
    rw [List.foldl_append]
  rw [hs] at e1
  conv at e1 => lhs; rw [hl]
  rw [happ, happ, fnvL_cons, fnvL_cons] at e1
  have e2 := fnvL_inj (fnv1_lt _ _) (fnv1_lt _ _) _ e1
  have e3 := fnv1_inj_right (fnvL_lt h0 _) l[i].2 y.2 e2
  exact hy (Subtype.ext e3.symm)
end Go.Proofs.Ytncpafibcpphfaa
