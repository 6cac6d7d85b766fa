/- The plain law of RecordMixes: sectors of two records, mixed. No condition. -/
import Derived.Test.YtbiiahbhgjjhgaaMathR
namespace Go.Proofs.Ytbiiahbhgjjhgaa
/-- what is mixed of two lists -/
def Mixed (a b m : List Sec) : Prop := ∀ i, i < m.length → m[i]? = a[i]? ∨ m[i]? = b[i]?
theorem Mixed.swap {a b m : List Sec} (h : Mixed a b m) : Mixed b a m := fun i hi => (h i hi).symm
theorem Mixed.nil (a b : List Sec) : Mixed a b [] := fun i hi => absurd hi (by simp)
theorem Mixed.snoc {a b m : List Sec} (h : Mixed a b m) (x : Sec) (hx : a[m.length]? = some x ∨ b[m.length]? = some x) : Mixed a b (m ++ [x]) := by
  intro i hi
  rw [List.length_append, List.length_singleton] at hi
  by_cases c : i < m.length
  · rw [List.getElem?_append_left c]
    exact h i c
  · obtain rfl : i = m.length := by omega
    rw [List.getElem?_append_right (Nat.le_refl _), Nat.sub_self]
    rcases hx with hx | hx
    · exact Or.inl hx.symm
    · exact Or.inr hx.symm
theorem mix_half {k q k' q' : Nat} {p p' : List Nat} {m : List Sec} (hk0 : 0 < k) (hk : k < 256) (hq0 : 0 < q) (hq : q < 4294967296) (hp : AllB p) (hl : p.length ≤ 4096) (hq' : q' < 4294967296) (hne : q ≠ q')
    (hm : Mixed (encR k q p) (encR k' q' p') m) (h0 : m[0]? = (encR k q p)[0]?) (he : (decM m).e = 0) : decM m = ⟨0, k, q, p, szN p.length⟩ := by
  obtain ⟨s, l, e, g1, _, g3⟩ := enc_cons (k := k) p hq hl
  have hlen := enc_len k q p
  have hb : begE m = 0 := by
    rcases Nat.eq_zero_or_pos (begE m) with h | h
    · exact h
    · rw [decM_err (by omega)] at he
      exact absurd he (by show begE m ≠ 0; omega)
  cases m with
  | nil => rw [e] at h0; simp at h0
  | cons s' m' =>
    rw [e] at h0
    simp at h0
    subst h0
    have hB := begE_zero hb
    have ha := hB.all
    have hs := hB.same
    rw [g3] at ha hs
    have ht : (s' :: m').take (szN p.length) = encR k q p := by
      apply List.ext_getElem?
      intro i
      by_cases c : i < szN p.length
      · rw [List.getElem?_take_of_lt c]
        rcases hm i (by omega) with h | h
        · exact h
        · exfalso
          have hi : i < (s' :: m').length := by omega
          have hx : (s' :: m')[i]? = some (s' :: m')[i] := List.getElem?_eq_getElem hi
          have hn := hs (s' :: m')[i] (List.mem_iff_getElem?.2 ⟨i, by rw [List.getElem?_take_of_lt c, hx]⟩)
          have hy : (s' :: m')[i] ∈ encR k' q' p' := List.mem_iff_getElem?.2 ⟨i, by rw [← h, hx]⟩
          rw [enc_num p' hq' _ hy, g1] at hn
          exact hne hn.symm
      · rw [List.getElem?_eq_none (by rw [List.length_take]; omega), List.getElem?_eq_none (by omega)]
    rw [← List.take_append_drop (szN p.length) (s' :: m'), ht]
    exact dec_enc _ hk0 hk hq0 hq hp hl
theorem dec_mix {k q k' q' : Nat} {p p' : List Nat} {m : List Sec} (hk0 : 0 < k) (hk : k < 256) (hq0 : 0 < q) (hq : q < 4294967296) (hp : AllB p) (hl : p.length ≤ 4096)
    (hk0' : 0 < k') (hk' : k' < 256) (hq0' : 0 < q') (hq' : q' < 4294967296) (hp' : AllB p') (hl' : p'.length ≤ 4096) (hne : q ≠ q')
    (hm : Mixed (encR k q p) (encR k' q' p') m) : (decM m).e ≠ 0 ∨ decM m = ⟨0, k, q, p, szN p.length⟩ ∨ decM m = ⟨0, k', q', p', szN p'.length⟩ := by
  by_cases he : (decM m).e = 0
  · right
    have h0 : 0 < m.length := by
      cases m with
      | nil => simp [decM, Dec.err] at he
      | cons => simp
    rcases hm 0 h0 with h | h
    · exact Or.inl (mix_half hk0 hk hq0 hq hp hl hq' hne hm h he)
    · exact Or.inr (mix_half hk0' hk' hq0' hq' hp' hl' hq (Ne.symm hne) hm.swap h he)
  · exact Or.inl he
end Go.Proofs.Ytbiiahbhgjjhgaa
