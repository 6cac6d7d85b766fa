/- Plain laws of lineages: extending one, its epochs, truncating it. No condition. -/
import Derived.Test.YtnhemndpnjhbfaaWv
namespace Go.Proofs.Ytnhemndpnjhbfaa
open Go.RowKit
/-- the last of a list of spans behind a span -/
def lastP (p : Span) : List Span → Span
  | [] => p
  | s :: l => lastP s l
theorem lastP_snoc (p : Span) (m : List Span) (s : Span) : lastP p (m ++ [s]) = s := by
  induction m generalizing p with
  | nil => rfl
  | cons a m ih => exact ih a
theorem lastS_snoc (m : List Span) (s : Span) : lastS (m ++ [s]) = s := by
  unfold lastS prevS
  rw [if_neg (by simp)]
  simp
theorem lastS_nil : lastS [] = ⟨0, 0, 0⟩ := rfl
theorem snoc_cases (l : List Span) : l = [] ∨ ∃ m s, l = m ++ [s] := by
  rcases List.eq_nil_or_concat l with h | ⟨m, s, h⟩
  · exact .inl h
  · exact .inr ⟨m, s, by simpa using h⟩
theorem lastS_lastP (l : List Span) : lastS l = lastP ⟨0, 0, 0⟩ l := by
  rcases snoc_cases l with rfl | ⟨m, s, rfl⟩
  · rfl
  · rw [lastS_snoc, lastP_snoc]
theorem linE_append {p : Span} {l : List Span} (h : linE p l = 0) (k : List Span) : linE p (l ++ k) = linE (lastP p l) k := by
  induction l generalizing p with
  | nil => rfl
  | cons s l ih =>
    simp only [List.cons_append, linE, lastP] at h ⊢
    split at h
    · next hc => rw [if_pos hc]; exact ih h
    · next hc => exact absurd h hc
theorem linE_left {p : Span} {l k : List Span} (h : linE p (l ++ k) = 0) : linE p l = 0 := by
  induction l generalizing p with
  | nil => rfl
  | cons s l ih =>
    simp only [List.cons_append, linE] at h ⊢
    split at h
    · next hc => rw [if_pos hc]; exact ih h
    · next hc => exact absurd h hc
theorem lin_snoc {m : List Span} {s : Span} : lineageE (m ++ [s]) = 0 ↔ lineageE m = 0 ∧ chkS (lastS m) s = 0 := by
  unfold lineageE
  constructor
  · intro h
    have h1 := linE_left h
    rw [linE_append h1, ← lastS_lastP] at h
    simp only [linE] at h
    refine ⟨h1, ?_⟩
    split at h
    · assumption
    · exact h
  · rintro ⟨h1, h2⟩
    rw [linE_append h1, ← lastS_lastP]
    simp only [linE, if_pos h2]
theorem chkS_intro {p s : Span} (h : 1 ≤ s.e ∧ s.e ≤ 1073741824 ∧ 1 ≤ s.f ∧ s.f ≤ s.t ∧ s.t ≤ 1073741824 ∧ s.f = p.t + 1 ∧ p.e < s.e) : chkS p s = 0 := by
  unfold chkS inB
  obtain ⟨h1, h2, h3, h4, h5, h6, h7⟩ := h
  rw [if_pos (by simp; omega), if_pos h4, if_pos h6, if_pos h7]
theorem lin_mem {l : List Span} (h : lineageE l = 0) : ∀ s ∈ l, 1 ≤ s.f ∧ s.f ≤ s.t ∧ s.t ≤ (lastS l).t := by
  induction hn : l.length generalizing l with
  | zero => intro s hs; rw [List.eq_nil_of_length_eq_zero hn] at hs; cases hs
  | succ n ih =>
    rcases snoc_cases l with rfl | ⟨m, s, rfl⟩
    · simp at hn
    · obtain ⟨h1, h2⟩ := lin_snoc.1 h
      obtain ⟨z1, z2, z3, z4, z5, z6, z7⟩ := chkS_zero h2
      rw [lastS_snoc]
      intro x hx
      rcases List.mem_append.1 hx with hx | hx
      · obtain ⟨y1, y2, y3⟩ := ih h1 (by simpa using hn) x hx
        exact ⟨y1, y2, by omega⟩
      · obtain rfl := List.mem_singleton.1 hx
        exact ⟨z3, z4, Int.le_refl _⟩
theorem epochAt_none {j : Int} {l : List Span} (h : ∀ s ∈ l, ¬(s.f ≤ j ∧ j ≤ s.t)) : epochAt j l = (0, false) := by
  induction l with
  | nil => rfl
  | cons s l ih =>
    simp only [epochAt]
    rw [if_neg (h s (by simp))]
    exact ih fun x hx => h x (by simp [hx])
theorem epochAt_right {j : Int} {l k : List Span} (h : ∀ s ∈ l, ¬(s.f ≤ j ∧ j ≤ s.t)) : epochAt j (l ++ k) = epochAt j k := by
  induction l with
  | nil => rfl
  | cons s l ih =>
    simp only [List.cons_append, epochAt]
    rw [if_neg (h s (by simp))]
    exact ih fun x hx => h x (by simp [hx])
theorem epochAt_left {j : Int} {l k : List Span} (h : ∀ s ∈ k, ¬(s.f ≤ j ∧ j ≤ s.t)) : epochAt j (l ++ k) = epochAt j l := by
  induction l with
  | nil => exact epochAt_none h
  | cons s l ih =>
    simp only [List.cons_append, epochAt]
    split
    · rfl
    · exact ih
theorem epochAt_out {l : List Span} (h : lineageE l = 0) {j : Int} (hj : j ≤ 0 ∨ (lastS l).t < j) : epochAt j l = (0, false) :=
  epochAt_none fun s hs => by
    obtain ⟨h1, h2, h3⟩ := lin_mem h s hs
    omega
/-- what Extend does to a lineage in order -/
theorem ext_law {l : List Span} {n c : Int} (h : lineageE l = 0) (n1 : 1 ≤ n) (n2 : n ≤ 1073741824) (c2 : c ≤ 1073741824) (he : (lastS l).e ≤ n) (ht : (lastS l).t < c) :
    extE l n c = 0 ∧ lineageE (extL l n c) = 0 ∧ (lastS (extL l n c)).e = n ∧ (lastS (extL l n c)).t = c ∧
    (∀ j, j ≤ (lastS l).t → epochAt j (extL l n c) = epochAt j l) ∧ (∀ j, (lastS l).t < j → j ≤ c → epochAt j (extL l n c) = (n, true)) ∧
    (∀ t, t ≤ (lastS l).t → truncL t (extL l n c) = truncL t l) := by
  have hb := last_bd h
  refine ⟨?_, ?_⟩
  · rw [extE, if_pos h, extR, if_pos (by simp only [inB, Bool.and_eq_true, decide_eq_true_eq]; omega), if_pos he, if_pos ht]
  · unfold extL
    split
    · next hc =>
      obtain ⟨hne, hn⟩ := hc
      rcases snoc_cases l with rfl | ⟨m, s, rfl⟩
      · exact absurd rfl hne
      · rw [lastS_snoc] at he ht hn hb ⊢
        obtain ⟨h1, h2⟩ := lin_snoc.1 h
        obtain ⟨z1, z2, z3, z4, z5, z6, z7⟩ := chkS_zero h2
        have hs : (m ++ [s]).set ((m ++ [s]).length - 1) ⟨s.e, s.f, c⟩ = m ++ [⟨s.e, s.f, c⟩] := by
          rw [List.length_append, List.length_singleton, Nat.add_sub_cancel, List.set_append, if_neg (by omega)]
          simp
        rw [hs, lastS_snoc]
        have hm := lin_mem h1
        refine ⟨lin_snoc.2 ⟨h1, chkS_intro ⟨z1, z2, z3, by show s.f ≤ c; omega, by show c ≤ _; omega, z6, z7⟩⟩, hn.symm, rfl, fun j hj => ?_, fun j h3 h4 => ?_, fun t ht' => ?_⟩
        · by_cases hl : ∃ x ∈ m, x.f ≤ j ∧ j ≤ x.t
          · obtain ⟨x, hx, hx1, hx2⟩ := hl
            have := hm x hx
            rw [epochAt_left, epochAt_left]
            · intro y hy; obtain rfl := List.mem_singleton.1 hy; omega
            · intro y hy; obtain rfl := List.mem_singleton.1 hy; show ¬(s.f ≤ j ∧ j ≤ c); omega
          · rw [epochAt_right (fun x hx hh => hl ⟨x, hx, hh⟩), epochAt_right (fun x hx hh => hl ⟨x, hx, hh⟩)]
            by_cases hf : s.f ≤ j
            · simp only [epochAt]
              rw [if_pos ⟨hf, by omega⟩, if_pos ⟨hf, by omega⟩]
            · simp only [epochAt]
              rw [if_neg (by omega), if_neg (by omega)]
        · rw [epochAt_right (fun x hx hh => by have := hm x hx; omega)]
          simp only [epochAt]
          rw [if_pos ⟨by omega, h4⟩, hn]
        · rw [truncL_append, truncL_append]
          congr 1
          simp only [truncL]
          by_cases hf : s.f ≤ t
          · rw [if_pos hf, if_pos hf]
            congr 2
            split <;> split <;> omega
          · rw [if_neg hf, if_neg hf]
    · next hc =>
      have hne : (lastS l).e < n := by
        rcases snoc_cases l with rfl | ⟨m, s, rfl⟩
        · rw [lastS_nil]; show (0 : Int) < n; omega
        · have : n ≠ (lastS (m ++ [s])).e := fun h => hc ⟨by simp, h⟩
          omega
      rw [lastS_snoc]
      have hm := lin_mem h
      refine ⟨lin_snoc.2 ⟨h, chkS_intro ⟨n1, n2, by show 1 ≤ (lastS l).t + 1; omega, by show (lastS l).t + 1 ≤ c; omega, c2, rfl, hne⟩⟩, rfl, rfl, fun j hj => ?_, fun j h3 h4 => ?_, fun t ht' => ?_⟩
      · exact epochAt_left fun y hy => by obtain rfl := List.mem_singleton.1 hy; show ¬((lastS l).t + 1 ≤ j ∧ _); omega
      · rw [epochAt_right (fun x hx hh => by have := hm x hx; omega)]
        simp only [epochAt]
        rw [if_pos ⟨by omega, h4⟩]
      · rw [truncL_append]
        simp only [truncL]
        rw [if_neg (by omega), List.append_nil]
theorem trunc_all {l : List Span} {t : Int} (h : ∀ s ∈ l, s.f ≤ s.t ∧ s.t ≤ t) : truncL t l = l := by
  induction l with
  | nil => rfl
  | cons s l ih =>
    obtain ⟨h1, h2⟩ := h s (by simp)
    simp only [truncL]
    rw [if_pos (by omega), if_neg (by omega), ih fun x hx => h x (by simp [hx])]
theorem trunc_last {l : List Span} (h : lineageE l = 0) : truncL (lastS l).t l = l := trunc_all fun s hs => (lin_mem h s hs).2
end Go.Proofs.Ytnhemndpnjhbfaa
