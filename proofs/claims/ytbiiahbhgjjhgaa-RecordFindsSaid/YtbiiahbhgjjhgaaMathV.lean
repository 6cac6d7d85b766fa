/- The plain law of Scan over records that were encoded in a row. No condition. -/
import Derived.Test.YtbiiahbhgjjhgaaMathU
namespace Go.Proofs.Ytbiiahbhgjjhgaa
/-- the number of record i, behind a gap -/
def seqM (g s i : Nat) : Nat := 5 + i + if g < i + 1 then 1 + s else 0
def allM (g s : Nat) : Nat → List (Nat × List Nat) → List Sec
  | _, [] => []
  | i, r :: l => encR r.1 (seqM g s i) r.2 ++ allM g s (i + 1) l
def tripM (g s : Nat) : Nat → List (Nat × List Nat) → List (Nat × Nat × List Nat)
  | _, [] => []
  | i, r :: l => (r.1, seqM g s i, r.2) :: tripM g s (i + 1) l
theorem allM_snoc (g s i : Nat) (l : List (Nat × List Nat)) (r : Nat × List Nat) : allM g s i (l ++ [r]) = allM g s i l ++ encR r.1 (seqM g s (i + l.length)) r.2 := by
  induction l generalizing i with
  | nil => simp [allM]
  | cons x l ih => rw [List.cons_append, allM, ih, allM, List.append_assoc, List.length_cons, show i + 1 + l.length = i + (l.length + 1) by omega]
theorem tripM_snoc (g s i : Nat) (l : List (Nat × List Nat)) (r : Nat × List Nat) : tripM g s i (l ++ [r]) = tripM g s i l ++ [(r.1, seqM g s (i + l.length), r.2)] := by
  induction l generalizing i with
  | nil => simp [tripM]
  | cons x l ih => rw [List.cons_append, tripM, ih, tripM, List.cons_append, List.length_cons, show i + 1 + l.length = i + (l.length + 1) by omega]
structure RecOk (r : Nat × List Nat) : Prop where
  k0 : 0 < r.1
  k1 : r.1 < 256
  all : AllB r.2
  len : r.2.length ≤ 60
theorem allM_ok {g s : Nat} {l : List (Nat × List Nat)} (h : ∀ r ∈ l, RecOk r) (i : Nat) : ∀ x ∈ allM g s i l, x.Ok := by
  induction l generalizing i with
  | nil => intro x hx; simp [allM] at hx
  | cons r l ih =>
    intro x hx
    rcases List.mem_append.1 hx with hx | hx
    · exact enc_ok _ (h r (by simp)).k1 (h r (by simp)).all x hx
    · exact ih (fun r hr => h r (by simp [hr])) _ x hx
theorem allM_len {g s : Nat} {l : List (Nat × List Nat)} (h : ∀ r ∈ l, RecOk r) (i : Nat) : l.length ≤ (allM g s i l).length ∧ (allM g s i l).length ≤ 20 * l.length := by
  induction l generalizing i with
  | nil => simp [allM]
  | cons r l ih =>
    have h1 := ih (fun r hr => h r (by simp [hr])) (i + 1)
    have h2 := (h r (by simp)).len
    rw [allM, List.length_append, enc_len, List.length_cons]
    unfold szN
    omega
theorem decM_nil : decM [] = .err 10 := rfl
theorem seqM_lt {g s i : Nat} (hs : s < 256) (hi : i ≤ 100) : 0 < seqM g s i ∧ seqM g s i < 4294967296 := by
  unfold seqM
  split <;> omega
theorem scan_all {g s : Nat} (hs : s < 256) {l : List (Nat × List Nat)} (h : ∀ r ∈ l, RecOk r) : ∀ (i f : Nat), i ≤ g → l.length < f → i + l.length ≤ 100 →
    (scanM f (allM g s i l) (5 + i)).map Dec.trip = tripM g s i (l.take (g - i)) ∧ totM (scanM f (allM g s i l) (5 + i)) = (allM g s i (l.take (g - i))).length := by
  induction l with
  | nil =>
    intro i f hi hf _
    obtain ⟨f, rfl⟩ : ∃ k, f = k + 1 := ⟨f - 1, by omega⟩
    rw [allM, scanM, decM_nil, if_neg (by simp [Dec.err])]
    simp [tripM, allM, totM]
  | cons r l ih =>
    intro i f hi hf hl
    rw [List.length_cons] at hf hl
    have hr := h r (by simp)
    obtain ⟨f, rfl⟩ : ∃ k, f = k + 1 := ⟨f - 1, by omega⟩
    obtain ⟨q0, q1⟩ := seqM_lt (g := g) (i := i) hs (by omega)
    have hd := dec_enc (q := seqM g s i) (allM g s (i + 1) l) hr.k0 hr.k1 q0 q1 hr.all (by have := hr.len; omega)
    rw [allM, scanM, hd]
    dsimp only
    by_cases hg : i = g
    · subst hg
      have hq : seqM i s i ≠ 5 + i := by unfold seqM; rw [if_pos (by omega)]; omega
      rw [if_neg (fun h9 => hq h9.2), Nat.sub_self]
      simp [tripM, allM, totM]
    · have hq : seqM g s i = 5 + i := by unfold seqM; rw [if_neg (by omega)]; omega
      obtain ⟨h1, h2⟩ := ih (fun r hr => h r (by simp [hr])) (i + 1) f (by omega) (by omega) (by omega)
      obtain ⟨m, hm⟩ : ∃ m, g - i = m + 1 := ⟨g - i - 1, by omega⟩
      rw [show g - (i + 1) = m by omega] at h1 h2
      rw [if_pos ⟨rfl, hq⟩, hm, List.take_succ_cons, tripM, allM, totM, List.map_cons, List.length_append, enc_len]
      have hdrop : (encR r.1 (seqM g s i) r.2 ++ allM g s (i + 1) l).drop (szN r.2.length) = allM g s (i + 1) l := List.drop_left' (enc_len _ _ _)
      rw [hdrop, show 5 + i + 1 = 5 + (i + 1) by omega, h1, h2]
      exact ⟨by simp [Dec.trip], rfl⟩
theorem scan_five {g s : Nat} (hs : s < 256) {l : List (Nat × List Nat)} (h : ∀ r ∈ l, RecOk r) (hl : l.length ≤ 8) :
    (scanI (allM g s 0 l) 5).map Dec.trip = tripM g s 0 (l.take g) ∧ totM (scanI (allM g s 0 l) 5) = (allM g s 0 (l.take g)).length := by
  have h0 := (allM_len (g := g) (s := s) h 0).1
  have := scan_all (g := g) hs h 0 ((allM g s 0 l).length + 1) (by omega) (by omega) (by omega)
  unfold scanI
  rw [if_neg (by omega)]
  exact this
theorem scan_four {g s : Nat} (hs : s < 256) {l : List (Nat × List Nat)} (h : ∀ r ∈ l, RecOk r) : scanI (allM g s 0 l) 4 = [] := by
  unfold scanI
  rw [if_neg (by omega)]
  cases l with
  | nil => rw [allM, scanM, decM_nil, if_neg (by simp [Dec.err])]
  | cons r l =>
    have hr := h r (by simp)
    obtain ⟨q0, q1⟩ := seqM_lt (g := g) (i := 0) hs (by omega)
    have hd := dec_enc (q := seqM g s 0) (allM g s (0 + 1) l) hr.k0 hr.k1 q0 q1 hr.all (by have := hr.len; omega)
    rw [allM, scanM, hd]
    dsimp only
    rw [if_neg]
    rintro ⟨_, h9⟩
    have h9 : seqM g s 0 = 4 := h9
    unfold seqM at h9
    omega
end Go.Proofs.Ytbiiahbhgjjhgaa
