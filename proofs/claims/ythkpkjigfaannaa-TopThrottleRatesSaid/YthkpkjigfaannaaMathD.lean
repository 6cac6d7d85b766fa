/- Plain laws: what an admission does to a throttle in order; its age. No condition. -/
import Derived.Test.YthkpkjigfaannaaMathC
import Derived.Test.YthkpkjigfaannaaWk
namespace Go.Proofs.Ythkpkjigfaannaa
open Go.RowKit
/-- how long the oldest write has been waiting of which something is missing -/
def oldV (L : List Mk) (conf now : Int) : Int := match foM conf L with
  | some t => now - t
  | none => 0
theorem age_law {T : Th} {now : Int} {L : List Mk} (hc : T.chk = 0) (hn : T.t ≤ now) (hf : foM (totM T.l - T.b) L = foM (totM T.l - T.b) T.l) : ageV T now = oldV L (totM T.l - T.b) now := by
  obtain ⟨o, r, t, b, l⟩ := T
  have hc' : chkTh o r t b l = 0 := hc
  obtain ⟨ho, hr, ht, hm, b1, b2, t2, hop⟩ := chk_zero hc'
  dsimp only at hn hf ⊢
  rw [oldV, hf, ageV, if_pos hc]
  dsimp only
  by_cases hb : b = 0
  · rw [if_pos hb, foM_none (p := ⟨-1, 0⟩) hm (by show totM l ≤ _; omega)]
  · rw [if_neg hb]
    have hne : l ≠ [] := by rintro rfl; exact hb (tot_nil b b1 b2)
    have hq : openM (totM l - b) l < l.length := openM_lt (p := ⟨-1, 0⟩) (by show totM l - b < totM l; omega) hne
    rw [foM_open hq]
    have := marks_at hm _ hq
    rw [if_neg (by omega)]
theorem adv_of {T : Th} {now : Int} (hc : T.chk = 0) (hn : T.t ≤ now ∧ now ≤ 1073741824) : T.adv now = 0 := by
  show advE T.o T.r T.t T.b T.l now = 0
  have hc' : chkTh T.o T.r T.t T.b T.l = 0 := hc
  rw [advE, if_pos hc', if_pos (by simp only [betwB, decide_eq_true_eq]; exact hn)]
theorem chk_time {o r t b now : Int} {l : List Mk} (hc : chkTh o r t b l = 0) (hn : t ≤ now ∧ now ≤ 1073741824) : chkTh o r now b l = 0 := by
  obtain ⟨ho, hr, ht, hm, b1, b2, t2, hop⟩ := chk_zero hc
  exact chk_intro ho hr ⟨by omega, hn.2⟩ (marksB_mono hm hn.1) ⟨b1, b2⟩ hop
theorem snoc_casesM (l : List Mk) : l = [] ∨ ∃ m s, l = m ++ [s] := by
  rcases List.eq_nil_or_concat l with h | ⟨m, s, h⟩
  · exact .inl h
  · exact .inr ⟨m, s, by simpa using h⟩
/-- an admission keeps a throttle in order -/
theorem write_law {T : Th} {now k : Int} (hc : T.chk = 0) (hn : T.t ≤ now ∧ now ≤ 1073741824) (hk : 1 ≤ k ∧ k ≤ 4096) (hB : T.b + k ≤ T.r * T.o) (ht : totM T.l + k ≤ 1073741824) :
    ∃ T', writeR T now k = (T', 0, 0) ∧ T'.chk = 0 ∧ T'.o = T.o ∧ T'.r = T.r ∧ T'.t = now ∧ T'.b = T.b + k ∧ totM T'.l = totM T.l + k ∧
      (∀ y, totM T.l - T.b ≤ y → foM y T'.l = (foM y T.l).or (if y < totM T.l + k then some now else none)) ∧ T'.l.length ≤ T.l.length + 1 := by
  obtain ⟨o, r, t, b, l⟩ := T
  have hc' : chkTh o r t b l = 0 := hc
  obtain ⟨ho, hr, ht0, hm, b1, b2, t2, hop⟩ := chk_zero hc'
  dsimp only at hn hB ht ⊢
  have hadv := adv_of hc hn
  have hm' := marksB_mono hm hn.1
  have hkB : k ≤ r * o := by omega
  refine ⟨⟨o, r, now, b + k, admL now b k l⟩, by rw [writeR, if_pos hadv, if_pos hk, if_pos hkB, if_pos hB, if_pos ht], ?_⟩
  by_cases hl : l ≠ [] ∧ (lastM ⟨-1, 0⟩ l).t = now
  · obtain ⟨hne, hlt⟩ := hl
    rcases snoc_casesM l with h | ⟨m, s, rfl⟩
    · exact absurd h hne
    · rw [lastM_snoc] at hlt
      have ha : admL now b k (m ++ [s]) = m ++ [⟨now, s.n + k⟩] := by
        rw [admL, if_pos ⟨hne, by rw [lastM_snoc]; exact hlt⟩, List.length_append, List.length_singleton, Nat.add_sub_cancel, List.set_append, if_neg (by omega), tot_snoc]
        simp
      rw [tot_snoc] at *
      obtain ⟨i1, i2, i3⟩ := marksB_init hm'
      have hmk : marksB now ⟨-1, 0⟩ (m ++ [⟨now, s.n + k⟩]) = true := marksB_snoc i1 ⟨by show _ < now; omega, Int.le_refl _⟩ ⟨by show _ < s.n + k; omega, ht⟩
      refine ⟨?_, rfl, rfl, rfl, rfl, by show totM (admL _ _ _ _) = _; rw [ha, tot_snoc], fun y hy => ?_, by show (admL _ _ _ _).length ≤ _; rw [ha]; simp⟩
      · show chkTh o r now (b + k) (admL now b k (m ++ [s])) = 0
        rw [ha]
        refine chk_intro ho hr ⟨by omega, hn.2⟩ hmk (by rw [tot_snoc]; show 0 ≤ b + k ∧ b + k ≤ s.n + k; omega) (fun h1 => ?_)
        rw [tot_snoc]
        have h2 := hop (by simpa using h1)
        have e : (⟨now, s.n + k⟩ : Mk).n - (b + k) = s.n - b := by show s.n + k - (b + k) = _; omega
        rw [e]
        cases m with
        | nil => simp at h1
        | cons a m =>
          simp only [List.cons_append, openM] at h2 ⊢
          split at h2
          · next h9 => rw [if_pos h9]
          · omega
      · show foM y (admL now b k (m ++ [s])) = _
        rw [ha, foM_append, foM_append]
        simp only [foM]
        cases foM y m with
        | some z => rfl
        | none =>
          by_cases h1 : y < s.n
          · have h2 : y < s.n + k := by omega
            simp [h1, h2, hlt]
          · simp [h1]
  · have ha : admL now b k l = l.drop (openM (totM l - b) l) ++ [⟨now, totM l + k⟩] := by rw [admL, if_neg hl]
    have hbd := marksB_bd hm
    have hlt : (lastM ⟨-1, 0⟩ l).t < now := by
      by_cases h0 : l = []
      · subst h0
        show (-1 : Int) < now
        omega
      · have h1 := hbd.2.2.2 (by show (-1 : Int) ≤ t; omega)
        have h2 : (lastM ⟨-1, 0⟩ l).t ≠ now := fun h => hl ⟨h0, h⟩
        omega
    obtain ⟨q, hq⟩ : ∃ q, openM (totM l - b) l = q := ⟨_, rfl⟩
    rw [hq] at ha hop
    have hql : q ≤ l.length := by rw [← hq]; exact openM_le _ _
    have hdt : (lastM ⟨-1, 0⟩ (l.drop q)).t < now ∧ (lastM ⟨-1, 0⟩ (l.drop q)).n < totM l + k := by
      by_cases h0 : q < l.length
      · rw [lastM_dropq _ _ _ h0]
        exact ⟨hlt, by show totM l < totM l + k; omega⟩
      · rw [List.drop_of_length_le (by omega)]
        exact ⟨by show (-1 : Int) < now; omega, by show (0 : Int) < totM l + k; omega⟩
    have hmk : marksB now ⟨-1, 0⟩ (l.drop q ++ [⟨now, totM l + k⟩]) = true := marksB_snoc (marksB_dropq hm' q) ⟨hdt.1, Int.le_refl _⟩ ⟨hdt.2, ht⟩
    refine ⟨?_, rfl, rfl, rfl, rfl, by show totM (admL _ _ _ _) = _; rw [ha, tot_snoc], fun y hy => ?_, by show (admL _ _ _ _).length ≤ _; rw [ha]; simp⟩
    · show chkTh o r now (b + k) (admL now b k l) = 0
      rw [ha]
      refine chk_intro ho hr ⟨by omega, hn.2⟩ hmk (by rw [tot_snoc]; show 0 ≤ b + k ∧ b + k ≤ totM l + k; omega) (fun h1 => ?_)
      rw [tot_snoc]
      have e : (⟨now, totM l + k⟩ : Mk).n - (b + k) = totM l - b := by show totM l + k - (b + k) = _; omega
      rw [e]
      have h0 : openM (totM l - b) (l.drop q) = 0 := by rw [openM_dropq _ _ _ (by omega), hq]; omega
      have hd : l.drop q ≠ [] := by intro h9; rw [h9] at h1; simp at h1
      cases hdr : l.drop q with
      | nil => exact absurd hdr hd
      | cons a m =>
        rw [hdr] at h0
        simp only [List.cons_append, openM] at h0 ⊢
        split at h0
        · next h9 => rw [if_pos h9]
        · omega
    · show foM y (admL now b k l) = _
      rw [ha, foM_append, foM_drop hy q (by omega)]
      rfl
/-- a write that has to wait changes the time alone -/
theorem wait_law {T : Th} {now k : Int} (hc : T.chk = 0) (hn : T.t ≤ now ∧ now ≤ 1073741824) (hk : 1 ≤ k ∧ k ≤ 4096) (hkB : k ≤ T.r * T.o) (hB : T.r * T.o < T.b + k) :
    writeR T now k = (⟨T.o, T.r, now, T.b, T.l⟩, (T.b + k - T.r * T.o + T.r - 1) / T.r, 0) ∧ Th.chk ⟨T.o, T.r, now, T.b, T.l⟩ = 0 :=
  ⟨by rw [writeR, if_pos (adv_of hc hn), if_pos hk, if_pos hkB, if_neg (by omega)], chk_time hc hn⟩
theorem bound_law {T : Th} {now k : Int} (hc : T.chk = 0) (hn : T.t ≤ now ∧ now ≤ 1073741824) (hk : 1 ≤ k ∧ k ≤ 4096) (hkB : T.r * T.o < k) : writeR T now k = (Th.zero, 0, 21) := by
  rw [writeR, if_pos (adv_of hc hn), if_pos hk, if_neg (by omega)]
end Go.Proofs.Ythkpkjigfaannaa
