/- The plain model of the budget, more: uses one behind the other. No condition. -/
import Derived.Test.YtehfnanhamaenaaMathF
namespace Go.Proofs.Ytehfnanhamaenaa
abbrev St := Int × List Bk
abbrev TK := Int × Nat × Int
def useW (u : Us) : Int := (u.wait : Int) % 6
def useL (s : St) (u : Us) : List Bk := s.2.map (adv (useW u))
def useK (s : St) (u : Us) : Nat := u.bucket % s.2.length
def useN (s : St) (u : Us) : Int := (u.want : Int) % (availL (useL s u) (useK s u) + 1)
def useS (s : St) (u : Us) : St := (s.1 + useW u, takeP (useN s u) (useL s u) (pathL (useL s u) (useK s u)))
def useT (s : St) (u : Us) : TK := (s.1 + useW u, useK s u, useN s u)
def runS (s : St) (us : List Us) : St := us.foldl useS s
def runT : St → List Us → List TK
  | _, [] => []
  | s, u :: us => useT s u :: runT (useS s u) us
theorem runS_snoc (s : St) (us : List Us) (u : Us) : runS s (us ++ [u]) = useS (runS s us) u := by
  unfold runS; rw [List.foldl_append]; rfl
theorem runT_snoc (us : List Us) (u : Us) : ∀ s, runT s (us ++ [u]) = runT s us ++ [useT (runS s us) u] := by
  induction us with
  | nil => intro s; rfl
  | cons v us ih => intro s; rw [List.cons_append, runT, runT, ih]; rfl
theorem runT_len (us : List Us) : ∀ s, (runT s us).length = us.length := by
  induction us with
  | nil => intro s; rfl
  | cons v us ih => intro s; rw [runT, List.length_cons, ih, List.length_cons]
theorem runS_take (s : St) (us : List Us) (k : Nat) (hk : k < us.length) : runS s (us.take (k + 1)) = useS (runS s (us.take k)) us[k] := by
  rw [← List.take_append_getElem hk, runS_snoc]
theorem runT_take (s : St) (us : List Us) (k : Nat) (hk : k < us.length) : runT s (us.take (k + 1)) = runT s (us.take k) ++ [useT (runS s (us.take k)) us[k]] := by
  rw [← List.take_append_getElem hk, runT_snoc]
/-- in order, with the parents, rates and bursts of P -/
structure Good (P : List Bk) (s : St) : Prop where
  ok : checkL s.1 s.2 = 0
  len : s.2.length = P.length
  pos : 0 < P.length
  par : ∀ j, (bkAt s.2 j).par = (bkAt P j).par
  rate : ∀ j, (bkAt s.2 j).rate = (bkAt P j).rate
  burst : ∀ j, (bkAt s.2 j).burst = (bkAt P j).burst
theorem useW_bd (u : Us) : 0 ≤ useW u ∧ useW u ≤ 5 := by unfold useW; omega
theorem useL_len (s : St) (u : Us) : (useL s u).length = s.2.length := by simp [useL]
theorem useL_at (s : St) (u : Us) (j : Nat) : (bkAt (useL s u) j).par = (bkAt s.2 j).par ∧ (bkAt (useL s u) j).rate = (bkAt s.2 j).rate ∧ (bkAt (useL s u) j).burst = (bkAt s.2 j).burst := by
  by_cases hj : j < s.2.length
  · unfold useL; rw [adv_map_at _ _ _ hj]; exact ⟨rfl, rfl, rfl⟩
  · unfold useL bkAt
    rw [List.getElem?_eq_none (by simp; omega), List.getElem?_eq_none (by omega)]
    exact ⟨rfl, rfl, rfl⟩
section
variable {P : List Bk} {s : St} {u : Us}
theorem Good.k (h : Good P s) : useK s u < s.2.length := Nat.mod_lt _ (by rw [h.len]; exact h.pos)
theorem Good.advok (h : Good P s) (ht : s.1 + 5 ≤ 1073741824) : checkL (s.1 + useW u) (useL s u) = 0 := by
  have := useW_bd u
  exact adv_ok h.ok (by omega) (by omega)
theorem Good.n (h : Good P s) (ht : s.1 + 5 ≤ 1073741824) : 0 ≤ useN s u ∧ useN s u ≤ availL (useL s u) (useK s u) := by
  have h0 := availL_nn (h.advok (u := u) ht) (useK s u) (by rw [useL_len]; exact h.k)
  have h1 := Int.emod_nonneg (u.want : Int) (by omega : availL (useL s u) (useK s u) + 1 ≠ 0)
  have h2 := Int.emod_lt_of_pos (u.want : Int) (by omega : 0 < availL (useL s u) (useK s u) + 1)
  unfold useN
  exact ⟨h1, by omega⟩
theorem Good.use (h : Good P s) (ht : s.1 + 5 ≤ 1073741824) : Good P (useS s u) := by
  have hk : useK s u < (useL s u).length := by rw [useL_len]; exact h.k
  have hp := takeP_par (useN s u) (pathL (useL s u) (useK s u)) (useL s u)
  refine ⟨takeP_ok (h.advok ht) _ hk (h.n ht).1 (h.n ht).2, ?_, h.pos, fun j => ?_, fun j => ?_, fun j => ?_⟩
  · show (takeP _ _ _).length = _
    rw [takeP_len, useL_len, h.len]
  · exact (hp j).1.trans ((useL_at s u j).1.trans (h.par j))
  · exact (hp j).2.1.trans ((useL_at s u j).2.1.trans (h.rate j))
  · exact (hp j).2.2.trans ((useL_at s u j).2.2.trans (h.burst j))
theorem Good.run (us : List Us) : ∀ {s : St}, Good P s → s.1 + 5 * us.length ≤ 1073741824 → Good P (runS s us) ∧ s.1 ≤ (runS s us).1 ∧ (runS s us).1 ≤ s.1 + 5 * us.length := by
  induction us with
  | nil => intro s h _; exact ⟨h, Int.le_refl _, by simp [runS]⟩
  | cons u us ih =>
    intro s h ht
    rw [List.length_cons] at ht ⊢
    have hw := useW_bd u
    have h1 : Good P (useS s u) := h.use (by omega)
    have e : (useS s u).1 = s.1 + useW u := rfl
    have := ih h1 (by rw [e]; omega)
    rw [e] at this
    exact ⟨this.1, by have := this.2.1; show s.1 ≤ (runS (useS s u) us).1; omega, by have := this.2.2; show (runS (useS s u) us).1 ≤ _; omega⟩
end
theorem start_good (l : List Pl) (h : l.length ≤ 8) (h0 : 0 < l.length) : Good (startL l) (0, startL l) :=
  ⟨startL_ok l h, rfl, by rw [startL_len]; exact h0, fun _ => rfl, fun _ => rfl, fun _ => rfl⟩
end Go.Proofs.Ytehfnanhamaenaa
