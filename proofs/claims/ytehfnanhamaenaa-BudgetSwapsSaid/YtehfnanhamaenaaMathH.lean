/- The plain laws of the budget: time in steps, what may be taken in an interval, when tokens are there, two takes in any order. No condition. -/
import Derived.Test.YtehfnanhamaenaaMathG
namespace Go.Proofs.Ytehfnanhamaenaa
theorem giveV_two {u q r x y : Int} (hr : 0 ≤ r) (hx : 0 ≤ x) (hy : 0 ≤ y) : giveV u (giveV u q (r * x)) (r * y) = giveV u q (r * (x + y)) := by
  have h1 := Int.mul_nonneg hr hx
  have h2 := Int.mul_nonneg hr hy
  rw [Int.mul_add]
  generalize r * x = a at *
  generalize r * y = b at *
  unfold giveV
  (repeat' split) <;> omega
theorem adv_two {t x y : Int} {l : List Bk} (h : checkL t l = 0) (hx : 0 ≤ x) (hy : 0 ≤ y) : (l.map (adv x)).map (adv y) = l.map (adv (x + y)) := by
  rw [List.map_map]
  refine List.map_congr_left fun b hb => ?_
  obtain ⟨k, hk, rfl⟩ := List.getElem_of_mem hb
  obtain ⟨_, _, c3, _⟩ := chk_all h k hk
  show adv y (adv x l[k]) = adv (x + y) l[k]
  unfold adv
  dsimp only
  rw [giveV_two c3 hx hy]
/-- the token of one bucket behind a use -/
theorem use_tok {P : List Bk} {s : St} (h : Good P s) (ht : s.1 + 5 ≤ 1073741824) (u : Us) (j : Nat) (hj : j < P.length) :
    (bkAt (useS s u).2 j).tok = giveV (bkAt P j).burst (bkAt s.2 j).tok ((bkAt P j).rate * useW u) - (if j ∈ pathL P (useK s u) then useN s u else 0) := by
  have hk : useK s u < (useL s u).length := by rw [useL_len]; exact h.k
  have ha := h.advok (u := u) ht
  have hp := pathL_in ha (useK s u) hk
  have e := takeP_at (useN s u) (pathL (useL s u) (useK s u)) (useL s u) j hp.1 hp.2
  have hpe : pathL (useL s u) (useK s u) = pathL P (useK s u) := pathL_congr (fun q => (useL_at s u q).1.trans (h.par q)) _
  have hb : (bkAt (useL s u) j).tok = giveV (bkAt P j).burst (bkAt s.2 j).tok ((bkAt P j).rate * useW u) := by
    unfold useL
    rw [adv_map_at _ _ _ (by rw [h.len]; exact hj)]
    unfold adv
    dsimp only
    rw [h.burst, h.rate]
  show (bkAt (takeP (useN s u) (useL s u) (pathL (useL s u) (useK s u))) j).tok = _
  rw [e, hpe]
  split
  · show (bkAt (useL s u) j).tok - _ = _
    rw [hb]
  · rw [hb]; omega
def tAt (T : List TK) (j : Nat) : TK := T[j]?.getD (0, 0, 0)
def sumF (f : Nat → Int) (i : Nat) : Nat → Int
  | 0 => 0
  | n + 1 => sumF f i n + f (i + n)
theorem runT_at (us : List Us) : ∀ (s : St) (j : Nat) (hj : j < us.length), tAt (runT s us) j = useT (runS s (us.take j)) us[j] := by
  induction us with
  | nil => intro s j hj; simp at hj
  | cons u us ih =>
    intro s j hj
    cases j with
    | zero => rfl
    | succ j =>
      have := ih (useS s u) j (by simpa using hj)
      simp only [List.take_succ_cons, List.getElem_cons_succ]
      show tAt (runT (useS s u) us) j = useT (runS (useS s u) (us.take j)) (us[j]'(by simpa using hj))
      exact this
/-- what is taken through a bucket from use i on -/
theorem limit_sum {P : List Bk} {s : St} (us : List Us) (h : Good P s) (ht : s.1 + 5 * us.length + 5 ≤ 1073741824) (j : Nat) (hj : j < P.length) (i : Nat) :
    ∀ n, i + n < us.length → sumF (fun q => if j ∈ pathL P (tAt (runT s us) q).2.1 then (tAt (runT s us) q).2.2 else 0) i (n + 1) ≤
      (bkAt P j).burst + (bkAt P j).rate * ((tAt (runT s us) (i + n)).1 - (tAt (runT s us) i).1) - (bkAt (runS s (us.take (i + n + 1))).2 j).tok
  | 0, hn => by
    have hg := h.run (us.take i) (by rw [List.length_take]; omega)
    have h2 := hg.2.2
    rw [List.length_take] at h2
    have e := use_tok hg.1 (by omega) (us[i]'(by omega)) j hj
    rw [← runS_take s us i (by omega)] at e
    have hgv : giveV (bkAt P j).burst (bkAt (runS s (us.take i)).2 j).tok ((bkAt P j).rate * useW (us[i]'(by omega))) ≤ (bkAt P j).burst := by unfold giveV; split <;> omega
    have hs : sumF (fun q => if j ∈ pathL P (tAt (runT s us) q).2.1 then (tAt (runT s us) q).2.2 else 0) i (0 + 1) = (if j ∈ pathL P (useK (runS s (us.take i)) (us[i]'(by omega))) then useN (runS s (us.take i)) (us[i]'(by omega)) else 0) := by
      show 0 + _ = _
      rw [Int.zero_add, Nat.add_zero]
      dsimp only
      rw [runT_at us s i (by omega)]
      rfl
    rw [hs, Nat.add_zero, Int.sub_self, Int.mul_zero]
    omega
  | n + 1, hn => by
    have ih := limit_sum us h ht j hj i n (by omega)
    have hg := h.run (us.take (i + n + 1)) (by rw [List.length_take]; omega)
    have h2 := hg.2.2
    rw [List.length_take] at h2
    have e := use_tok hg.1 (by omega) (us[i + n + 1]'(by omega)) j hj
    rw [← runS_take s us (i + n + 1) (by omega)] at e
    have hgv : giveV (bkAt P j).burst (bkAt (runS s (us.take (i + n + 1))).2 j).tok ((bkAt P j).rate * useW (us[i + n + 1]'(by omega))) ≤ (bkAt (runS s (us.take (i + n + 1))).2 j).tok + (bkAt P j).rate * useW (us[i + n + 1]'(by omega)) := by unfold giveV; split <;> omega
    have hs : sumF (fun q => if j ∈ pathL P (tAt (runT s us) q).2.1 then (tAt (runT s us) q).2.2 else 0) i (n + 1 + 1) = sumF (fun q => if j ∈ pathL P (tAt (runT s us) q).2.1 then (tAt (runT s us) q).2.2 else 0) i (n + 1) + (if j ∈ pathL P (useK (runS s (us.take (i + n + 1))) (us[i + n + 1]'(by omega))) then useN (runS s (us.take (i + n + 1))) (us[i + n + 1]'(by omega)) else 0) := by
      show _ + _ = _
      dsimp only
      rw [show i + (n + 1) = i + n + 1 by omega, runT_at us s (i + n + 1) (by omega)]
      rfl
    have ht1 : (tAt (runT s us) (i + (n + 1))).1 = (tAt (runT s us) (i + n)).1 + useW (us[i + n + 1]'(by omega)) := by
      rw [show i + (n + 1) = i + n + 1 by omega, runT_at us s (i + n + 1) (by omega), runT_at us s (i + n) (by omega)]
      show (runS s (us.take (i + n + 1))).1 + _ = _
      rw [runS_take s us (i + n) (by omega)]
      rfl
    have hm : (bkAt P j).rate * ((tAt (runT s us) (i + (n + 1))).1 - (tAt (runT s us) i).1) = (bkAt P j).rate * ((tAt (runT s us) (i + n)).1 - (tAt (runT s us) i).1) + (bkAt P j).rate * useW (us[i + n + 1]'(by omega)) := by
      rw [ht1, ← Int.mul_add]
      congr 1
      omega
    rw [hs, hm, show i + (n + 1) + 1 = i + n + 1 + 1 by omega]
    omega
end Go.Proofs.Ytehfnanhamaenaa
