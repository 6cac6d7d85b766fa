/- The plain laws of BudgetFirst and BudgetSwaps. No condition. -/
import Derived.Test.YtehfnanhamaenaaMathI
namespace Go.Proofs.Ytehfnanhamaenaa
def ceilB (n : Int) (b : Bk) : Int := (n - b.tok + b.rate - 1) / b.rate
theorem wait_none {n : Int} {l : List Bk} : ∀ {p : List Nat} {m0 : Int}, waitP n l p m0 = none → ∃ i ∈ p, (bkAt l i).tok < n ∧ ((bkAt l i).burst < n ∨ (bkAt l i).rate = 0)
  | [], _, h => by simp [waitP] at h
  | i :: p, m0, h => by
    unfold waitP at h
    split at h
    · obtain ⟨j, hj, h2⟩ := wait_none h
      exact ⟨j, List.mem_cons_of_mem _ hj, h2⟩
    · rename_i c1
      split at h
      · rename_i c2
        exact ⟨i, by simp, by omega, c2⟩
      · obtain ⟨j, hj, h2⟩ := wait_none h
        exact ⟨j, List.mem_cons_of_mem _ hj, h2⟩
theorem wait_some {n : Int} {l : List Bk} : ∀ {p : List Nat} {m0 m : Int}, waitP n l p m0 = some m →
    (∀ i ∈ p, n ≤ (bkAt l i).tok ∨ (n ≤ (bkAt l i).burst ∧ (bkAt l i).rate ≠ 0 ∧ ceilB n (bkAt l i) ≤ m)) ∧ m0 ≤ m ∧ (m = m0 ∨ ∃ i ∈ p, (bkAt l i).tok < n ∧ (bkAt l i).rate ≠ 0 ∧ ceilB n (bkAt l i) = m)
  | [], m0, m, h => by
    simp only [waitP, Option.some.injEq] at h
    exact ⟨by simp, by omega, .inl h.symm⟩
  | i :: p, m0, m, h => by
    unfold waitP at h
    split at h
    · rename_i c1
      obtain ⟨h1, h2, h3⟩ := wait_some h
      refine ⟨fun j hj => ?_, h2, h3.imp id (fun ⟨j, hj, hh⟩ => ⟨j, List.mem_cons_of_mem _ hj, hh⟩)⟩
      rcases List.mem_cons.1 hj with rfl | hj
      · exact .inl c1
      · exact h1 j hj
    · rename_i c1
      split at h
      · cases h
      · rename_i c2
        obtain ⟨h1, h2, h3⟩ := wait_some h
        have hc : maxI m0 ((n - (bkAt l i).tok + (bkAt l i).rate - 1) / (bkAt l i).rate) = maxI m0 (ceilB n (bkAt l i)) := rfl
        rw [hc] at h2 h3
        have hmx : m0 ≤ maxI m0 (ceilB n (bkAt l i)) ∧ ceilB n (bkAt l i) ≤ maxI m0 (ceilB n (bkAt l i)) ∧ (maxI m0 (ceilB n (bkAt l i)) = m0 ∨ maxI m0 (ceilB n (bkAt l i)) = ceilB n (bkAt l i)) := by
          unfold maxI; split <;> omega
        refine ⟨fun j hj => ?_, by omega, ?_⟩
        · rcases List.mem_cons.1 hj with rfl | hj
          · exact .inr ⟨Int.not_lt.1 (fun e => c2 (.inl e)), fun e => c2 (.inr e), Int.le_trans hmx.2.1 h2⟩
          · exact h1 j hj
        · rcases h3 with h3 | ⟨j, hj, hh⟩
          · rcases hmx.2.2 with h4 | h4
            · exact .inl (h3.trans h4)
            · exact .inr ⟨i, by simp, Int.not_le.1 c1, fun e => c2 (.inr e), (h3.trans h4).symm⟩
          · exact .inr ⟨j, List.mem_cons_of_mem _ hj, hh⟩
theorem give_ge {u q r d n : Int} (h1 : n ≤ q) (h2 : q ≤ u) (h3 : 0 ≤ r * d) : n ≤ giveV u q (r * d) := by unfold giveV; split <;> omega
theorem give_ge2 {u q r d n : Int} (h1 : n ≤ u) (hr : 0 < r) (hd : (n - q + r - 1) / r ≤ d) : n ≤ giveV u q (r * d) := by
  have h2 := Int.lt_mul_ediv_self_add (x := n - q + r - 1) hr
  have h3 := Int.mul_le_mul_of_nonneg_left hd (Int.le_of_lt hr)
  unfold giveV; split <;> omega
theorem give_lt {u q r d n : Int} (h1 : q < n) (h2 : u < n ∨ r = 0) : giveV u q (r * d) < n := by
  rcases h2 with h2 | h2
  · unfold giveV; split <;> omega
  · rw [h2, Int.zero_mul]; unfold giveV; split <;> omega
theorem give_lt2 {u q r d n : Int} (hr : 0 < r) (hd : d < (n - q + r - 1) / r) : giveV u q (r * d) < n := by
  have h2 := Int.mul_ediv_self_le (x := n - q + r - 1) (k := r) (by omega)
  have h3 : r * (d + 1) ≤ r * ((n - q + r - 1) / r) := Int.mul_le_mul_of_nonneg_left (by omega) (Int.le_of_lt hr)
  rw [Int.mul_add, Int.mul_one] at h3
  unfold giveV; split <;> omega
theorem adv_par (d : Int) (l : List Bk) (j : Nat) : (bkAt (l.map (adv d)) j).par = (bkAt l j).par := by
  by_cases hj : j < l.length
  · rw [adv_map_at _ _ _ hj]; rfl
  · unfold bkAt; rw [List.getElem?_eq_none (by simp; omega), List.getElem?_eq_none (by omega)]
section
variable {t : Int} {l : List Bk} (h : checkL t l = 0) {k : Nat} (hk : k < l.length)
include h hk
theorem adv_avail {d : Int} (d0 : 0 ≤ d) (d1 : t + d ≤ 1073741824) (n : Int) : n ≤ availL (l.map (adv d)) k ↔ ∀ j ∈ pathL l k, n ≤ giveV (bkAt l j).burst (bkAt l j).tok ((bkAt l j).rate * d) := by
  rw [availL_iff (adv_ok h d0 d1) k (by simpa using hk) n, pathL_congr (adv_par d l)]
  constructor
  · intro hh j hj
    have := hh j hj
    rw [adv_map_at _ _ _ ((pathL_in h k hk).2 j hj)] at this
    exact this
  · intro hh j hj
    rw [adv_map_at _ _ _ ((pathL_in h k hk).2 j hj)]
    exact hh j hj
theorem first_spec {n : Int} (n0 : 0 ≤ n) : (whenV t l k n = (0, 21) ∧ availL (l.map (adv (1073741824 - t))) k < n) ∨
    ∃ m, 0 ≤ m ∧ t + m ≤ 1073741824 ∧ whenV t l k n = (t + m, 0) ∧ n ≤ availL (l.map (adv m)) k ∧ (m = 0 ∨ availL (l.map (adv (m - 1))) k < n) := by
  have hz := checkL_zero h
  have hf : findV t l k = 0 := by unfold findV; rw [if_neg (by rw [h]; simp), if_neg (by omega)]
  have hb : ∀ j ∈ pathL l k, (bkAt l j).tok ≤ (bkAt l j).burst ∧ 0 ≤ (bkAt l j).rate := fun j hj => by
    have hjl := (pathL_in h k hk).2 j hj
    have := chk_all h j hjl
    rw [bkAt_lt l j hjl]
    omega
  have notall : ∀ (d : Int), 0 ≤ d → t + d ≤ 1073741824 → (∃ j ∈ pathL l k, giveV (bkAt l j).burst (bkAt l j).tok ((bkAt l j).rate * d) < n) → availL (l.map (adv d)) k < n := fun d d0 d1 ⟨j, hj, hlt⟩ => by
    rcases Int.lt_or_le (availL (l.map (adv d)) k) n with h1 | h1
    · exact h1
    · have := (adv_avail h hk d0 d1 n).1 h1 j hj
      omega
  cases hw : waitP n l (pathL l k) 0 with
  | none =>
    obtain ⟨j, hj, h1, h2⟩ := wait_none hw
    exact .inl ⟨whenV_none hf n0 hw, notall _ (by omega) (by omega) ⟨j, hj, give_lt h1 h2⟩⟩
  | some m =>
    obtain ⟨h1, h2, h3⟩ := wait_some hw
    have hv := whenV_some hf n0 hw
    by_cases hm : 1073741824 - t < m
    · rw [if_pos hm] at hv
      refine .inl ⟨hv, notall _ (by omega) (by omega) ?_⟩
      rcases h3 with h3 | ⟨j, hj, c1, c2, c3⟩
      · omega
      · exact ⟨j, hj, give_lt2 (by have := (hb j hj).2; omega) (by unfold ceilB at c3; omega)⟩
    · rw [if_neg hm] at hv
      refine .inr ⟨m, h2, by omega, hv, (adv_avail h hk h2 (by omega) n).2 fun j hj => ?_, ?_⟩
      · have hbj := hb j hj
        rcases h1 j hj with c | ⟨c1, c2, c3⟩
        · exact give_ge c hbj.1 (Int.mul_nonneg hbj.2 h2)
        · exact give_ge2 c1 (by omega) c3
      · rcases h3 with h3 | ⟨j, hj, c1, c2, c3⟩
        · exact .inl h3
        · by_cases hm0 : m = 0
          · exact .inl hm0
          · exact .inr (notall _ (by omega) (by omega) ⟨j, hj, give_lt2 (by have := (hb j hj).2; omega) (by unfold ceilB at c3; omega)⟩)
end
theorem bks_ext {a b : List Bk} (hl : a.length = b.length) (hh : ∀ j, bkAt a j = bkAt b j) : a = b := by
  refine List.ext_getElem hl fun j h1 h2 => ?_
  have := hh j
  rwa [bkAt_lt a j h1, bkAt_lt b j h2] at this
/-- two takes -/
def ind (p : List Nat) (j : Nat) (n : Int) : Int := if j ∈ p then n else 0
section
variable {t : Int} {l : List Bk} (h : checkL t l = 0)
include h
theorem tak_cases {k : Nat} (hk : k < l.length) {n : Int} (n0 : 0 ≤ n) : (n ≤ availL l k ∧ takV t l k n = ⟨t, takeP n l (pathL l k), 0⟩) ∨ (availL l k < n ∧ (takV t l k n).err = 16) := by
  have hf : findV t l k = 0 := by unfold findV; rw [if_neg (by rw [h]; simp), if_neg (by omega)]
  rcases Int.lt_or_le (availL l k) n with h1 | h1
  · refine .inr ⟨h1, ?_⟩
    unfold takV
    rw [if_neg (by rw [hf]; simp), if_neg (by omega), Int.toNat_natCast, if_pos h1]
  · exact .inl ⟨h1, takV_ok hf n0 h1⟩
theorem take_tok {k : Nat} (hk : k < l.length) (n : Int) (j : Nat) : (bkAt (takeP n l (pathL l k)) j).tok = (bkAt l j).tok - ind (pathL l k) j n := by
  rw [takeP_at n _ l j (pathL_in h k hk).1 (pathL_in h k hk).2]
  unfold ind
  split
  · rfl
  · omega
theorem two_ok {i k : Nat} (hi : i < l.length) (hk : k < l.length) {n m : Int} (n0 : 0 ≤ n) (n1 : n ≤ availL l i) : m ≤ availL (takeP n l (pathL l i)) k ↔ ∀ j ∈ pathL l k, m ≤ (bkAt l j).tok - ind (pathL l i) j n := by
  rw [availL_iff (takeP_ok h i hi n0 n1) k (by rw [takeP_len]; exact hk) m, pathL_congr (fun j => (takeP_par n (pathL l i) l j).1)]
  constructor
  · intro hh j hj
    rw [← take_tok h hi n j]
    exact hh j hj
  · intro hh j hj
    rw [take_tok h hi n j]
    exact hh j hj
theorem two_swap {i k : Nat} (hi : i < l.length) (hk : k < l.length) {n m : Int} (n0 : 0 ≤ n) (m0 : 0 ≤ m) (n1 : n ≤ availL l i) (h2 : m ≤ availL (takeP n l (pathL l i)) k) : m ≤ availL l k ∧ n ≤ availL (takeP m l (pathL l k)) i := by
  have h3 := (two_ok h hi hk n0 n1).1 h2
  have h4 := (availL_iff h i hi n).1 n1
  have h5 : m ≤ availL l k := (availL_iff h k hk m).2 fun j hj => by
    have := h3 j hj
    unfold ind at this
    split at this <;> omega
  refine ⟨h5, (two_ok h hk hi m0 h5).2 fun j hj => ?_⟩
  have h6 := h4 j hj
  unfold ind
  split
  · rename_i hjk
    have := h3 j hjk
    unfold ind at this
    rw [if_pos hj] at this
    omega
  · omega
theorem two_eq {i k : Nat} (hi : i < l.length) (hk : k < l.length) {n m : Int} (n0 : 0 ≤ n) (m0 : 0 ≤ m) (n1 : n ≤ availL l i) (h2 : m ≤ availL (takeP n l (pathL l i)) k) :
    takeP m (takeP n l (pathL l i)) (pathL (takeP n l (pathL l i)) k) = takeP n (takeP m l (pathL l k)) (pathL (takeP m l (pathL l k)) i) ∧
    ∀ j, (bkAt (takeP m (takeP n l (pathL l i)) (pathL (takeP n l (pathL l i)) k)) j).tok = (bkAt l j).tok - ind (pathL l i) j n - ind (pathL l k) j m := by
  obtain ⟨h5, h6⟩ := two_swap h hi hk n0 m0 n1 h2
  have o1 := takeP_ok h i hi n0 n1
  have o2 := takeP_ok h k hk m0 h5
  have p1 : pathL (takeP n l (pathL l i)) k = pathL l k := pathL_congr (fun j => (takeP_par n (pathL l i) l j).1) _
  have p2 : pathL (takeP m l (pathL l k)) i = pathL l i := pathL_congr (fun j => (takeP_par m (pathL l k) l j).1) _
  have e1 : ∀ j, (bkAt (takeP m (takeP n l (pathL l i)) (pathL (takeP n l (pathL l i)) k)) j).tok = (bkAt l j).tok - ind (pathL l i) j n - ind (pathL l k) j m := fun j => by
    rw [take_tok o1 (by rw [takeP_len]; exact hk), take_tok h hi, p1]
  have e2 : ∀ j, (bkAt (takeP n (takeP m l (pathL l k)) (pathL (takeP m l (pathL l k)) i)) j).tok = (bkAt l j).tok - ind (pathL l k) j m - ind (pathL l i) j n := fun j => by
    rw [take_tok o2 (by rw [takeP_len]; exact hi), take_tok h hk, p2]
  refine ⟨bks_ext (by simp only [takeP_len]) fun j => ?_, e1⟩
  have q1 := takeP_par m (pathL (takeP n l (pathL l i)) k) (takeP n l (pathL l i)) j
  have q2 := takeP_par n (pathL l i) l j
  have q3 := takeP_par n (pathL (takeP m l (pathL l k)) i) (takeP m l (pathL l k)) j
  have q4 := takeP_par m (pathL l k) l j
  have e3 := e1 j
  have e4 := e2 j
  generalize bkAt (takeP m (takeP n l (pathL l i)) (pathL (takeP n l (pathL l i)) k)) j = x at *
  generalize bkAt (takeP n (takeP m l (pathL l k)) (pathL (takeP m l (pathL l k)) i)) j = y at *
  obtain ⟨x1, x2, x3, x4⟩ := x
  obtain ⟨y1, y2, y3, y4⟩ := y
  dsimp only at *
  have : x4 = y4 := by omega
  rw [this, q1.1, q1.2.1, q1.2.2, q2.1, q2.2.1, q2.2.2, q3.1, q3.2.1, q3.2.2, q4.1, q4.2.1, q4.2.2]
end
end Go.Proofs.Ytehfnanhamaenaa
