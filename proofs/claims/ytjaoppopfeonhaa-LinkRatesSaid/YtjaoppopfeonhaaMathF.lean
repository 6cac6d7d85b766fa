/- What a link transmits in an interval, in plain words. No condition. -/
import Derived.Test.YtjaoppopfeonhaaMathE
namespace Go.Proofs.Ytjaoppopfeonhaa
/-- each transmission begins at its time, or behind the one before, and takes its ticks -/
structure RunT (ra : Int) (st : List Sp) (k : Nat) (r : RunS) : Prop where
  at_ : ∀ j, j < k → ∃ (x : Sp) (T I Q : Int), st[j]? = some x ∧ r.tm[j]? = some T ∧ r.id[j]? = some I ∧ (j = 0 ∧ Q = 0 ∨ 0 < j ∧ r.id[j - 1]? = some Q) ∧ I = max T Q + ticksM (payM x.s j).length ra ∧ 0 ≤ T ∧ 0 ≤ Q
  last : (k = 0 ∧ r.l.idle = 0) ∨ (0 < k ∧ r.id[k - 1]? = some r.l.idle)
theorem step_T {mi ma ra : Int} {n k : Nat} {st : List Sp} {r : RunS} (h : OkR mi ma ra n k r) (hF : RunT ra st k r) (x : Sp) (hx : st[k]? = some x) (hk : k < 20) (hma : ma ≤ 100) : RunT ra st (k + 1) (stepR r k x) := by
  obtain ⟨_, _, hid⟩ := step_ok h x hk hma
  obtain ⟨a1, a2, a3, a4, a5⟩ := endR_b h x
  have b1 := h.now0
  have b5 := h.idle0
  have hI : (stepR r k x).id = r.id ++ [endM r.l (nowR r x) (payM x.s k).length] := by rw [← hid]; rfl
  have hT : (stepR r k x).tm = r.tm ++ [nowR r x] := rfl
  refine ⟨fun j hj => ?_, .inr ⟨by omega, ?_⟩⟩
  · rw [hI, hT]
    by_cases hjk : j < k
    · obtain ⟨y, T, I, Q, h1, h2, h3, h4, h5⟩ := hF.at_ j hjk
      refine ⟨y, T, I, Q, h1, ?_, ?_, ?_, h5⟩
      · rw [List.getElem?_append_left (by rw [h.ltm]; exact hjk)]; exact h2
      · rw [List.getElem?_append_left (by rw [h.lid]; exact hjk)]; exact h3
      · rcases h4 with h4 | ⟨h4, h6⟩
        · exact .inl h4
        · refine .inr ⟨h4, ?_⟩
          rw [List.getElem?_append_left (by rw [h.lid]; omega)]
          exact h6
    · obtain rfl : j = k := by omega
      refine ⟨x, nowR r x, endM r.l (nowR r x) (payM x.s j).length, r.l.idle, hx, ?_, ?_, ?_, ?_, by omega, b5⟩
      · rw [List.getElem?_append_right (by rw [h.ltm]; exact Nat.le_refl _), h.ltm, Nat.sub_self]; rfl
      · rw [List.getElem?_append_right (by rw [h.lid]; exact Nat.le_refl _), h.lid, Nat.sub_self]; rfl
      · rcases hF.last with h4 | ⟨h4, h6⟩
        · exact .inl h4
        · refine .inr ⟨h4, ?_⟩
          rw [List.getElem?_append_left (by rw [h.lid]; omega)]
          exact h6
      · unfold endM
        rw [h.ra]
  · rw [Nat.add_sub_cancel, hI, List.getElem?_append_right (by rw [h.lid]; exact Nat.le_refl _), h.lid, Nat.sub_self, ← hid]
    rfl
theorem runK_T {mi ma ra : Int} {cs : List Int} {st : List Sp} (h : 0 ≤ mi ∧ mi ≤ ma ∧ ma ≤ 100 ∧ 0 ≤ ra ∧ ra ≤ 100) (hs : st.length ≤ 20) : ∀ k, k ≤ st.length → RunT ra st k (runK mi ma ra cs st k) := by
  intro k
  induction k with
  | zero => intro _; exact ⟨fun j hj => by omega, .inl ⟨rfl, rfl⟩⟩
  | succ k ih =>
    intro hk
    rw [runK_succ (List.getElem?_eq_getElem (by omega))]
    exact step_T (runK_ok h hs k (by omega)) (ih (by omega)) _ (List.getElem?_eq_getElem (by omega)) (by omega) h.2.2.1
/-- how many bytes some steps have -/
def lenR (st : List Sp) (i : Nat) : Nat → Nat
  | 0 => 0
  | n + 1 => lenR st i n + (match st[i + n]? with | some x => x.s % 9 + 1 | none => 0)
theorem lenR_succ {st : List Sp} {i n : Nat} {x : Sp} (h : st[i + n]? = some x) : lenR st i (n + 1) = lenR st i n + (payM x.s (i + n)).length := by
  show lenR st i n + (match st[i + n]? with | some x => x.s % 9 + 1 | none => 0) = _
  rw [h, pay_len]
theorem lenR_le (st : List Sp) (i n : Nat) : lenR st i n ≤ 9 * n := by
  induction n with
  | zero => exact Nat.le_refl _
  | succ n ih =>
    show lenR st i n + (match st[i + n]? with | some x => x.s % 9 + 1 | none => 0) ≤ _
    have : (match st[i + n]? with | some x => x.s % 9 + 1 | none => 0) ≤ 9 := by
      rcases st[i + n]? with _ | x
      · exact Nat.zero_le _
      · exact Nat.succ_le_of_lt (Nat.mod_lt x.s (by omega))
    omega
theorem ticks_cover {b : Nat} {ra : Int} (h0 : 0 < ra) : (b : Int) ≤ ticksM b ra * ra := by
  unfold ticksM
  rw [if_neg (by omega), Int.tdiv_eq_ediv_of_nonneg (by omega)]
  have h1 := Int.emod_add_mul_ediv ((b : Int) + ra - 1) ra
  have h2 := Int.emod_lt_of_pos ((b : Int) + ra - 1) h0
  rw [Int.mul_comm] at h1
  omega
/-- between two transmissions no more bytes go than the rate allows -/
theorem rates {ra : Int} {st : List Sp} {k : Nat} {r : RunS} (h : RunT ra st k r) (h0 : 0 < ra) {i : Nat} {T Q : Int} (hT : r.tm[i]? = some T) (hQ : i = 0 ∧ Q = 0 ∨ 0 < i ∧ r.id[i - 1]? = some Q) :
    ∀ (n : Nat) (I : Int), i + n < k → r.id[i + n]? = some I → (lenR st i (n + 1) : Int) ≤ (I - max T Q) * ra := by
  intro n
  induction n with
  | zero =>
    intro I hk hI
    obtain ⟨x, T', I', Q', h1, h2, h3, h4, h5, _, _⟩ := h.at_ (i + 0) hk
    rw [lenR_succ h1]
    rw [Nat.add_zero] at *
    rw [hT] at h2
    injection h2 with h2
    rw [hI] at h3
    injection h3 with h3
    have hQQ : Q' = Q := by
      rcases hQ with ⟨e1, e2⟩ | ⟨e1, e2⟩ <;> rcases h4 with ⟨e3, e4⟩ | ⟨e3, e4⟩
      · omega
      · omega
      · omega
      · rw [e2] at e4; injection e4 with e4; exact e4.symm
    subst h2 h3 hQQ
    have h6 := ticks_cover (b := (payM x.s i).length) h0
    rw [h5, show max T Q' + ticksM (payM x.s i).length ra - max T Q' = ticksM (payM x.s i).length ra by omega]
    have : lenR st i 0 = 0 := rfl
    omega
  | succ n ih =>
    intro I hk hI
    obtain ⟨x, T', I', Q', h1, h2, h3, h4, h5, _, _⟩ := h.at_ (i + (n + 1)) hk
    obtain ⟨_, _, I2, _, _, _, h7, _⟩ := h.at_ (i + n) (by omega)
    have h8 := ih I2 (by omega) h7
    rw [lenR_succ h1]
    rw [hI] at h3
    injection h3 with h3
    subst h3
    rcases h4 with ⟨e, _⟩ | ⟨_, e4⟩
    · omega
    rw [show i + (n + 1) - 1 = i + n by omega, h7] at e4
    injection e4 with e4
    subst e4
    have h6 := ticks_cover (b := (payM x.s (i + (n + 1))).length) h0
    have h9 : I2 ≤ max T' I2 := Int.le_max_right _ _
    have h10 : (I2 - max T Q + ticksM (payM x.s (i + (n + 1))).length ra) * ra ≤ (I - max T Q) * ra := Int.mul_le_mul_of_nonneg_right (by omega) (by omega)
    rw [Int.add_mul] at h10
    omega
theorem mono_id {ra : Int} {st : List Sp} {k : Nat} {r : RunS} (h : RunT ra st k r) (h0 : 0 < ra) {i j : Nat} {I J : Int} (hij : i ≤ j) (hj : j < k) (hI : r.id[i]? = some I) (hJ : r.id[j]? = some J) : I ≤ J := by
  induction j generalizing J with
  | zero =>
    obtain rfl : i = 0 := by omega
    rw [hI] at hJ
    injection hJ with hJ
    omega
  | succ j ih =>
    by_cases he : i = j + 1
    · subst he
      rw [hI] at hJ
      injection hJ with hJ
      omega
    · obtain ⟨x, T, I', Q, h1, h2, h3, h4, h5, h6, h7⟩ := h.at_ (j + 1) hj
      rw [hJ] at h3
      injection h3 with h3
      rcases h4 with ⟨e, _⟩ | ⟨_, e⟩
      · omega
      · rw [Nat.add_sub_cancel] at e
        have := ih (by omega) (by omega) e
        have h8 := Int.le_max_right T Q
        have h9 := (ticks_small (b := (payM x.s (j + 1)).length) (ra := ra) (by rw [pay_len]; omega) (by omega)).1
        omega
end Go.Proofs.Ytjaoppopfeonhaa
