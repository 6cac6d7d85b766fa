/- With equal delays and without losses flights stand in the order in which they were sent. No condition. -/
import Derived.Test.YtjaoppopfeonhaaMathE
namespace Go.Proofs.Ytjaoppopfeonhaa
/-- flights in the order in which they were sent -/
structure RunO (mi : Int) (st : List Sp) (k : Nat) (r : RunS) : Prop where
  len : r.l.fl.length = k
  nx : r.l.nx = k
  at_ : ∀ j, j < k → ∃ (x : Sp) (I : Int), st[j]? = some x ∧ r.id[j]? = some I ∧ r.l.fl[j]? = some ⟨I + mi, (j : Nat), payM x.s j⟩ ∧ I ≤ r.l.idle
  mono : ∀ (i j : Nat) (I J : Int), i ≤ j → r.id[i]? = some I → r.id[j]? = some J → I ≤ J
  rs : r.rs = []
theorem ins_end {x : Em} {l : List Em} (h : ∀ e ∈ l, e.t ≤ x.t) : insE x l = l ++ [x] := by
  have h0 : atE (laterB x.t) l = l.length := by
    unfold atE
    rw [idxB_none]
    intro e he
    have := h e he
    unfold laterB
    rw [decide_eq_false_iff_not]
    omega
  unfold insE
  rw [h0, List.take_length, List.drop_length]
theorem step_O {mi ra : Int} {n k : Nat} {st : List Sp} {r : RunS} (h : OkR mi mi ra n k r) (hF : RunO mi st k r) (x : Sp) (hx : st[k]? = some x) (hk : k < 20) (hma : mi ≤ 100) : RunO mi st (k + 1) (stepR r k x) := by
  obtain ⟨hl, hr⟩ := step_fl h x hk hma
  obtain ⟨_, _, hid⟩ := step_ok h x hk hma
  obtain ⟨a1, a2, a3, a4, a5⟩ := endR_b h x
  have hI : (stepR r k x).id = r.id ++ [endM r.l (nowR r x) (payM x.s k).length] := by rw [← hid]; rfl
  rw [hF.rs, show timesOf (decV [] 3) = 1 from rfl] at hl hr
  obtain ⟨en, hen⟩ : ∃ en, endM r.l (nowR r x) (payM x.s k).length = en := ⟨_, rfl⟩
  rw [hen] at hl hr hI a3 a4 a5
  have hll : ∀ e ∈ r.l.fl, e.t ≤ en + mi := by
    intro e he
    obtain ⟨j, hj, rfl⟩ := List.getElem_of_mem he
    rw [hF.len] at hj
    obtain ⟨y, I, h1, h2, h3, h4⟩ := hF.at_ j hj
    rw [List.getElem?_eq_getElem (by rw [hF.len]; exact hj)] at h3
    injection h3 with h3
    rw [h3]
    dsimp only
    omega
  have h1 := h.mi
  have h2 := h.ma
  have hm : r.l.ma - r.l.mi + 1 = 1 := by rw [h1, h2]; omega
  have hfl : (stepR r k x).l = { r.l with idle := en, fl := r.l.fl ++ [⟨en + mi, (k : Nat), payM x.s k⟩], nx := (k : Int) + 1 } := by
    rw [hl, sendN_succ]
    show ({ r.l with idle := en, fl := insE ⟨en + r.l.mi + decV (decR []) (r.l.ma - r.l.mi + 1), r.l.nx, payM x.s k⟩ r.l.fl, nx := r.l.nx + 1 } : Lm) = _
    rw [show decV (decR []) (r.l.ma - r.l.mi + 1) = 0 from rfl, h1, Int.add_zero, ins_end hll, hF.nx]
  refine ⟨?_, ?_, fun j hj => ?_, fun i j I J hij hi hj => ?_, ?_⟩
  · rw [hfl]; simp [hF.len]
  · rw [hfl]; simp
  · rw [hI, hfl]
    dsimp only
    by_cases hjk : j < k
    · obtain ⟨y, I, h1, h2, h3, h4⟩ := hF.at_ j hjk
      refine ⟨y, I, h1, ?_, ?_, by omega⟩
      · rw [List.getElem?_append_left (by rw [h.lid]; exact hjk)]; exact h2
      · rw [List.getElem?_append_left (by rw [hF.len]; exact hjk)]; exact h3
    · obtain rfl : j = k := by omega
      refine ⟨x, en, hx, ?_, ?_, Int.le_refl _⟩
      · rw [List.getElem?_append_right (by rw [h.lid]; exact Nat.le_refl _), h.lid, Nat.sub_self]; rfl
      · rw [List.getElem?_append_right (by rw [hF.len]; exact Nat.le_refl _), hF.len, Nat.sub_self]; rfl
  · rw [hI] at hi hj
    have hjl := (List.getElem?_eq_some_iff.1 hj).1
    rw [List.length_append, h.lid, List.length_singleton] at hjl
    by_cases hjk : j < k
    · rw [List.getElem?_append_left (by rw [h.lid]; omega)] at hi hj
      exact hF.mono i j I J hij hi hj
    · obtain rfl : j = k := by omega
      rw [List.getElem?_append_right (by rw [h.lid]; exact Nat.le_refl _), h.lid, Nat.sub_self] at hj
      simp at hj
      subst hj
      by_cases hik : i < j
      · rw [List.getElem?_append_left (by rw [h.lid]; omega)] at hi
        obtain ⟨y, I', h1, h2, h3, h4⟩ := hF.at_ i hik
        rw [hi] at h2
        injection h2 with h2
        omega
      · obtain rfl : i = j := by omega
        rw [List.getElem?_append_right (by rw [h.lid]; exact Nat.le_refl _), h.lid, Nat.sub_self] at hi
        simp at hi
        omega
  · rw [hr]
    exact List.drop_nil
theorem runK_O {mi ra : Int} {st : List Sp} (h : 0 ≤ mi ∧ mi ≤ mi ∧ mi ≤ 100 ∧ 0 ≤ ra ∧ ra ≤ 100) (hs : st.length ≤ 20) : ∀ k, k ≤ st.length → RunO mi st k (runK mi mi ra [] st k) := by
  intro k
  induction k with
  | zero => intro _; exact ⟨rfl, rfl, fun j hj => by omega, fun i j I J _ hi => by simp [runK, run0] at hi, rfl⟩
  | succ k ih =>
    intro hk
    rw [runK_succ (List.getElem?_eq_getElem (by omega))]
    exact step_O (runK_ok h hs k (by omega)) (ih (by omega)) _ (List.getElem?_eq_getElem (by omega)) (by omega) h.2.2.1
theorem OkL.dropped {l : Lm} (h : OkL l) (g : Nat) : OkL { l with fl := l.fl.drop g } := by
  refine OkP.q (l := { l with fl := l.fl.drop g }) ((okP_of h).sub (List.drop_sublist _ _)) ⟨h.mi0, h.mima, h.ma, h.ra0, h.ra, h.idle0, h.idle, ?_, fun e => ?_⟩
  · have := h.len
    dsimp only
    rw [List.length_drop]
    omega
  · have := h.dn e
    dsimp only
    rw [this]
    exact List.drop_nil
/-- where the later ones begin in what is left -/
theorem at_drop {l : List Em} {g i : Nat} {t : Int} (hg : g ≤ i) (hi : i ≤ l.length) (h1 : ∀ j e, g ≤ j → j < i → l[j]? = some e → e.t ≤ t) (h2 : ∀ e, l[i]? = some e → t < e.t) : atE (laterB t) (l.drop g) = i - g := by
  by_cases hil : i < l.length
  · have hx : idxB (laterB t) (l.drop g) = some (i - g) := by
      refine idxB_some (e := l[i]) (fun j x hj hx => ?_) ?_ ?_
      · rw [List.getElem?_drop] at hx
        have := h1 (g + j) x (by omega) (by omega) hx
        unfold laterB
        rw [decide_eq_false_iff_not]
        omega
      · rw [List.getElem?_drop, show g + (i - g) = i by omega]
        exact List.getElem?_eq_getElem hil
      · have := h2 l[i] (List.getElem?_eq_getElem hil)
        unfold laterB
        exact decide_eq_true this
    unfold atE
    rw [hx]
  · have hx : idxB (laterB t) (l.drop g) = none := by
      refine idxB_none (fun x hx => ?_)
      obtain ⟨j, hj, rfl⟩ := List.getElem_of_mem hx
      rw [List.length_drop] at hj
      have := h1 (g + j) (l.drop g)[j] (by omega) (by omega) (by rw [← List.getElem?_drop]; exact List.getElem?_eq_getElem (by rw [List.length_drop]; omega))
      unfold laterB
      rw [decide_eq_false_iff_not]
      omega
    unfold atE
    rw [hx]
    dsimp only
    rw [List.length_drop]
    omega
end Go.Proofs.Ytjaoppopfeonhaa
