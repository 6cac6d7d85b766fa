/- What the law on the order says of a run. No condition. -/
import Derived.Test.YtjaoppopfeonhaaMathG
import Derived.Test.YtjaoppopfeonhaaMathH
namespace Go.Proofs.Ytjaoppopfeonhaa
theorem next_nil9 {l : Lm} (h : l.fl = []) : nextM l = (0, false) := by
  unfold nextM
  rw [h]
  split <;> rfl
/-- the link behind the first flights -/
def lgM (l : Lm) (g : Nat) : Lm := { l with fl := l.fl.drop g }
theorem lgM_zero (l : Lm) : lgM l 0 = l := rfl
theorem runK_b9 {mi ma ra : Int} {cs : List Int} {st : List Sp} {ns : Nat} {r : RunS} {j : Nat} {I : Int} (h : 0 ≤ mi ∧ mi ≤ ma ∧ ma ≤ 100 ∧ 0 ≤ ra ∧ ra ≤ 100) (hs : st.length = ns) (hn : ns ≤ 20) (hr : runK mi ma ra cs st ns = r) (hI : r.id[j]? = some I) : 0 ≤ I ∧ I ≤ 100000 := by
  subst hr
  have := runK_b h (show st.length ≤ 20 by omega) ns (by omega) j I hI
  omega
section
variable {mi : Int} {st : List Sp} {ns g i : Nat} {r : RunS} {I : Int}
theorem RunO.fl_at (h : RunO mi st ns r) {j : Nat} (hj : j < ns) {J : Int} (hJ : r.id[j]? = some J) : ∃ x, st[j]? = some x ∧ r.l.fl[j]? = some ⟨J + mi, (j : Nat), payM x.s j⟩ := by
  obtain ⟨x, J', h1, h2, h3, _⟩ := h.at_ j hj
  rw [hJ] at h2
  injection h2 with h2
  subst h2
  exact ⟨x, h1, h3⟩
theorem same_id (hg : g ≤ i) (hI : r.id[i]? = some I) (he : ∀ j, g ≤ j → j < i → r.id[j]? = some I) : ∀ j, g ≤ j → j ≤ i → r.id[j]? = some I := by
  intro j h1 h2
  by_cases hj : j < i
  · exact he j h1 hj
  · obtain rfl : j = i := by omega
    exact hI
theorem next_g (hO : RunO mi st ns r) (hok : OkL r.l) (hg : g ≤ i) (hi : i < ns) (hI : r.id[i]? = some I) (he : ∀ j, g ≤ j → j < i → r.id[j]? = some I) : nextM (lgM r.l g) = (I + mi, true) := by
  obtain ⟨x, _, hx⟩ := hO.fl_at (j := g) (by omega) (same_id hg hI he g (Nat.le_refl _) hg)
  have hl := (List.getElem?_eq_some_iff.1 hx)
  obtain ⟨hl, hx⟩ := hl
  unfold nextM
  rw [if_neg (by rw [show lgM r.l g = { r.l with fl := r.l.fl.drop g } from rfl, chkL_of (hok.dropped g)]; simp)]
  show (match r.l.fl.drop g with | [] => ((0, false) : Int × Bool) | e :: _ => (e.t, true)) = _
  rw [List.drop_eq_getElem_cons hl, hx]
theorem deliv_none (hO : RunO mi st ns r) (hok : OkL r.l) (hg : g ≤ i) (hi : i < ns) (hI : r.id[i]? = some I) (he : ∀ j, g ≤ j → j < i → r.id[j]? = some I) : delivM (lgM r.l g) (I + mi - 1) = (lgM r.l g, []) := by
  obtain ⟨x, _, hx⟩ := hO.fl_at (j := g) (by omega) (same_id hg hI he g (Nat.le_refl _) hg)
  have ha : atE (laterB (I + mi - 1)) (r.l.fl.drop g) = 0 := by
    have := at_drop (l := r.l.fl) (g := g) (i := g) (t := I + mi - 1) (Nat.le_refl _) (by rw [hO.len]; omega) (fun j e h1 h2 => by omega) (fun e h => by rw [hx] at h; injection h with h; subst h; dsimp only; omega)
    omega
  rw [show lgM r.l g = { r.l with fl := r.l.fl.drop g } from rfl, deliv_ok (hok.dropped g)]
  dsimp only
  rw [ha]
  rfl
theorem deliv_some (hO : RunO mi st ns r) (hok : OkL r.l) (hg : g ≤ i) (hi : i < ns) (hI : r.id[i]? = some I) (he : ∀ j, g ≤ j → j < i → r.id[j]? = some I) (hn : ∀ J, r.id[i + 1]? = some J → I < J) :
    delivM (lgM r.l g) (I + mi) = (lgM r.l (i + 1), ((r.l.fl.drop g).take (i + 1 - g)).map Em.p) := by
  have ha : atE (laterB (I + mi)) (r.l.fl.drop g) = i + 1 - g := by
    refine at_drop (l := r.l.fl) (g := g) (i := i + 1) (t := I + mi) (by omega) (by rw [hO.len]; omega) (fun j e h1 h2 h => ?_) (fun e h => ?_)
    · obtain ⟨x, _, hx⟩ := hO.fl_at (j := j) (by omega) (same_id hg hI he j h1 (by omega))
      rw [hx] at h
      injection h with h
      subst h
      exact Int.le_refl _
    · have hl := (List.getElem?_eq_some_iff.1 h).1
      rw [hO.len] at hl
      obtain ⟨x, J, _, h2, h3, _⟩ := hO.at_ (i + 1) hl
      rw [h3] at h
      injection h with h
      subst h
      have := hn J h2
      dsimp only
      omega
  rw [show lgM r.l g = { r.l with fl := r.l.fl.drop g } from rfl, deliv_ok (hok.dropped g)]
  dsimp only
  rw [ha, List.drop_drop, show g + (i + 1 - g) = i + 1 by omega]
  rfl
theorem last_p (hO : RunO mi st ns r) (hg : g ≤ i) (hi : i < ns) {x : Sp} (hx : st[i]? = some x) : ((((r.l.fl.drop g).take (i + 1 - g)).map Em.p).length = i + 1 - g) ∧ (((r.l.fl.drop g).take (i + 1 - g)).map Em.p)[i - g]? = some (payM x.s i) := by
  refine ⟨by rw [List.length_map, List.length_take, List.length_drop, hO.len]; omega, ?_⟩
  obtain ⟨y, J, h1, _, h3, _⟩ := hO.at_ i hi
  rw [hx] at h1
  injection h1 with h1
  subst h1
  rw [List.getElem?_map, List.getElem?_take_of_lt (by omega), List.getElem?_drop, show g + (i - g) = i by omega, h3]
  rfl
end
end Go.Proofs.Ytjaoppopfeonhaa
