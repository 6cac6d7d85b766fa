/- Plain laws for EventqueueCancels. No condition. -/
import Derived.Test.YtknedclejhiegaaMathB
namespace Go.Proofs.Ytknedclejhiegaa
/-- each number stands in the queue of added times -/
theorem addM_has (ts : List Int) : ∀ (i : Nat), i ≤ ts.length → ∀ j : Nat, j < i → ∃ e ∈ addM ts i, e.n = (j : Int)
  | 0, _, j, hj => by omega
  | i + 1, hi, j, hj => by
    have hg : ts[i]? = some ts[i] := List.getElem?_eq_getElem (by omega)
    rw [addM, hg]
    dsimp only
    by_cases hji : j = i
    · exact ⟨⟨ts[i], i, i, 0, []⟩, by unfold insE; simp, by rw [hji]⟩
    · obtain ⟨e, he, hn⟩ := addM_has ts i (by omega) j (by omega)
      refine ⟨e, ?_, hn⟩
      unfold insE
      rw [← List.take_append_drop (atE (laterB ts[i]) (addM ts i)) (addM ts i)] at he
      rcases List.mem_append.1 he with he | he
      · exact List.mem_append.2 (.inl he)
      · exact List.mem_append.2 (.inr (List.mem_cons_of_mem _ he))
/-- cancelling a number that stands in a queue in order, once and again -/
theorem cancel_ok {L : List Em} {nx n : Int} (h : OkP nx L) (he : ∃ e ∈ L, e.n = n) : ∃ (k : Nat) (hk : k < L.length), L[k].n = n ∧ cancelQ L nx n = (L.take k ++ L.drop (k + 1), true) ∧ cancelQ (L.take k ++ L.drop (k + 1)) nx n = (L.take k ++ L.drop (k + 1), false) ∧ OkP nx (L.take k ++ L.drop (k + 1)) ∧ ∀ (j : Nat) (hj : j < L.length), j ≠ k → L[j].n ≠ n := by
  obtain ⟨e, hm, hn⟩ := he
  obtain ⟨k, hk, rfl⟩ := List.getElem_of_mem hm
  have hdis : ∀ (j : Nat) (hj : j < L.length), j ≠ k → L[j].n ≠ n := by
    intro j hj hjk
    have h1 := List.pairwise_iff_getElem.1 h.dis
    rcases Nat.lt_or_gt_of_ne hjk with h2 | h2
    · have := h1 j k hj hk h2
      rwa [hn] at this
    · have := h1 k j hk hj h2
      rw [hn] at this
      exact fun e => this e.symm
  have hsub : (L.take k ++ L.drop (k + 1)).Sublist L := by
    conv => rhs; rw [← List.take_append_drop k L]
    exact (List.Sublist.refl _).append (List.drop_sublist_drop_left L (by omega))
  have hok := h.sub hsub
  have hidx : idxB (numB n) L = some k := idxB_some (e := L[k]) (fun j x hj hx => by
    obtain ⟨hj2, rfl⟩ := List.getElem?_eq_some_iff.1 hx
    unfold numB
    exact beq_eq_false_iff_ne.2 (hdis j hj2 (by omega))) (List.getElem?_eq_getElem hk) (by unfold numB; exact beq_iff_eq.2 hn)
  have hno : idxB (numB n) (L.take k ++ L.drop (k + 1)) = none := by
    refine idxB_none (fun x hx => ?_)
    unfold numB
    refine beq_eq_false_iff_ne.2 ?_
    rcases List.mem_append.1 hx with hx | hx
    · obtain ⟨j, hj, rfl⟩ := List.getElem_of_mem hx
      rw [List.length_take] at hj
      rw [List.getElem_take]
      exact hdis j (by omega) (by omega)
    · obtain ⟨j, hj, rfl⟩ := List.getElem_of_mem hx
      rw [List.length_drop] at hj
      rw [List.getElem_drop]
      exact hdis _ (by omega) (by omega)
  refine ⟨k, hk, hn, ?_, ?_, hok, hdis⟩
  · unfold cancelQ
    rw [h.chk, if_neg (by simp), hidx]
  · unfold cancelQ
    rw [hok.chk, if_neg (by simp), hno]
end Go.Proofs.Ytknedclejhiegaa
