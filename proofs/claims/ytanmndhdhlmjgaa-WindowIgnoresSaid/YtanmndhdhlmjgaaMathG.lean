/- Plain laws for the law WindowPushes: what Push and Poll return is small. No condition. -/
import Derived.Test.YtanmndhdhlmjgaaXc
namespace Go.Proofs.Ytanmndhdhlmjgaa
open Go.RowKit
theorem pushS_small {s : Sm} {p : List Nat} (h1 : s.out.length ≤ 80) (h2 : s.q.length ≤ 80) : Small (pushS s p).1 := by
  unfold pushS
  split
  · exact ⟨by simp [zeroS], by simp [zeroS]⟩
  split
  · exact ⟨by simp [zeroS], by simp [zeroS]⟩
  split
  · exact ⟨by simp [zeroS], by simp [zeroS]⟩
  · exact ⟨by dsimp only; omega, by simp only [List.length_append, List.length_singleton]; omega⟩
theorem fill_len (now : Int) : ∀ (k : Nat) (m : Sm), (fillS now m k).1.out.length + (fillS now m k).1.q.length = m.out.length + m.q.length
  | 0, m => rfl
  | k + 1, m => by
    rw [fillS]
    split
    · rfl
    · rename_i p q hq
      split
      · dsimp only
        rw [fill_len now k]
        simp only [List.length_append, hq, List.length_cons, List.length_nil]
        omega
      · rfl
theorem fill_pk (now : Int) : ∀ (k : Nat) (m : Sm), (∀ p ∈ m.q, p.length ≤ 4096) → (fillS now m k).2.length ≤ k ∧ ∀ x ∈ (fillS now m k).2, SmallP x
  | 0, m, _ => ⟨by simp [fillS], by simp [fillS]⟩
  | k + 1, m, h => by
    rw [fillS]
    split
    · exact ⟨by simp, nofun⟩
    · rename_i p q hq
      split
      · have h2 := fill_pk now k { m with q := q, out := m.out ++ [⟨m.next, now, 1, false, p⟩], next := m.next + 1 } (fun x hx => h x (by rw [hq]; exact List.mem_cons_of_mem _ hx))
        refine ⟨by simp only [List.length_cons]; have := h2.1; omega, fun x hx => ?_⟩
        rcases List.mem_cons.1 hx with rfl | hx
        · have := h p (by rw [hq]; simp)
          exact ⟨by simp [dataP], by simp only [dataP]; omega⟩
        · exact h2.2 x hx
      · exact ⟨by simp, nofun⟩
theorem pollS_small {s : Sm} {now : Int} (h1 : s.out.length ≤ 80) (h2 : s.q.length ≤ 80) : Small (pollS s now).1 := by
  unfold pollS
  split
  · exact ⟨by dsimp only; omega, by dsimp only; omega⟩
  · have h := fill_len now s.q.length { s with out := s.out.map (againO now s.tmo) }
    simp only [List.length_map] at h
    exact ⟨by dsimp only; omega, by dsimp only; omega⟩
theorem pollS_pk {s : Sm} {now : Int} (h2 : s.q.length ≤ 80) : (pollS s now).2.length ≤ 100000 ∧ ∀ x ∈ (pollS s now).2, SmallP x := by
  unfold pollS
  split
  · exact ⟨by simp, nofun⟩
  · rename_i hc
    have hc0 : chkS s = 0 := by
      by_cases h : chkS s = 0
      · exact h
      · exact absurd (.inl h) hc
    have hr := chkS_rng hc0
    have hf := fill_pk now s.q.length { s with out := s.out.map (againO now s.tmo) } hr.qs
    have ho : s.out.length ≤ 64 := by have := hr.out; have := hr.lim; omega
    have hp : ∀ m : Sm, (probeP m).length ≤ 1 ∧ ∀ x ∈ probeP m, SmallP x := fun m => by
      unfold probeP
      split
      · refine ⟨by simp, fun x hx => ?_⟩
        rw [List.mem_singleton] at hx
        subst hx
        exact ⟨by simp, by simp⟩
      · exact ⟨by simp, nofun⟩
    have ha : (s.out.flatMap (againP s.ses now s.tmo)).length ≤ s.out.length := by
      have : ∀ l : List Om, (l.flatMap (againP s.ses now s.tmo)).length ≤ l.length := fun l => by
        induction l with
        | nil => simp
        | cons o l ih =>
          have h3 : (againP s.ses now s.tmo o).length ≤ 1 := by unfold againP; split <;> simp
          rw [List.flatMap_cons, List.length_append, List.length_cons]
          omega
      exact this _
    refine ⟨?_, fun x hx => ?_⟩
    · simp only [List.length_append]
      have h4 := hf.1
      have h5 := (hp (fillS now { s with out := s.out.map (againO now s.tmo) } s.q.length).1).1
      omega
    · rcases List.mem_append.1 hx with hx | hx
      · rcases List.mem_append.1 hx with hx | hx
        · obtain ⟨o, ho2, hx⟩ := List.mem_flatMap.1 hx
          have hpl : o.p.length ≤ 4096 := outsE_pay s.base s.out 0 hr.outs o ho2
          unfold againP at hx
          split at hx
          · rw [List.mem_singleton] at hx
            subst hx
            refine ⟨by simp [dataP], ?_⟩
            simp only [dataP, againO]
            split <;> (dsimp only; omega)
          · cases hx
        · exact hf.2 x hx
      · exact (hp _).2 x hx
end Go.Proofs.Ytanmndhdhlmjgaa
