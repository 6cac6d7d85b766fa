/- A request reaches the witness: the invariant; who holds. No condition. -/
import Derived.Test.YtggaaajkbnhofaaMath
namespace Go.Proofs.Ytggaaajkbnhofaa
/-- the witness's part is laid anew, answers are added -/
theorem Inv.wit {K : Int} {n : Nat} {b b' : Int} {s : St} (h : Inv K n b s) {e' h' u' : Int} {al : List Ms} (he : s.we ≤ e' ∧ e' ≤ K) (hh : h' = -1 ∨ 0 ≤ h' ∧ h' < 3) (hu : 0 ≤ u' ∧ u' ≤ s.now + s.tm) (hbw : h' ≠ -1 → b' ≤ e') (hal : al.length ≤ 1)
    (hrun : ∀ i : Nat, i < 3 → s.now < (s.ls i).2 → s.wh = (i : Int) → b ≤ (s.ls i).1 → (s.ls i).1 ≤ s.we → (s.ls i).2 ≤ s.wu → h' = (i : Int) ∧ b' ≤ (s.ls i).1 ∧ (s.ls i).1 ≤ e' ∧ (s.ls i).2 ≤ u')
    (han : ∀ m ∈ al, (m.kd = 16 ∧ m.vl = s.tm ∨ m.kd = 12 ∧ m.vl = 0) ∧ 0 ≤ m.dt ∧ m.dt < 3 ∧ 0 ≤ m.nm ∧ m.nm < s.rq.length ∧ 0 ≤ m.ep ∧ m.ep ≤ K)
    (hgo : ∀ (t ep dt : Int), 0 ≤ dt → s.wh = dt → b ≤ ep → ep ≤ s.we → t + s.tm ≤ s.wu → t + s.tm ≤ s.now ∨ (h' = dt ∧ b' ≤ ep ∧ ep ≤ e' ∧ t + s.tm ≤ u') ∨ ep < (s.ls dt.toNat).1)
    (hgn : ∀ m ∈ al, m.kd = 16 → h' = m.dt ∧ b' ≤ m.ep ∧ m.ep ≤ e' ∧ s.now + s.tm ≤ u')
    (hfb : h' = -1 ∨ s.fe < b' ∨ (s.fo = h' ∧ s.fe ≤ (s.ls h'.toNat).1)) :
    Inv K (n + 1) b' { s with we := e', wh := h', wu := u', an := s.an ++ al } := by
  have hwe := h.we
  refine ⟨h.now, h.tm, h.mg, by (try dsimp only); omega, hh, hu, hbw, h.le, fun i hi h9 => ?_, Nat.le_succ_of_le h.rqn, ?_, h.rq, fun m hm => ?_, fun m hm hk q hq => ?_, ⟨h.fe.1, by have := h.fe.2; dsimp only; omega⟩, h.fo, hfb⟩
  · obtain ⟨r1, r2, r3, r4⟩ := h.run i hi h9
    exact hrun i hi h9 r1 r2 r3 r4
  · dsimp only
    rw [List.length_append]
    have := h.ann
    omega
  · rcases List.mem_append.1 hm with hm | hm
    · exact h.an m hm
    · exact han m hm
  · rcases List.mem_append.1 hm with hm | hm
    · rcases h.gr m hm hk q hq with g | ⟨g1, g2, g3, g4⟩ | g
      · exact .inl g
      · exact hgo q.t m.ep m.dt (h.an m hm).2.1 g1 g2 g3 g4
      · exact .inr (.inr g)
    · obtain ⟨g1, g2, g3, g4⟩ := hgn m hm hk
      obtain ⟨_, _, q3, _⟩ := h.rq _ q hq
      exact .inr (.inl ⟨g1, g2, g3, by (try dsimp only); omega⟩)
theorem renL_facts {s : St} {m : Ms} : (renL s m).length ≤ 1 ∧ ∀ x ∈ renL s m, x.dt = m.fr ∧ x.nm = m.nm ∧ x.ep = s.we ∧ (x.kd = 16 ∧ x.vl = s.tm ∧ ownB s.we s.wh s.wu s.now m.fr m.ep = true ∨ x.kd = 12 ∧ x.vl = 0) := by
  unfold renL
  split
  · rename_i ho
    refine ⟨by simp, fun x hx => ?_⟩
    rw [List.mem_singleton] at hx
    subst hx
    exact ⟨rfl, rfl, rfl, .inl ⟨rfl, rfl, ho⟩⟩
  · refine ⟨by simp, fun x hx => ?_⟩
    rw [List.mem_singleton] at hx
    subst hx
    exact ⟨rfl, rfl, rfl, .inr ⟨rfl, rfl⟩⟩
theorem own_facts {e ho u now fr ep : Int} (h : ownB e ho u now fr ep = true) : ep = e ∧ ho = fr ∧ ho ≠ -1 ∧ now < u := by
  unfold ownB heldB at h
  rw [Bool.and_eq_true, decide_eq_true_iff, decide_eq_true_iff] at h
  exact ⟨h.1.1, h.1.2, h.2.1, h.2.2⟩
/-- a lease is renewed, or not -/
theorem Inv.ren {K : Int} {n : Nat} {b : Int} {s : St} (h : Inv K n b s) {m : Ms} (hf : 0 ≤ m.fr ∧ m.fr < 3) (hn : 0 ≤ m.nm ∧ m.nm < s.rq.length) : Inv K (n + 1) b { s with we := s.we, wh := s.wh, wu := renU s.we s.wh s.wu s.now s.tm m.fr m.ep, an := s.an ++ renL s m } := by
  obtain ⟨l1, l2⟩ := renL_facts (s := s) (m := m)
  have hwu := h.wu
  have hnow := h.now
  have htm := h.tm
  have hwe := h.we
  have hU : s.wu ≤ renU s.we s.wh s.wu s.now s.tm m.fr m.ep ∧ renU s.we s.wh s.wu s.now s.tm m.fr m.ep ≤ s.now + s.tm ∧ (ownB s.we s.wh s.wu s.now m.fr m.ep = true → s.now + s.tm ≤ renU s.we s.wh s.wu s.now s.tm m.fr m.ep) := by
    unfold renU
    split
    · rw [Int.max_def]
      split <;> exact ⟨by omega, by omega, fun _ => by omega⟩
    · rename_i ho
      exact ⟨Int.le_refl _, by omega, fun h9 => absurd h9 ho⟩
  refine h.wit ⟨Int.le_refl _, hwe.2⟩ h.wh ⟨by omega, hU.2.1⟩ h.bw l1 (fun i hi h9 r1 r2 r3 r4 => ⟨r1, r2, r3, by omega⟩) (fun x hx => ?_) (fun t ep dt hd g1 g2 g3 g4 => .inr (.inl ⟨g1, g2, g3, by omega⟩)) (fun x hx hk => ?_) h.fb
  · obtain ⟨x1, x2, x3, x4⟩ := l2 x hx
    refine ⟨?_, by omega, by omega, by omega, by omega, by omega, by omega⟩
    rcases x4 with ⟨a, c, _⟩ | ⟨a, c⟩
    · exact .inl ⟨a, c⟩
    · exact .inr ⟨a, c⟩
  · obtain ⟨x1, x2, x3, x4⟩ := l2 x hx
    rcases x4 with ⟨a, c, ho⟩ | ⟨a, c⟩
    · obtain ⟨o1, o2, o3, o4⟩ := own_facts ho
      have := h.bw o3
      exact ⟨by omega, by omega, by omega, hU.2.2 ho⟩
    · omega
/-- a request reaches the witness -/
theorem Inv.hand {K : Int} {n : Nat} {b : Int} {s : St} (h : Inv K n b s) {q : Rq} (hq : q ∈ s.rq) : ∃ b', Inv K (n + 1) b' (handM s q.m) := by
  obtain ⟨j, hj, hjq⟩ := List.getElem_of_mem hq
  have hqq : s.rq[j]? = some q := by rw [List.getElem?_eq_getElem hj, hjq]
  obtain ⟨a1, a2, a3, a4, a5, a6, a7, a8, a9⟩ := h.rq j q hqq
  have hwu := h.wu
  have hnow := h.now
  have htm := h.tm
  have hwe := h.we
  have hfe := h.fe
  obtain ⟨t, m⟩ := q
  dsimp only at a1 a2 a3 a4 a5 a6 a7 a8 a9 ⊢
  have hnm : 0 ≤ m.nm ∧ m.nm < s.rq.length := by omega
  unfold handM
  by_cases k15 : m.kd = 15
  · have eW : handW s m = if acqP s m then (m.ep, m.fr, s.now + s.tm) else (s.we, s.wh, renU s.we s.wh s.wu s.now s.tm m.fr m.ep) := by unfold handW; rw [if_pos k15]
    have eA : handA s m = if acqP s m then [⟨16, 4, m.fr, m.nm, s.tm, m.ep⟩] else renL s m := by unfold handA; rw [if_pos k15]
    rw [eW, eA]
    by_cases ha : acqP s m
    · rw [if_pos ha, if_pos ha]
      obtain ⟨h1, h2⟩ := ha
      by_cases hwf : s.wh = m.fr
      · have hb := h.bw (by omega)
        refine ⟨b, h.wit ⟨by (try dsimp only); omega, a8⟩ (.inr ⟨a5, a6⟩) ⟨by (try dsimp only); omega, Int.le_refl _⟩ (fun _ => by (try dsimp only); omega) (by simp) (fun i hi h9 r1 r2 r3 r4 => ⟨by (try dsimp only); omega, r2, by (try dsimp only); omega, by (try dsimp only); omega⟩) (fun x hx => ?_) (fun t ep dt hd g1 g2 g3 g4 => .inr (.inl ⟨by (try dsimp only); omega, g2, by (try dsimp only); omega, by (try dsimp only); omega⟩)) (fun x hx hk => ?_) ?_⟩
        · rw [List.mem_singleton] at hx
          subst hx
          exact ⟨.inl ⟨rfl, rfl⟩, a5, a6, hnm.1, hnm.2, a7, a8⟩
        · rw [List.mem_singleton] at hx
          subst hx
          exact ⟨rfl, by (try dsimp only); omega, Int.le_refl _, Int.le_refl _⟩
        · rcases h.fb with g | g | g
          · omega
          · exact .inr (.inl g)
          · dsimp only
            rw [← hwf]
            exact .inr (.inr g)
      · have hnh : ¬ (s.wh ≠ -1 ∧ s.now < s.wu) := by
          rcases h2 with h2 | h2
          · unfold heldB at h2
            rw [decide_eq_false_iff_not] at h2
            exact h2
          · exact absurd h2 hwf
        refine ⟨m.ep, h.wit ⟨by (try dsimp only); omega, a8⟩ (.inr ⟨a5, a6⟩) ⟨by (try dsimp only); omega, Int.le_refl _⟩ (fun _ => Int.le_refl _) (by simp) (fun i hi h9 r1 r2 r3 r4 => absurd ⟨by omega, by omega⟩ hnh) (fun x hx => ?_) (fun t ep dt hd g1 g2 g3 g4 => ?_) (fun x hx hk => ?_) (.inr (.inl (by (try dsimp only); omega)))⟩
        · rw [List.mem_singleton] at hx
          subst hx
          exact ⟨.inl ⟨rfl, rfl⟩, a5, a6, hnm.1, hnm.2, a7, a8⟩
        · refine .inl ?_
          have : ¬ s.now < s.wu := fun h9 => hnh ⟨by omega, h9⟩
          omega
        · rw [List.mem_singleton] at hx
          subst hx
          exact ⟨rfl, Int.le_refl _, Int.le_refl _, Int.le_refl _⟩
    · rw [if_neg ha, if_neg ha]
      exact ⟨b, h.ren ⟨a5, a6⟩ hnm⟩
  · by_cases k17 : m.kd = 17
    · have eW : handW s m = (s.we, s.wh, renU s.we s.wh s.wu s.now s.tm m.fr m.ep) := by unfold handW; rw [if_neg k15, if_pos k17]
      have eA : handA s m = renL s m := by unfold handA; rw [if_neg k15, if_pos k17]
      rw [eW, eA]
      exact ⟨b, h.ren ⟨a5, a6⟩ hnm⟩
    · have k18 : m.kd = 18 := by omega
      have h18 := a9 k18
      have eW : handW s m = if m.ep = s.we ∧ m.fr = s.wh then (s.we, -1, 0) else (s.we, s.wh, s.wu) := by unfold handW; rw [if_neg k15, if_neg k17]
      have eA : handA s m = [] := by unfold handA; rw [if_neg k15, if_neg k17]
      rw [eW, eA]
      by_cases hr : m.ep = s.we ∧ m.fr = s.wh
      · rw [if_pos hr]
        refine ⟨b, h.wit ⟨Int.le_refl _, hwe.2⟩ (.inl rfl) ⟨Int.le_refl _, by (try dsimp only); omega⟩ (fun h9 => absurd rfl h9) (by simp) (fun i hi h9 r1 r2 r3 r4 => ?_) nofun (fun t ep dt hd g1 g2 g3 g4 => .inr (.inr ?_)) nofun (.inl rfl)⟩
        · exfalso
          rw [hr.2, r1, Int.toNat_natCast] at h18
          omega
        · rw [hr.2, g1] at h18
          omega
      · rw [if_neg hr]
        exact ⟨b, h.wit ⟨Int.le_refl _, hwe.2⟩ h.wh hwu h.bw (by simp) (fun i hi h9 r1 r2 r3 r4 => ⟨r1, r2, r3, r4⟩) nofun (fun t ep dt hd g1 g2 g3 g4 => .inr (.inl ⟨g1, g2, g3, g4⟩)) nofun h.fb⟩
/-- at most one holds -/
theorem hold_law {K : Int} {n : Nat} {b : Int} {s : St} (h : Inv K n b s) : holdN s.now s.ls 3 = (0, -1) ∨ ∃ i : Nat, i < 3 ∧ holdN s.now s.ls 3 = (1, (i : Int)) ∧ s.wh = (i : Int) ∧ (s.ls i).1 ≤ s.we ∧ s.now < s.wu := by
  have e3 : holdN s.now s.ls 3 = if s.now < (s.ls 2).2 then ((holdN s.now s.ls 2).1 + 1, ((2 : Nat) : Int)) else holdN s.now s.ls 2 := rfl
  have e2 : holdN s.now s.ls 2 = if s.now < (s.ls 1).2 then ((holdN s.now s.ls 1).1 + 1, ((1 : Nat) : Int)) else holdN s.now s.ls 1 := rfl
  have e1 : holdN s.now s.ls 1 = if s.now < (s.ls 0).2 then ((0 : Int) + 1, ((0 : Nat) : Int)) else (0, -1) := rfl
  by_cases h0 : s.now < (s.ls 0).2
  · obtain ⟨r1, r2, r3, r4⟩ := h.run 0 (by omega) h0
    have n1 : ¬ s.now < (s.ls 1).2 := fun h9 => by have := (h.run 1 (by omega) h9).1; omega
    have n2 : ¬ s.now < (s.ls 2).2 := fun h9 => by have := (h.run 2 (by omega) h9).1; omega
    rw [if_neg n2] at e3
    rw [if_neg n1] at e2
    rw [if_pos h0] at e1
    exact .inr ⟨0, by omega, by rw [e3, e2, e1]; rfl, r1, r3, by omega⟩
  · rw [if_neg h0] at e1
    by_cases h1 : s.now < (s.ls 1).2
    · obtain ⟨r1, r2, r3, r4⟩ := h.run 1 (by omega) h1
      have n2 : ¬ s.now < (s.ls 2).2 := fun h9 => by have := (h.run 2 (by omega) h9).1; omega
      rw [if_neg n2] at e3
      rw [if_pos h1, e1] at e2
      exact .inr ⟨1, by omega, by rw [e3, e2]; rfl, r1, r3, by omega⟩
    · rw [if_neg h1, e1] at e2
      by_cases h2 : s.now < (s.ls 2).2
      · obtain ⟨r1, r2, r3, r4⟩ := h.run 2 (by omega) h2
        rw [if_pos h2, e2] at e3
        exact .inr ⟨2, by omega, by rw [e3]; rfl, r1, r3, by omega⟩
      · rw [if_neg h2, e2] at e3
        exact .inl e3
end Go.Proofs.Ytggaaajkbnhofaa
