/- At most one site holds a lease: the invariant. No condition. -/
import Derived.Test.YtggaaajkbnhofaaWo
namespace Go.Proofs.Ytggaaajkbnhofaa
/-- the invariant; b: the epoch in which the holder's time began -/
structure Inv (K : Int) (n : Nat) (b : Int) (s : St) : Prop where
  now : 0 ≤ s.now ∧ s.now ≤ K
  tm : 1 ≤ s.tm ∧ s.tm ≤ 12
  mg : 0 ≤ s.mg ∧ s.mg ≤ 3
  we : 0 ≤ s.we ∧ s.we ≤ K
  wh : s.wh = -1 ∨ 0 ≤ s.wh ∧ s.wh < 3
  wu : 0 ≤ s.wu ∧ s.wu ≤ s.now + s.tm
  bw : s.wh ≠ -1 → b ≤ s.we
  le : ∀ i, i < 3 → 0 ≤ (s.ls i).1 ∧ (s.ls i).1 ≤ K ∧ 0 ≤ (s.ls i).2 ∧ (s.ls i).2 ≤ s.now + s.tm
  run : ∀ i : Nat, i < 3 → s.now < (s.ls i).2 → s.wh = (i : Int) ∧ b ≤ (s.ls i).1 ∧ (s.ls i).1 ≤ s.we ∧ (s.ls i).2 ≤ s.wu
  rqn : s.rq.length ≤ n
  ann : s.an.length ≤ n
  rq : ∀ (j : Nat) (q : Rq), s.rq[j]? = some q → q.m.nm = (j : Int) ∧ 0 ≤ q.t ∧ q.t ≤ s.now ∧ (q.m.kd = 15 ∨ q.m.kd = 17 ∨ q.m.kd = 18) ∧ 0 ≤ q.m.fr ∧ q.m.fr < 3 ∧ 0 ≤ q.m.ep ∧ q.m.ep ≤ K ∧ (q.m.kd = 18 → q.m.ep < (s.ls q.m.fr.toNat).1)
  an : ∀ m ∈ s.an, (m.kd = 16 ∧ m.vl = s.tm ∨ m.kd = 12 ∧ m.vl = 0) ∧ 0 ≤ m.dt ∧ m.dt < 3 ∧ 0 ≤ m.nm ∧ m.nm < s.rq.length ∧ 0 ≤ m.ep ∧ m.ep ≤ K
  gr : ∀ m ∈ s.an, m.kd = 16 → ∀ q, s.rq[m.nm.toNat]? = some q → q.t + s.tm ≤ s.now ∨ (s.wh = m.dt ∧ b ≤ m.ep ∧ m.ep ≤ s.we ∧ q.t + s.tm ≤ s.wu) ∨ m.ep < (s.ls m.dt.toNat).1
  fe : 0 ≤ s.fe ∧ s.fe ≤ s.we
  fo : 0 ≤ s.fo ∧ s.fo < 3
  fb : s.wh = -1 ∨ s.fe < b ∨ (s.fo = s.wh ∧ s.fe ≤ (s.ls s.wh.toNat).1)
theorem Inv.mono {K K' : Int} {n n' : Nat} {b : Int} {s : St} (h : Inv K n b s) (hK : K ≤ K') (hn : n ≤ n') : Inv K' n' b s := by
  refine ⟨⟨h.now.1, Int.le_trans h.now.2 hK⟩, h.tm, h.mg, ⟨h.we.1, Int.le_trans h.we.2 hK⟩, h.wh, h.wu, h.bw, fun i hi => ?_, h.run, Nat.le_trans h.rqn hn, Nat.le_trans h.ann hn, fun j q hq => ?_, fun m hm => ?_, h.gr, h.fe, h.fo, h.fb⟩
  · have := h.le i hi; omega
  · obtain ⟨a1, a2, a3, a4, a5, a6, a7, a8, a9⟩ := h.rq j q hq
    exact ⟨a1, a2, a3, a4, a5, a6, a7, Int.le_trans a8 hK, a9⟩
  · obtain ⟨a1, a2, a3, a4, a5, a6, a7⟩ := h.an m hm
    exact ⟨a1, a2, a3, a4, a5, a6, Int.le_trans a7 hK⟩
/-- a request is sent -/
theorem Inv.send {K : Int} {n : Nat} {b : Int} {s : St} (h : Inv K n b s) {m : Ms} (hk : m.kd = 15 ∨ m.kd = 17 ∨ m.kd = 18) (hf : 0 ≤ m.fr ∧ m.fr < 3) (he : 0 ≤ m.ep ∧ m.ep ≤ K) (h8 : m.kd = 18 → m.ep < (s.ls m.fr.toNat).1) : Inv K (n + 1) b (sendM s m) := by
  have hr : (sendM s m).rq = s.rq ++ [⟨s.now, { m with nm := (s.rq.length : Nat) }⟩] := rfl
  refine ⟨h.now, h.tm, h.mg, h.we, h.wh, h.wu, h.bw, h.le, h.run, ?_, Nat.le_succ_of_le h.ann, fun j q hq => ?_, fun m' hm => ?_, fun m' hm hk' q hq => ?_, h.fe, h.fo, h.fb⟩
  · rw [hr, List.length_append, List.length_singleton]
    have := h.rqn
    omega
  · rw [hr] at hq
    by_cases hj : j < s.rq.length
    · rw [List.getElem?_append_left hj] at hq
      exact h.rq j q hq
    · rw [List.getElem?_append_right (by omega)] at hq
      have hjl := (List.getElem?_eq_some_iff.1 hq).1
      rw [List.length_singleton] at hjl
      rw [show j - s.rq.length = 0 by omega] at hq
      simp at hq
      subst hq
      refine ⟨?_, h.now.1, Int.le_refl _, hk, hf.1, hf.2, he.1, he.2, h8⟩
      show ((s.rq.length : Nat) : Int) = j
      omega
  · obtain ⟨a1, a2, a3, a4, a5, a6, a7⟩ := h.an m' hm
    refine ⟨a1, a2, a3, a4, ?_, a6, a7⟩
    rw [hr, List.length_append, List.length_singleton]
    omega
  · obtain ⟨a1, a2, a3, a4, a5, a6, a7⟩ := h.an m' hm
    rw [hr, List.getElem?_append_left (by omega)] at hq
    exact h.gr m' hm hk' q hq
theorem updL_same (ls : Nat → Int × Int) (d : Nat) (p : Int × Int) : updL ls d p d = p := by simp [updL]
theorem updL_other {ls : Nat → Int × Int} {d j : Nat} {p : Int × Int} (h : j ≠ d) : updL ls d p j = ls j := by simp [updL, h]
theorem updL_mono {ls : Nat → Int × Int} {d : Nat} {p : Int × Int} (h : (ls d).1 ≤ p.1) (j : Nat) : (ls j).1 ≤ (updL ls d p j).1 := by
  by_cases hj : j = d
  · subst hj; rw [updL_same]; exact h
  · rw [updL_other hj]; exact Int.le_refl _
/-- a lease is laid anew, its epoch no older -/
theorem Inv.lease {K : Int} {n : Nat} {b : Int} {s : St} (h : Inv K n b s) {d : Nat} {p : Int × Int} (hm : (s.ls d).1 ≤ p.1) (hp : p.1 ≤ K) (hu : 0 ≤ p.2 ∧ p.2 ≤ s.now + s.tm)
    (hr : s.now < p.2 → s.wh = (d : Int) ∧ b ≤ p.1 ∧ p.1 ≤ s.we ∧ p.2 ≤ s.wu) : Inv K n b { s with ls := updL s.ls d p } := by
  have hmo := updL_mono (p := p) hm
  refine ⟨h.now, h.tm, h.mg, h.we, h.wh, h.wu, h.bw, fun i hi => ?_, fun i hi hn => ?_, h.rqn, h.ann, fun j q hq => ?_, h.an, fun m hm' hk q hq => ?_, h.fe, h.fo, ?_⟩
  · dsimp only
    have hi2 := h.le i hi
    by_cases hid : i = d
    · subst hid
      rw [updL_same]
      exact ⟨by omega, hp, hu⟩
    · rw [updL_other hid]
      exact hi2
  · dsimp only at hn ⊢
    by_cases hid : i = d
    · subst hid
      rw [updL_same] at hn ⊢
      exact hr hn
    · rw [updL_other hid] at hn ⊢
      exact h.run i hi hn
  · obtain ⟨a1, a2, a3, a4, a5, a6, a7, a8, a9⟩ := h.rq j q hq
    exact ⟨a1, a2, a3, a4, a5, a6, a7, a8, fun h8 => Int.lt_of_lt_of_le (a9 h8) (hmo _)⟩
  · rcases h.gr m hm' hk q hq with g | g | g
    · exact .inl g
    · exact .inr (.inl g)
    · exact .inr (.inr (Int.lt_of_lt_of_le g (hmo _)))
  · rcases h.fb with g | g | g
    · exact .inl g
    · exact .inr (.inl g)
    · exact .inr (.inr ⟨g.1, Int.le_trans g.2 (hmo _)⟩)
theorem Inv.give {K : Int} {n : Nat} {b : Int} {s : St} (h : Inv K n b s) {i : Nat} (hi : i < 3) : Inv (K + 6) n b { s with ls := updL s.ls i ((s.ls i).1 + 1, 0) } := by
  have hl := h.le i hi
  have hn := h.now
  have ht := h.tm
  exact (h.mono (show K ≤ K + 6 by omega) (Nat.le_refl n)).lease (by dsimp only; omega) (by dsimp only; omega) ⟨Int.le_refl _, by dsimp only; omega⟩ (fun h9 => by dsimp only at h9; omega)
/-- an answer reaches its site -/
theorem Inv.learn {K : Int} {n : Nat} {b : Int} {s : St} (h : Inv K n b s) {m : Ms} {q : Rq} (hm : m ∈ s.an) (hq : s.rq[m.nm.toNat]? = some q) : Inv K n b (learnM s m q.t) := by
  obtain ⟨a1, a2, a3, a4, a5, a6, a7⟩ := h.an m hm
  obtain ⟨q1, q2, q3, _⟩ := h.rq _ q hq
  obtain ⟨d, hd⟩ : ∃ d : Nat, m.dt = (d : Int) := ⟨m.dt.toNat, by omega⟩
  have hdd : m.dt.toNat = d := by omega
  have hd3 : d < 3 := by omega
  have hle := h.le d hd3
  have hnow := h.now
  have htm := h.tm
  have hmg := h.mg
  have hrun := h.run d hd3
  unfold learnM
  rw [hdd]
  by_cases hk : m.kd = 16
  · have hg := h.gr m hm hk q hq
    rw [hdd, hd] at hg
    have hP : learnP s m q.t = (lgE (s.ls d).1 m.ep, lgU (s.ls d).1 (s.ls d).2 m.ep (max (q.t + s.tm - s.mg) 0)) := by unfold learnP; rw [if_pos hk, hdd]
    rw [hP]
    obtain ⟨e, he⟩ : ∃ e, (s.ls d).1 = e := ⟨_, rfl⟩
    obtain ⟨u, hu⟩ : ∃ u, (s.ls d).2 = u := ⟨_, rfl⟩
    rw [he, hu] at hle hrun
    rw [he] at hg
    rw [he, hu]
    obtain ⟨U, hU⟩ : ∃ U, max (q.t + s.tm - s.mg) 0 = U := ⟨_, rfl⟩
    rw [hU]
    have hU1 : 0 ≤ U ∧ (U = q.t + s.tm - s.mg ∨ U = 0) := by
      rw [Int.max_def] at hU
      split at hU <;> omega
    refine h.lease ?_ ?_ ?_ ?_
    · rw [he]; dsimp only; unfold lgE; split <;> omega
    · dsimp only; unfold lgE; split <;> omega
    · dsimp only
      unfold lgU
      split
      · omega
      · split
        · rw [Int.max_def]; split <;> omega
        · omega
    · dsimp only
      unfold lgU lgE
      by_cases h1 : e < m.ep
      · rw [if_pos h1, if_pos h1]
        intro h2
        rcases hg with g | g | g
        · omega
        · omega
        · omega
      · rw [if_neg h1, if_neg h1]
        by_cases h2 : m.ep = e
        · rw [if_pos h2]
          intro h3
          rw [Int.max_def] at h3 ⊢
          by_cases h4 : s.now < u
          · have h5 := hrun h4
            split
            · rename_i h6
              rcases hg with g | g | g
              · exact ⟨h5.1, h5.2.1, h5.2.2.1, by omega⟩
              · exact ⟨h5.1, h5.2.1, h5.2.2.1, by omega⟩
              · omega
            · exact h5
          · split at h3
            · rename_i h6
              rw [if_pos h6]
              rcases hg with g | g | g
              · omega
              · omega
              · omega
            · omega
        · rw [if_neg h2]
          exact hrun
  · have hP : learnP s m q.t = ((s.ls d).1, lrU (s.ls d).1 (s.ls d).2 m.ep) := by unfold learnP; rw [if_neg hk, hdd]
    rw [hP]
    refine h.lease (Int.le_refl _) hle.2.1 ?_ ?_
    · dsimp only; unfold lrU; split <;> omega
    · dsimp only
      unfold lrU
      split
      · intro h9; omega
      · exact hrun
/-- time passes -/
theorem Inv.time {K : Int} {n : Nat} {b : Int} {s : St} (h : Inv K n b s) {d : Int} (hd : 0 ≤ d ∧ d ≤ 6) : Inv (K + 6) n b { s with now := s.now + d } := by
  have hnow := h.now
  have hwe := h.we
  have hwu := h.wu
  refine ⟨by dsimp only; omega, h.tm, h.mg, by dsimp only; omega, h.wh, by dsimp only; omega, h.bw, fun i hi => ?_, fun i hi h9 => ?_, h.rqn, h.ann, fun j q hq => ?_, fun m hm => ?_, fun m hm hk q hq => ?_, h.fe, h.fo, h.fb⟩
  · have := h.le i hi; dsimp only; omega
  · dsimp only at h9; exact h.run i hi (by omega)
  · obtain ⟨a1, a2, a3, a4, a5, a6, a7, a8, a9⟩ := h.rq j q hq
    exact ⟨a1, a2, by dsimp only; omega, a4, a5, a6, a7, by omega, a9⟩
  · obtain ⟨a1, a2, a3, a4, a5, a6, a7⟩ := h.an m hm
    exact ⟨a1, a2, a3, a4, a5, a6, by omega⟩
  · rcases h.gr m hm hk q hq with g | g | g
    · exact .inl (by dsimp only; omega)
    · exact .inr (.inl g)
    · exact .inr (.inr g)
/-- whoever holds may write -/
theorem Inv.may {K : Int} {n : Nat} {b : Int} {s : St} (h : Inv K n b s) (i : Nat) (hi : i < 3) (hn : s.now < (s.ls i).2) : s.fe < (s.ls i).1 ∨ (s.fe = (s.ls i).1 ∧ s.fo = (i : Int)) := by
  obtain ⟨r1, r2, r3, r4⟩ := h.run i hi hn
  rcases h.fb with g | g | ⟨g1, g2⟩
  · omega
  · omega
  · rw [r1] at g2
    rw [Int.toNat_natCast] at g2
    omega
theorem Inv.write {K : Int} {n : Nat} {b : Int} {s : St} (h : Inv K n b s) {i : Nat} (hi : i < 3) : Inv K n b (writeM s i) := by
  unfold writeM
  split
  · rename_i h9
    obtain ⟨r1, r2, r3, r4⟩ := h.run i hi h9.1
    have hl := h.le i hi
    refine ⟨h.now, h.tm, h.mg, h.we, h.wh, h.wu, h.bw, h.le, h.run, h.rqn, h.ann, h.rq, h.an, h.gr, ⟨hl.1, r3⟩, by dsimp only; omega, .inr (.inr ⟨r1.symm, ?_⟩)⟩
    dsimp only
    rw [r1, Int.toNat_natCast]
    exact Int.le_refl _
  · exact h
end Go.Proofs.Ytggaaajkbnhofaa
