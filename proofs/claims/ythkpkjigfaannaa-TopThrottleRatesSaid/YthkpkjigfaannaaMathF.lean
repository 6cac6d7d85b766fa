/- Plain laws of ThrottleKeeps: what is admitted is confirmed in time. No condition. -/
import Derived.Test.YthkpkjigfaannaaMathE
namespace Go.Proofs.Ythkpkjigfaannaa
open Go.RowKit
theorem AcP.age0 {o r : Int} {T : Th} {L : List Mk} {now total conf : Int} {i : Nat} (h : AcP o r T L now total conf i) : ageV T now = oldV L conf now := by
  have e : totM T.l - T.b = conf := by rw [h.tot, h.fb]; omega
  have := age_law h.chk (now := now) (L := L) h.ft (by rw [e]; exact h.eq _ (Int.le_refl _))
  rw [e] at this
  exact this
theorem AcP.back0 {o r : Int} {T : Th} {L : List Mk} {now total conf : Int} {i : Nat} (h : AcP o r T L now total conf i) : backV T = total - conf := by
  rw [backV, if_pos h.chk, h.fb]
theorem AcP.mono {o r : Int} {T : Th} {L : List Mk} {now total conf : Int} {i j : Nat} (h : AcP o r T L now total conf i) (hij : i ≤ j) : AcP o r T L now total conf j := by
  obtain ⟨hc, ho, hr, ht, ⟨n1, n2⟩, htt, hb, ⟨c1, c2, c3⟩, he, hm, hl, hls⟩ := h
  exact ⟨hc, ho, hr, ht, ⟨n1, by omega⟩, htt, hb, ⟨c1, c2, by omega⟩, he, hm, by omega, by omega⟩
theorem foM_mem {x t : Int} {L : List Mk} (h : foM x L = some t) : ∃ m ∈ L, x < m.n ∧ m.t = t := by
  induction L with
  | nil => cases h
  | cons a L ih =>
    simp only [foM] at h
    split at h
    · next h9 =>
      injection h with h
      exact ⟨a, by simp, h9, h⟩
    · obtain ⟨m, h1, h2⟩ := ih h
      exact ⟨m, by simp [h1], h2⟩
/-- what ThrottleKeeps knows -/
structure KpP (o r : Int) (T : Th) (L : List Mk) (now total conf : Int) (i : Nat) : Prop where
  ac : AcP o r T L now total conf i
  bk : total - conf ≤ r * o
  le : ∀ m ∈ L, m.n ≤ total
  kp : ∀ m ∈ L, m.n ≤ conf ∨ m.n + r * (now - m.t) ≤ conf + r * o
theorem KpP.mono {o r : Int} {T : Th} {L : List Mk} {now total conf : Int} {i j : Nat} (h : KpP o r T L now total conf i) (hij : i ≤ j) : KpP o r T L now total conf j :=
  ⟨h.ac.mono hij, h.bk, h.le, h.kp⟩
theorem KpP.start (o r : Int) (ho : 1 ≤ o ∧ o ≤ 12) (hr : 1 ≤ r ∧ r ≤ 6) (hB : 0 ≤ r * o) : KpP o r ⟨o, r, 0, 0, []⟩ [] 0 0 0 0 :=
  ⟨AcP.start o r 0 ho hr (by omega), by omega, (fun m h => by cases h), (fun m h => by cases h)⟩
theorem KpP.tick {o r : Int} {T : Th} {L : List Mk} {now total conf : Int} {i : Nat} (h : KpP o r T L now total conf i) (hi : i ≤ 900) {now' conf' : Int} (hn : now' = now + 1) (h2 : (conf ≤ conf' ∧ conf' = total) ∨ (conf + r ≤ conf' ∧ conf' ≤ total)) (hr : 1 ≤ r) :
    ∃ l', progR T now' conf' = (⟨o, r, now', total - conf', l'⟩, 0) ∧ KpP o r ⟨o, r, now', total - conf', l'⟩ L now' total conf' (i + 1) := by
  obtain ⟨⟨hc, ho, hr', ht, ⟨n1, n2⟩, htt, hb, ⟨c1, c2, c3⟩, he, hm, hl, hls⟩, hbk, hle, hkp⟩ := h
  obtain ⟨T', e1, e2, e3, e4, e5, e6, e7, e8, e9⟩ := prog_law (now := now') (x := conf') hc ⟨by omega, by omega⟩ (by rw [htt, hb]; omega)
  obtain ⟨o', r', t', b', l'⟩ := T'
  dsimp only at e3 e4 e5 e6 e7 e8 e9
  rw [htt] at e6 e7
  rw [ho] at e3
  rw [hr'] at e4
  subst e3 e4 e5 e6
  refine ⟨l', e1, ⟨e2, rfl, rfl, Int.le_refl _, ⟨by omega, by omega⟩, e7, rfl, ⟨by omega, by omega, by omega⟩, fun y hy => by rw [he y (by omega), e8 y hy], hm, by omega, by show l'.length ≤ i + 1; omega⟩, by omega, hle, fun m hmm => ?_⟩
  have h3 := hle m hmm
  rcases h2 with ⟨h4, h5⟩ | ⟨h4, h5⟩
  · left; omega
  · rcases hkp m hmm with h6 | h6
    · left; omega
    · right
      have e : r' * (t' - m.t) = r' * (now - m.t) + r' := by
        rw [show t' - m.t = (now - m.t) + 1 by omega, Int.mul_add, Int.mul_one]
      omega
theorem KpP.age {o r : Int} {T : Th} {L : List Mk} {now total conf : Int} {i : Nat} (h : KpP o r T L now total conf i) (ho : 1 ≤ o) (hr : 1 ≤ r) : ageV T now = oldV L conf now ∧ oldV L conf now ≤ o := by
  refine ⟨h.ac.age0, ?_⟩
  unfold oldV
  cases hf : foM conf L with
  | none => show (0 : Int) ≤ o; omega
  | some t =>
    obtain ⟨m, hm, h1, rfl⟩ := foM_mem hf
    show now - m.t ≤ o
    rcases h.kp m hm with h2 | h2
    · omega
    · have h3 : r * (now - m.t) < r * o := by omega
      have := Int.lt_of_mul_lt_mul_left h3 (by omega)
      omega
theorem KpP.adm {o r : Int} {T : Th} {L : List Mk} {now total conf : Int} {i : Nat} (h : KpP o r T L now total conf i) (hi : i ≤ 900) {k : Int} (hk : 1 ≤ k ∧ k ≤ 128) (hB : total - conf + k ≤ r * o) :
    ∃ l', writeR T now k = (⟨o, r, now, total - conf + k, l'⟩, 0, 0) ∧ KpP o r ⟨o, r, now, total - conf + k, l'⟩ (L ++ [⟨now, total + k⟩]) now (total + k) conf (i + 1) := by
  obtain ⟨⟨hc, ho, hr, ht, ⟨n1, n2⟩, htt, hb, ⟨c1, c2, c3⟩, he, hm, hl, hls⟩, hbk, hle, hkp⟩ := h
  obtain ⟨T', e1, e2, e3, e4, e5, e6, e7, e8, e9⟩ := write_law (now := now) (k := k) hc ⟨by omega, by omega⟩ ⟨by omega, by omega⟩ (by rw [hb, hr, ho]; exact hB) (by rw [htt]; omega)
  obtain ⟨o', r', t', b', l'⟩ := T'
  dsimp only at e3 e4 e5 e6 e7 e8 e9
  rw [htt] at e7 e8
  rw [hb] at e6 e8
  rw [ho] at e3
  rw [hr] at e4
  subst e3 e4 e5 e6
  refine ⟨l', e1, ⟨e2, rfl, rfl, Int.le_refl _, ⟨by omega, by omega⟩, e7, by show total - conf + k = total + k - conf; omega, ⟨by omega, by omega, by omega⟩, fun y hy => ?_, fun m hm' => ?_, by rw [List.length_append, List.length_singleton]; omega, by show l'.length ≤ i + 1; omega⟩, by omega, fun m hm' => ?_, fun m hm' => ?_⟩
  · rw [foM_append, he y hy, e8 y (by omega)]
    rfl
  · rcases List.mem_append.1 hm' with h9 | h9
    · exact hm m h9
    · obtain rfl := List.mem_singleton.1 h9
      exact ⟨by show (0 : Int) ≤ t'; omega, by show t' ≤ 1000000; omega⟩
  · rcases List.mem_append.1 hm' with h9 | h9
    · have := hle m h9; omega
    · obtain rfl := List.mem_singleton.1 h9
      exact Int.le_refl _
  · rcases List.mem_append.1 hm' with h9 | h9
    · exact hkp m h9
    · obtain rfl := List.mem_singleton.1 h9
      right
      show total + k + r' * (t' - t') ≤ conf + r' * o'
      rw [Int.sub_self, Int.mul_zero]
      omega
theorem KpP.wait {o r : Int} {T : Th} {L : List Mk} {now total conf : Int} {i : Nat} (h : KpP o r T L now total conf i) (hi : i ≤ 900) {k : Int} (hk : 1 ≤ k ∧ k ≤ 128) (hkB : k ≤ r * o) (hr1 : 1 ≤ r) (hB : r * o < total - conf + k) :
    ∃ l' d, 1 ≤ d ∧ writeR T now k = (⟨o, r, now, total - conf, l'⟩, d, 0) ∧ KpP o r ⟨o, r, now, total - conf, l'⟩ L now total conf (i + 1) := by
  obtain ⟨⟨hc, ho, hr, ht, ⟨n1, n2⟩, htt, hb, ⟨c1, c2, c3⟩, he, hm, hl, hls⟩, hbk, hle, hkp⟩ := h
  obtain ⟨e1, e2⟩ := wait_law (now := now) (k := k) hc ⟨by omega, by omega⟩ ⟨by omega, by omega⟩ (by rw [hr, ho]; exact hkB) (by rw [hb, hr, ho]; exact hB)
  rw [ho, hr, hb] at e1
  rw [ho, hr, hb] at e2
  refine ⟨T.l, _, ?_, e1, ⟨e2, rfl, rfl, Int.le_refl _, ⟨by omega, by omega⟩, htt, rfl, ⟨by omega, by omega, by omega⟩, he, hm, by omega, by show T.l.length ≤ i + 1; omega⟩, hbk, hle, hkp⟩
  exact Int.le_ediv_of_mul_le (by omega) (by omega)
theorem KpP.over {o r : Int} {T : Th} {L : List Mk} {now total conf : Int} {i : Nat} (h : KpP o r T L now total conf i) (hi : i ≤ 900) {k : Int} (hk : 1 ≤ k ∧ k ≤ 128) (hkB : r * o < k) : writeR T now k = (Th.zero, 0, 21) := by
  have n2 := h.ac.n0.2
  exact bound_law h.ac.chk ⟨h.ac.ft, by omega⟩ ⟨by omega, by omega⟩ (by rw [h.ac.fo, h.ac.fr]; exact hkB)
theorem words_cells {w : World} {A : Option Addr} {n : Nat} {q : List { n : Nat // n < 65536 }} (h : Reads w w.heap.size 1 A n (q.flatMap enc44)) : q.length = n ∧ ∃ g off, (0 < n → A = some ⟨g, off, none⟩ ∧ g < w.heap.size) ∧ ∀ i (h : i < q.length), w.cell? ⟨g, off + i, none⟩ = some (.int .u16 (q[i].1 : Int)) := by
  have hl : q.length = n := Reads.count h (fun _ => rfl) (by omega)
  refine ⟨hl, ?_⟩
  by_cases h0 : 0 < n
  · obtain ⟨g, off, e, hg, hc⟩ := h.elems (fun _ => rfl) (by omega) h0
    exact ⟨g, off, fun _ => ⟨e, hg⟩, fun i hi => by have := hc i hi 0 _ rfl; simpa using this⟩
  · exact ⟨0, 0, fun h => absurd h h0, fun i hi => by omega⟩
theorem bytes_cells {w : World} {A : Option Addr} {n : Nat} {q : List { n : Nat // n < 256 }} (h : Reads w w.heap.size 1 A n (q.flatMap enc5)) : q.length = n ∧ ∃ g off, (0 < n → A = some ⟨g, off, none⟩ ∧ g < w.heap.size) ∧ ∀ i (h : i < q.length), w.cell? ⟨g, off + i, none⟩ = some (.int .u8 (q[i].1 : Int)) := by
  have hl : q.length = n := Reads.count h (fun _ => rfl) (by omega)
  refine ⟨hl, ?_⟩
  by_cases h0 : 0 < n
  · obtain ⟨g, off, e, hg, hc⟩ := h.elems (fun _ => rfl) (by omega) h0
    exact ⟨g, off, fun _ => ⟨e, hg⟩, fun i hi => by have := hc i hi 0 _ rfl; simpa using this⟩
  · exact ⟨0, 0, fun h => absurd h h0, fun i hi => by omega⟩
end Go.Proofs.Ythkpkjigfaannaa
