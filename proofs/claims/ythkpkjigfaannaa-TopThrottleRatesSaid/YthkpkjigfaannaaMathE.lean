/- The walk of the law ThrottleAccounts. No condition. -/
import Derived.Test.YthkpkjigfaannaaMathD
import Derived.Test.YthkpkjigfaannaaArgsB
namespace Go.Proofs.Ythkpkjigfaannaa
open Go.RowKit
/-- what the law knows of its numbers -/
structure AcP (o r : Int) (T : Th) (L : List Mk) (now total conf : Int) (i : Nat) : Prop where
  chk : T.chk = 0
  fo : T.o = o
  fr : T.r = r
  ft : T.t ≤ now
  n0 : 0 ≤ now ∧ now ≤ 255 + 3 * i
  tot : totM T.l = total
  fb : T.b = total - conf
  c0 : 0 ≤ conf ∧ conf ≤ total ∧ total ≤ 128 * i
  eq : ∀ y, conf ≤ y → foM y L = foM y T.l
  tm : ∀ m ∈ L, 0 ≤ m.t ∧ m.t ≤ 1000000
  len : L.length ≤ i
  lens : T.l.length ≤ i
theorem small_cells {w : World} {A : Option Addr} {n : Nat} {q : List { n : Int // -128 ≤ n ∧ n ≤ 127 }} (h : Reads w w.heap.size 1 A n (q.flatMap enc56)) : q.length = n ∧ ∃ g off, (0 < n → A = some ⟨g, off, none⟩ ∧ g < w.heap.size) ∧ ∀ i (h : i < q.length), w.cell? ⟨g, off + i, none⟩ = some (.int .i8 q[i].1) := by
  have hl : q.length = n := Reads.count h (fun _ => rfl) (by omega)
  refine ⟨hl, ?_⟩
  by_cases h0 : 0 < n
  · obtain ⟨g, off, e, hg, hc⟩ := h.elems (fun _ => rfl) (by omega) h0
    exact ⟨g, off, fun _ => ⟨e, hg⟩, fun i hi => by have := hc i hi 0 _ rfl; simpa using this⟩
  · exact ⟨0, 0, fun h => absurd h h0, fun i hi => by omega⟩
theorem AcP.prog {o r : Int} {T : Th} {L : List Mk} {now total conf : Int} {i : Nat} (h : AcP o r T L now total conf i) (hi : i ≤ 60) {now' conf' : Int} (h1 : now ≤ now' ∧ now' ≤ now + 2) (h2 : conf ≤ conf' ∧ conf' ≤ total) :
    ∃ l', progR T now' conf' = (⟨o, r, now', total - conf', l'⟩, 0) ∧ AcP o r ⟨o, r, now', total - conf', l'⟩ L now' total conf' (i + 1) := by
  obtain ⟨hc, ho, hr, ht, ⟨n1, n2⟩, htt, hb, ⟨c1, c2, c3⟩, he, hm, hl, hls⟩ := h
  obtain ⟨T', e1, e2, e3, e4, e5, e6, e7, e8, e9⟩ := prog_law (now := now') (x := conf') hc ⟨by omega, by omega⟩ (by rw [htt, hb]; omega)
  obtain ⟨o', r', t', b', l'⟩ := T'
  dsimp only at e3 e4 e5 e6 e7 e8 e9
  rw [htt] at e6 e7
  rw [ho] at e3
  rw [hr] at e4
  subst e3 e4 e5 e6
  exact ⟨l', e1, e2, rfl, rfl, Int.le_refl _, ⟨by omega, by omega⟩, e7, rfl, ⟨by omega, by omega, by omega⟩, fun y hy => by rw [he y (by omega), e8 y hy], hm, by omega, by show l'.length ≤ i + 1; omega⟩
theorem AcP.adm {o r : Int} {T : Th} {L : List Mk} {now total conf : Int} {i : Nat} (h : AcP o r T L now total conf i) (hi : i ≤ 60) {now' k : Int} (h1 : now ≤ now' ∧ now' ≤ now + 2) (hk : 1 ≤ k ∧ k ≤ 128) (hB : total - conf + k ≤ r * o) :
    ∃ l', writeR T now' k = (⟨o, r, now', total - conf + k, l'⟩, 0, 0) ∧ AcP o r ⟨o, r, now', total - conf + k, l'⟩ (L ++ [⟨now', total + k⟩]) now' (total + k) conf (i + 1) := by
  obtain ⟨hc, ho, hr, ht, ⟨n1, n2⟩, htt, hb, ⟨c1, c2, c3⟩, he, hm, hl, hls⟩ := h
  obtain ⟨T', e1, e2, e3, e4, e5, e6, e7, e8, e9⟩ := write_law (now := now') (k := k) hc ⟨by omega, by omega⟩ ⟨by omega, by omega⟩ (by rw [hb, hr, ho]; exact hB) (by rw [htt]; omega)
  obtain ⟨o', r', t', b', l'⟩ := T'
  dsimp only at e3 e4 e5 e6 e7 e8 e9
  rw [htt] at e7 e8
  rw [hb] at e6 e8
  rw [ho] at e3
  rw [hr] at e4
  subst e3 e4 e5 e6
  refine ⟨l', e1, e2, rfl, rfl, Int.le_refl _, ⟨by omega, by omega⟩, e7, by show total - conf + k = total + k - conf; omega, ⟨by omega, by omega, by omega⟩, fun y hy => ?_, fun m hm' => ?_, by rw [List.length_append, List.length_singleton]; omega, by show l'.length ≤ i + 1; omega⟩
  · rw [foM_append, he y hy, e8 y (by omega)]
    rfl
  · rcases List.mem_append.1 hm' with h9 | h9
    · exact hm m h9
    · obtain rfl := List.mem_singleton.1 h9
      exact ⟨by show (0 : Int) ≤ t'; omega, by show t' ≤ 1000000; omega⟩
theorem AcP.wait {o r : Int} {T : Th} {L : List Mk} {now total conf : Int} {i : Nat} (h : AcP o r T L now total conf i) (hi : i ≤ 60) {now' k : Int} (h1 : now ≤ now' ∧ now' ≤ now + 2) (hk : 1 ≤ k ∧ k ≤ 128) (hkB : k ≤ r * o) (hr1 : 1 ≤ r) (hB : r * o < total - conf + k) :
    ∃ l' d, 1 ≤ d ∧ writeR T now' k = (⟨o, r, now', total - conf, l'⟩, d, 0) ∧ AcP o r ⟨o, r, now', total - conf, l'⟩ L now' total conf (i + 1) := by
  obtain ⟨hc, ho, hr, ht, ⟨n1, n2⟩, htt, hb, ⟨c1, c2, c3⟩, he, hm, hl, hls⟩ := h
  obtain ⟨e1, e2⟩ := wait_law (now := now') (k := k) hc ⟨by omega, by omega⟩ ⟨by omega, by omega⟩ (by rw [hr, ho]; exact hkB) (by rw [hb, hr, ho]; exact hB)
  rw [ho, hr, hb] at e1
  rw [ho, hr, hb] at e2
  refine ⟨T.l, _, ?_, e1, e2, rfl, rfl, Int.le_refl _, ⟨by omega, by omega⟩, htt, rfl, ⟨by omega, by omega, by omega⟩, he, hm, by omega, by show T.l.length ≤ i + 1; omega⟩
  exact Int.le_ediv_of_mul_le (by omega) (by omega)
theorem AcP.later {o r : Int} {T : Th} {L : List Mk} {now total conf : Int} {i : Nat} (h : AcP o r T L now total conf i) {now' : Int} (h1 : now ≤ now' ∧ now' ≤ now + 2) : AcP o r T L now' total conf (i + 1) := by
  obtain ⟨hc, ho, hr, ht, ⟨n1, n2⟩, htt, hb, ⟨c1, c2, c3⟩, he, hm, hl, hls⟩ := h
  exact ⟨hc, ho, hr, by omega, ⟨by omega, by omega⟩, htt, hb, ⟨by omega, by omega, by omega⟩, he, hm, by omega, by omega⟩
theorem AcP.start (o r s : Int) (ho : 1 ≤ o ∧ o ≤ 12) (hr : 1 ≤ r ∧ r ≤ 6) (hs : 0 ≤ s ∧ s ≤ 255) : AcP o r ⟨o, r, 0, 0, []⟩ [] s 0 0 0 :=
  ⟨chk_intro ⟨by show 1 ≤ o; omega, by show o ≤ _; omega⟩ ⟨by show 1 ≤ r; omega, by show r ≤ _; omega⟩ ⟨by show (0 : Int) ≤ 0; omega, by show (0 : Int) ≤ _; omega⟩ rfl ⟨by show (0 : Int) ≤ 0; omega, by show (0 : Int) ≤ 0; omega⟩ (fun h => by simp at h), rfl, rfl, by show (0 : Int) ≤ s; omega, ⟨by omega, by omega⟩, rfl, rfl, ⟨by omega, by omega, by omega⟩, fun y _ => rfl, (fun m h => by cases h), Nat.le_refl _, Nat.le_refl _⟩
end Go.Proofs.Ythkpkjigfaannaa
