/- The plain model of caseRun, and its laws: what is kept at every tick. No condition. -/
import Derived.Test.YthkpkjigfaannaaMathF
namespace Go.Proofs.Ythkpkjigfaannaa
open Go.RowKit
/-- the writes of one tick: the throttle, what still waits, whether nothing had to wait -/
def admW (T : Th) (now : Int) : List Int → Bool → Th × List Int × Bool
  | [], f => (T, [], f)
  | x :: q, f =>
    if (writeR T now x).2.2 = 21 then admW T now q false
    else if 0 < (writeR T now x).2.1 then ((writeR T now x).1, x :: q, false)
    else admW (writeR T now x).1 now q f
structure Rn where
  T : Th
  q : List Int
  old : Int
  free : Bool
  conf : Int
/-- what waits in a tick -/
def askR (ws : List Int) (k : Nat) (q : List Int) : List Int := if 0 < ws.getD k 0 then q ++ [ws.getD k 0] else q
def tickR (ws : List Int) (r : Int) (k : Nat) (s : Rn) : Rn :=
  let conf' := s.conf + min r (backV s.T)
  let p := admW (progR s.T k conf').1 k (askR ws k s.q) s.free
  ⟨p.1, p.2.1, max (max s.old (ageV s.T k)) (ageV p.1 k), p.2.2, conf'⟩
def runN (ws : List Int) (o r : Int) : Nat → Rn
  | 0 => ⟨⟨o, r, 0, 0, []⟩, [], 0, true, 0⟩
  | k + 1 => tickR ws r k (runN ws o r k)
theorem KpP.start' (o r : Int) (ho : 1 ≤ o ∧ o ≤ 1000) (hr : 1 ≤ r ∧ r ≤ 1000) (hB : 0 ≤ r * o) : KpP o r ⟨o, r, 0, 0, []⟩ [] 0 0 0 0 :=
  ⟨⟨chk_intro ⟨by show 1 ≤ o; omega, by show o ≤ _; omega⟩ ⟨by show 1 ≤ r; omega, by show r ≤ _; omega⟩ ⟨by show (0 : Int) ≤ 0; omega, by show (0 : Int) ≤ _; omega⟩ rfl ⟨by show (0 : Int) ≤ 0; omega, by show (0 : Int) ≤ 0; omega⟩ (fun h => by simp at h), rfl, rfl, by show (0 : Int) ≤ 0; omega, ⟨by omega, by omega⟩, rfl, rfl, ⟨by omega, by omega, by omega⟩, fun y _ => rfl, (fun m h => by cases h), Nat.le_refl _, Nat.le_refl _⟩, by omega, (fun m h => by cases h), (fun m h => by cases h)⟩
/-- a tick, or a second look in the same one -/
theorem KpP.tick' {o r : Int} {T : Th} {L : List Mk} {now total conf : Int} {i : Nat} (h : KpP o r T L now total conf i) (hi : i ≤ 900) {now' conf' : Int} (hn : now ≤ now' ∧ now' ≤ now + 1) (h2 : (conf ≤ conf' ∧ conf' = total) ∨ (conf + r ≤ conf' ∧ conf' ≤ total)) (hr : 1 ≤ r) :
    ∃ l', progR T now' conf' = (⟨o, r, now', total - conf', l'⟩, 0) ∧ KpP o r ⟨o, r, now', total - conf', l'⟩ L now' total conf' (i + 1) := by
  obtain ⟨⟨hc, ho, hr', ht, ⟨n1, n2⟩, htt, hb, ⟨c1, c2, c3⟩, he, hm, hl, hls⟩, hbk, hle, hkp⟩ := h
  obtain ⟨T', e1, e2, e3, e4, e5, e6, e7, e8, e9⟩ := prog_law (now := now') (x := conf') hc ⟨by omega, by omega⟩ (by rw [htt, hb]; omega)
  obtain ⟨o', r', t', b', l'⟩ := T'
  dsimp only at e3 e4 e5 e6 e7 e8 e9
  rw [htt] at e6 e7
  rw [ho] at e3
  rw [hr'] at e4
  subst e3 e4 e5 e6
  refine ⟨l', e1, ⟨e2, rfl, rfl, Int.le_refl _, ⟨by omega, by omega⟩, e7, rfl, ⟨by omega, by omega, by omega⟩, fun y hy => by rw [he y (by omega), e8 y hy], hm, by omega, by show l'.length ≤ i + 1; omega⟩, by omega, hle, fun m hmm => ?_⟩
  have h3 := hle m hmm
  rcases h2 with ⟨h4, h5⟩ | ⟨h4, h5⟩
  · left; omega
  · rcases hkp m hmm with h6 | h6
    · left; omega
    · right
      have h7 : t' = now ∨ t' = now + 1 := by omega
      rcases h7 with rfl | rfl
      · omega
      · have e : r' * (now + 1 - m.t) = r' * (now - m.t) + r' := by
          rw [show now + 1 - m.t = (now - m.t) + 1 by omega, Int.mul_add, Int.mul_one]
        omega
/-- the age before anything is confirmed in a tick -/
theorem KpP.ageB {o r : Int} {T : Th} {L : List Mk} {now total conf : Int} {i : Nat} (h : KpP o r T L now total conf i) (ho : 1 ≤ o) (hr : 1 ≤ r) {now' : Int} (hn : now ≤ now' ∧ now' ≤ now + 1) : ageV T now' ≤ o := by
  have e : totM T.l - T.b = conf := by rw [h.ac.tot, h.ac.fb]; omega
  have h9 := age_law h.ac.chk (now := now') (L := L) (by have := h.ac.ft; omega) (by rw [e]; exact h.ac.eq _ (Int.le_refl _))
  rw [e] at h9
  rw [h9]
  unfold oldV
  cases hf : foM conf L with
  | none => show (0 : Int) ≤ o; omega
  | some t =>
    obtain ⟨m, hm, h1, rfl⟩ := foM_mem hf
    show now' - m.t ≤ o
    rcases h.kp m hm with h2 | h2
    · omega
    · have h3 : r * (now - m.t) < r * o := by omega
      have := Int.lt_of_mul_lt_mul_left h3 (by omega)
      omega
theorem KpP.wait0 {o r : Int} {T : Th} {L : List Mk} {now total conf : Int} {i : Nat} (h : KpP o r T L now total conf i) (hi : i ≤ 900) {k : Int} (hk : 1 ≤ k ∧ k ≤ 128) (hkB : k ≤ r * o) (hr1 : 1 ≤ r) (hB : r * o < total - conf + k) :
    ∃ d, 1 ≤ d ∧ writeR T now k = (⟨o, r, now, total - conf, T.l⟩, d, 0) ∧ KpP o r ⟨o, r, now, total - conf, T.l⟩ L now total conf i := by
  obtain ⟨⟨hc, ho, hr, ht, ⟨n1, n2⟩, htt, hb, ⟨c1, c2, c3⟩, he, hm, hl, hls⟩, hbk, hle, hkp⟩ := h
  obtain ⟨e1, e2⟩ := wait_law (now := now) (k := k) hc ⟨by omega, by omega⟩ ⟨by omega, by omega⟩ (by rw [hr, ho]; exact hkB) (by rw [hb, hr, ho]; exact hB)
  rw [ho, hr, hb] at e1
  rw [ho, hr, hb] at e2
  refine ⟨_, ?_, e1, ⟨e2, rfl, rfl, Int.le_refl _, ⟨by omega, by omega⟩, htt, rfl, ⟨by omega, by omega, by omega⟩, he, hm, hl, hls⟩, hbk, hle, hkp⟩
  exact Int.le_ediv_of_mul_le (by omega) (by omega)
/-- what a write is answered -/
theorem KpP.write {o r : Int} {T : Th} {L : List Mk} {now total conf : Int} {i : Nat} (h : KpP o r T L now total conf i) (hi : i ≤ 900) {k : Int} (hk : 1 ≤ k ∧ k ≤ 128) (hr1 : 1 ≤ r) :
    (r * o < k ∧ writeR T now k = (Th.zero, 0, 21)) ∨
    (total - conf + k ≤ r * o ∧ ∃ l' L', writeR T now k = (⟨o, r, now, total - conf + k, l'⟩, 0, 0) ∧ KpP o r ⟨o, r, now, total - conf + k, l'⟩ L' now (total + k) conf (i + 1)) ∨
    (r * o < total - conf + k ∧ ∃ d l', 1 ≤ d ∧ writeR T now k = (⟨o, r, now, total - conf, l'⟩, d, 0) ∧ KpP o r ⟨o, r, now, total - conf, l'⟩ L now total conf i) := by
  by_cases h1 : r * o < k
  · exact .inl ⟨h1, h.over hi hk h1⟩
  · by_cases h2 : total - conf + k ≤ r * o
    · obtain ⟨l', e1, e2⟩ := h.adm hi hk h2
      exact .inr (.inl ⟨h2, l', _, e1, e2⟩)
    · obtain ⟨d, e1, e2, e3⟩ := h.wait0 hi hk (by omega) hr1 (by omega)
      exact .inr (.inr ⟨by omega, d, _, e1, e2, e3⟩)
/-- all sectors asked for are few and some -/
def okQ (q : List Int) : Prop := ∀ x ∈ q, 1 ≤ x ∧ x ≤ 60
/-- what is kept while the writes of a tick are admitted -/
theorem KpP.admW {o r : Int} (hr : 1 ≤ r) {now : Int} : ∀ (q : List Int) {T : Th} {L : List Mk} {total conf : Int} {i : Nat} (f : Bool), KpP o r T L now total conf i → okQ q → i + q.length ≤ 900 →
    ∃ L' total' i', KpP o r (admW T now q f).1 L' now total' conf i' ∧ okQ (admW T now q f).2.1 ∧ i' + (admW T now q f).2.1.length ≤ i + q.length
  | [], T, L, total, conf, i, f, h, _, _ => ⟨L, total, i, h, (fun x hx => by cases hx), Nat.le_refl _⟩
  | x :: q, T, L, total, conf, i, f, h, hq, hi => by
    have hx := hq x (List.mem_cons_self ..)
    have hq' : okQ q := fun y hy => hq y (List.mem_cons_of_mem _ hy)
    rw [List.length_cons] at hi
    rcases h.write (by omega) (k := x) ⟨hx.1, by omega⟩ hr with ⟨_, e⟩ | ⟨_, l', L', e, h'⟩ | ⟨_, d, l', hd, e, h'⟩
    · obtain ⟨L2, t2, i2, k1, k2, k3⟩ := KpP.admW hr q false h hq' (by omega)
      rw [Go.Proofs.Ythkpkjigfaannaa.admW, e, if_pos rfl]
      exact ⟨L2, t2, i2, k1, k2, by rw [List.length_cons]; omega⟩
    · obtain ⟨L2, t2, i2, k1, k2, k3⟩ := KpP.admW hr q f h' hq' (by omega)
      rw [Go.Proofs.Ythkpkjigfaannaa.admW, e, if_neg (show ¬ (0 : Int) = 21 by decide), if_neg (show ¬ (0 : Int) < 0 by decide)]
      exact ⟨L2, t2, i2, k1, k2, by rw [List.length_cons]; dsimp only; omega⟩
    · rw [Go.Proofs.Ythkpkjigfaannaa.admW, e, if_neg (show ¬ (0 : Int) = 21 by decide), if_pos (by show 0 < d; omega)]
      exact ⟨L, total, i, h', hq, Nat.le_refl _⟩
/-- what is kept at the beginning of a tick -/
structure RunOk (ws : List Int) (o r : Int) (k : Nat) (s : Rn) : Prop where
  kp : ∃ L total i, KpP o r s.T L ((k - 1 : Nat) : Int) total s.conf i ∧ i + s.q.length ≤ k + min k ws.length
  q : okQ s.q
  old : s.old ≤ o
theorem askR_ok {ws : List Int} (hws : ∀ x ∈ ws, 0 ≤ x ∧ x ≤ 60) {k : Nat} {q : List Int} (hq : okQ q) : okQ (askR ws k q) ∧ (askR ws k q).length + min k ws.length ≤ q.length + min (k + 1) ws.length := by
  unfold askR
  by_cases h : 0 < ws.getD k 0
  · rw [if_pos h]
    by_cases hk : k < ws.length
    · refine ⟨fun x hx => ?_, by rw [List.length_append, List.length_singleton]; omega⟩
      rcases List.mem_append.1 hx with h1 | h1
      · exact hq x h1
      · rw [List.mem_singleton] at h1
        subst h1
        have : ws.getD k 0 ∈ ws := by
          rw [List.getD_eq_getElem?_getD, List.getElem?_eq_getElem hk]
          exact List.getElem_mem hk
        have := hws _ this
        omega
    · rw [List.getD_eq_getElem?_getD, List.getElem?_eq_none (by omega)] at h
      exact absurd h (by decide)
  · rw [if_neg h]
    exact ⟨hq, by omega⟩
theorem RunOk.back {ws : List Int} {o r : Int} {k : Nat} {s : Rn} (h : RunOk ws o r k s) : 0 ≤ backV s.T ∧ backV s.T ≤ r * o := by
  obtain ⟨L, total, i, h1, _⟩ := h.kp
  rw [h1.ac.back0]
  have h2 := h1.ac.c0
  have h3 := h1.bk
  omega
/-- the throttle behind the confirmation of a tick -/
theorem RunOk.prog {ws : List Int} {o r : Int} {k : Nat} {s : Rn} (h : RunOk ws o r k s) (hk : k ≤ 800) (hws : ws.length ≤ 40) (hr : 1 ≤ r) :
    ∃ l' b' L total i, progR s.T k (s.conf + min r (backV s.T)) = (⟨o, r, k, b', l'⟩, 0) ∧ KpP o r ⟨o, r, k, b', l'⟩ L k total (s.conf + min r (backV s.T)) i ∧ i + s.q.length ≤ k + 1 + min k ws.length := by
  obtain ⟨L, total, i, h1, h2⟩ := h.kp
  have h3 := h1.ac.c0
  have h4 := h1.ac.back0
  obtain ⟨l', e1, e2⟩ := h1.tick' (now' := k) (conf' := s.conf + min r (backV s.T)) (by omega) (by omega) (by rw [h4]; omega) hr
  exact ⟨l', _, L, total, i + 1, e1, e2, by omega⟩
theorem RunOk.tick {ws : List Int} {o r : Int} {k : Nat} {s : Rn} (h : RunOk ws o r k s) (hk : k ≤ 800) (hws : ws.length ≤ 40) (hw : ∀ x ∈ ws, 0 ≤ x ∧ x ≤ 60) (hr : 1 ≤ r) (ho : 1 ≤ o) : RunOk ws o r (k + 1) (tickR ws r k s) := by
  obtain ⟨l', b', L, total, i, e1, e2, e3⟩ := h.prog hk hws hr
  obtain ⟨q1, q2⟩ := askR_ok hw (k := k) h.q
  obtain ⟨L0, t0, i0, h1, h2⟩ := h.kp
  obtain ⟨L2, t2, i2, k1, k2, k3⟩ := e2.admW hr (askR ws k s.q) s.free q1 (by omega)
  have ha := h1.ageB ho hr (now' := k) (by omega)
  have hb := k1.ageB ho hr (now' := k) (by omega)
  have h9 := h.old
  unfold tickR
  dsimp only
  rw [e1]
  exact ⟨⟨L2, t2, i2, k1, by dsimp only at k3 ⊢; omega⟩, k2, by show max (max s.old (ageV s.T k)) _ ≤ o; dsimp only at hb ⊢; omega⟩
theorem runN_ok {ws : List Int} {o r : Int} (hws : ws.length ≤ 40) (hw : ∀ x ∈ ws, 0 ≤ x ∧ x ≤ 60) (hr : 1 ≤ r ∧ r ≤ 1000) (ho : 1 ≤ o ∧ o ≤ 1000) (hB : 0 ≤ r * o) : ∀ k, k ≤ 801 → RunOk ws o r k (runN ws o r k)
  | 0, _ => ⟨⟨[], 0, 0, KpP.start' o r ho hr hB, Nat.zero_le _⟩, (fun x hx => by cases hx), by show (0 : Int) ≤ o; omega⟩
  | k + 1, hk => (runN_ok hws hw hr ho hB k (by omega)).tick (by omega) hws hw hr.1 ho.1
/-- what had to wait is not forgotten -/
theorem admW_false (T : Th) (now : Int) (q : List Int) : (admW T now q false).2.2 = false := by
  induction q generalizing T with
  | nil => rfl
  | cons x q ih =>
    rw [admW]
    split
    · exact ih T
    · split
      · rfl
      · exact ih _
theorem runN_false {ws : List Int} {o r : Int} {k : Nat} (h : (runN ws o r k).free = false) (j : Nat) : (runN ws o r (k + j)).free = false := by
  induction j with
  | zero => exact h
  | succ j ih =>
    show (tickR ws r (k + j) (runN ws o r (k + j))).free = false
    unfold tickR
    rw [ih]
    exact admW_false ..
/-- nothing is asked for any more -/
theorem runN_idle {ws : List Int} {o r : Int} {k : Nat} (hk : ws.length ≤ k) (h : (runN ws o r k).q = []) (j : Nat) : (runN ws o r (k + j)).q = [] ∧ (runN ws o r (k + j)).free = (runN ws o r k).free := by
  induction j with
  | zero => exact ⟨h, rfl⟩
  | succ j ih =>
    have e : runN ws o r (k + (j + 1)) = tickR ws r (k + j) (runN ws o r (k + j)) := rfl
    have e2 : askR ws (k + j) [] = [] := by
      unfold askR
      rw [List.getD_eq_getElem?_getD, List.getElem?_eq_none (by omega)]
      rfl
    rw [e]
    unfold tickR
    dsimp only
    rw [ih.1, e2]
    exact ⟨rfl, ih.2⟩
end Go.Proofs.Ythkpkjigfaannaa
