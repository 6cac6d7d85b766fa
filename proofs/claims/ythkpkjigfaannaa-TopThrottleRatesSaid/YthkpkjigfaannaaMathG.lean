/- Plain laws of ThrottleWaits: the delay falls by one at each tick. No condition. -/
import Derived.Test.YthkpkjigfaannaaMathF
import Derived.Test.YthkpkjigfaannaaWn
namespace Go.Proofs.Ythkpkjigfaannaa
open Go.RowKit
theorem delay_law {e r d : Int} (hr : 1 ≤ r) (hd : (e + r - 1) / r = d) : (d - 1) * r < e ∧ e ≤ d * r := by
  have h1 := Int.ediv_mul_le (e + r - 1) (show r ≠ 0 by omega)
  have h2 := Int.lt_ediv_add_one_mul_self (e + r - 1) (show 0 < r by omega)
  rw [hd] at h1 h2
  rw [Int.add_mul, Int.one_mul] at h2
  rw [Int.sub_mul, Int.one_mul]
  omega
theorem delay_one {e r c d : Int} (hr : 1 ≤ r) (h1 : (c - 1) * r < e ∧ e ≤ c * r) (h2 : (d - 1) * r < e ∧ e ≤ d * r) : d = c := by
  have h3 : (c - 1) * r < d * r := by omega
  have h4 : (d - 1) * r < c * r := by omega
  have := Int.lt_of_mul_lt_mul_right h3 (by omega)
  have := Int.lt_of_mul_lt_mul_right h4 (by omega)
  omega
theorem KpP.waitd {o r : Int} {T : Th} {L : List Mk} {now total conf : Int} {i : Nat} (h : KpP o r T L now total conf i) (hi : i ≤ 900) {k : Int} (hk : 1 ≤ k ∧ k ≤ 128) (hkB : k ≤ r * o) (hr1 : 1 ≤ r) (hB : r * o < total - conf + k) :
    ∃ l' d, ((d - 1) * r < total - conf + k - r * o ∧ total - conf + k - r * o ≤ d * r) ∧ (1 ≤ d ∧ d ≤ o) ∧ writeR T now k = (⟨o, r, now, total - conf, l'⟩, d, 0) ∧ KpP o r ⟨o, r, now, total - conf, l'⟩ L now total conf (i + 1) := by
  obtain ⟨⟨hc, ho, hr, ht, ⟨n1, n2⟩, htt, hb, ⟨c1, c2, c3⟩, he, hm, hl, hls⟩, hbk, hle, hkp⟩ := h
  obtain ⟨e1, e2⟩ := wait_law (now := now) (k := k) hc ⟨by omega, by omega⟩ ⟨by omega, by omega⟩ (by rw [hr, ho]; exact hkB) (by rw [hb, hr, ho]; exact hB)
  rw [ho, hr, hb] at e1
  rw [ho, hr, hb] at e2
  obtain ⟨d, hd⟩ : ∃ d, (total - conf + k - r * o + r - 1) / r = d := ⟨_, rfl⟩
  rw [hd] at e1
  have h4 := delay_law hr1 hd
  refine ⟨T.l, d, h4, ⟨?_, ?_⟩, e1, ⟨e2, rfl, rfl, Int.le_refl _, ⟨by omega, by omega⟩, htt, rfl, ⟨by omega, by omega, by omega⟩, he, hm, by omega, by show T.l.length ≤ i + 1; omega⟩, hbk, hle, hkp⟩
  · rw [← hd]; exact Int.le_ediv_of_mul_le (by omega) (by omega)
  · have h5 : (d - 1) * r < o * r := by rw [Int.mul_comm o r]; omega
    have := Int.lt_of_mul_lt_mul_right h5 (by omega)
    omega
/-- what the inner loop of ThrottleWaits knows -/
structure WtP (o r : Int) (T : Th) (L : List Mk) (now total conf n d : Int) (i : Nat) : Prop where
  kp : KpP o r T L now total conf i
  lo : (d - 1) * r < total - conf + n - r * o
  up : total - conf + n - r * o ≤ d * r
/-- a tick, the delay not over -/
theorem WtP.tick {o r : Int} {T : Th} {L : List Mk} {now total conf n d : Int} {i : Nat} (h : WtP o r T L now total conf n d i) (hi : i + 1 ≤ 900) (hn : 1 ≤ n ∧ n ≤ 128) (hnB : n ≤ r * o) (hr : 1 ≤ r) (hd : 2 ≤ d) {now' conf' : Int} (hn' : now' = now + 1) (hc : (total ≤ conf + r ∧ conf' = total) ∨ conf' = conf + r) :
    ∃ l' l'', progR T now' conf' = (⟨o, r, now', total - conf', l'⟩, 0) ∧ writeR ⟨o, r, now', total - conf', l'⟩ now' n = (⟨o, r, now', total - conf', l''⟩, d - 1, 0) ∧ WtP o r ⟨o, r, now', total - conf', l'⟩ L now' total conf' n (d - 1) (i + 1) := by
  obtain ⟨hk, hlo, hup⟩ := h
  have h1 : r ≤ (d - 1) * r := by
    have := Int.mul_le_mul_of_nonneg_right (show 1 ≤ d - 1 by omega) (show 0 ≤ r by omega)
    omega
  have hc1 := hk.ac.c0
  have h2 : conf' = conf + r := by omega
  subst h2
  obtain ⟨l', e1, e2⟩ := hk.tick (by omega) hn' (conf' := conf + r) (.inr ⟨by omega, by omega⟩) hr
  have e3 : (d - 1) * r = (d - 1 - 1) * r + r := by rw [Int.sub_mul (d - 1), Int.one_mul]; omega
  have e4 : d * r = (d - 1) * r + r := by rw [Int.sub_mul, Int.one_mul]; omega
  obtain ⟨l'', d', e5, e6, e7, e8⟩ := e2.waitd hi hn hnB hr (by omega)
  have e9 : d' = d - 1 := delay_one hr ⟨by omega, by omega⟩ e5
  subst e9
  exact ⟨l', l'', e1, e7, e2, by omega, by omega⟩
/-- the last tick: the write is admitted -/
theorem WtP.last {o r : Int} {T : Th} {L : List Mk} {now total conf n : Int} {i : Nat} (h : WtP o r T L now total conf n 1 i) (hi : i + 1 ≤ 900) (hn : 1 ≤ n ∧ n ≤ 128) (hnB : n ≤ r * o) (hr : 1 ≤ r) {now' conf' : Int} (hn' : now' = now + 1) (hc : (total ≤ conf + r ∧ conf' = total) ∨ (conf' = conf + r ∧ conf' ≤ total)) :
    ∃ l' l'', progR T now' conf' = (⟨o, r, now', total - conf', l'⟩, 0) ∧ l'.length ≤ i + 1 ∧ writeR ⟨o, r, now', total - conf', l'⟩ now' n = (⟨o, r, now', total - conf' + n, l''⟩, 0, 0) ∧ KpP o r ⟨o, r, now', total - conf' + n, l''⟩ (L ++ [⟨now', total + n⟩]) now' (total + n) conf' (i + 2) := by
  obtain ⟨hk, hlo, hup⟩ := h
  have hc1 := hk.ac.c0
  rw [Int.one_mul] at hup
  obtain ⟨l', e1, e2⟩ := hk.tick (by omega) hn' (conf' := conf') (by omega) hr
  obtain ⟨l'', e3, e4⟩ := e2.adm hi hn (by omega)
  exact ⟨l', l'', e1, e2.ac.lens, e3, e4⟩
/-- what the inner loop knows: the write is admitted, or has to wait -/
def WtS (o r : Int) (T : Th) (L : List Mk) (now total conf n d : Int) (i : Nat) : Prop :=
  (d = 0 ∧ KpP o r T L now (total + n) conf (i + 14)) ∨ ((1 ≤ d ∧ d ≤ 12) ∧ WtP o r T L now total conf n d (i + (13 - d).toNat))
theorem KpP.begin {o r : Int} {T : Th} {L : List Mk} {now total conf : Int} {i : Nat} (h : KpP o r T L now total conf i) (hi : i + 14 ≤ 900) {n : Int} (hn : 1 ≤ n ∧ n ≤ 128) (hnB : n ≤ r * o) (hr : 1 ≤ r) (ho : o ≤ 12) :
    ∃ l' b' d L', 0 ≤ d ∧ writeR T now n = (⟨o, r, now, b', l'⟩, d, 0) ∧ WtS o r ⟨o, r, now, b', l'⟩ L' now total conf n d i := by
  by_cases hB : total - conf + n ≤ r * o
  · obtain ⟨l', e1, e2⟩ := h.adm (by omega) hn hB
    exact ⟨l', _, 0, _, Int.le_refl _, e1, .inl ⟨rfl, e2.mono (by omega)⟩⟩
  · obtain ⟨l', d, e1, ⟨e2, e3⟩, e4, e5⟩ := h.waitd (by omega) hn hnB hr (by omega)
    exact ⟨l', _, d, L, by omega, e4, .inr ⟨⟨e2, by omega⟩, e5.mono (by omega), e1.1, e1.2⟩⟩
theorem WtP.more {o r : Int} {T : Th} {L : List Mk} {now total conf n d : Int} {i : Nat} (h : WtP o r T L now total conf n d i) (hnB : n ≤ r * o) (hr : 1 ≤ r) (hd : 2 ≤ d) : conf + r < total := by
  have h1 : r ≤ (d - 1) * r := by
    have := Int.mul_le_mul_of_nonneg_right (show 1 ≤ d - 1 by omega) (show 0 ≤ r by omega)
    omega
  have h2 := h.lo
  omega
theorem WtP.tickS {o r : Int} {T : Th} {L : List Mk} {now total conf n d : Int} {i : Nat} (h : WtP o r T L now total conf n d (i + (13 - d).toNat)) (hi : i + 14 ≤ 900) (hn : 1 ≤ n ∧ n ≤ 128) (hnB : n ≤ r * o) (hr : 1 ≤ r) (hd : 2 ≤ d ∧ d ≤ 12) {now' conf' d' : Int} (hn' : now' = now + 1) (hc : conf' = conf + r) (hd' : d' = d - 1) :
    ∃ l' l'', progR T now' conf' = (⟨o, r, now', total - conf', l'⟩, 0) ∧ l'.length ≤ 1000 ∧ writeR ⟨o, r, now', total - conf', l'⟩ now' n = (⟨o, r, now', total - conf', l''⟩, d', 0) ∧ WtS o r ⟨o, r, now', total - conf', l'⟩ L now' total conf' n d' i := by
  subst hd'
  obtain ⟨l', l'', e1, e2, e3⟩ := h.tick (by omega) hn hnB hr hd.1 hn' (.inr hc)
  have e4 : i + (13 - d).toNat + 1 = i + (13 - (d - 1)).toNat := by omega
  rw [e4] at e3
  have h5 := e3.kp.ac.lens
  exact ⟨l', l'', e1, by dsimp only at h5; omega, e2, .inr ⟨⟨by omega, by omega⟩, e3⟩⟩
theorem WtP.lastS {o r : Int} {T : Th} {L : List Mk} {now total conf n : Int} {i : Nat} (h : WtP o r T L now total conf n 1 (i + (13 - 1 : Int).toNat)) (hi : i + 14 ≤ 900) (hn : 1 ≤ n ∧ n ≤ 128) (hnB : n ≤ r * o) (hr : 1 ≤ r) {now' conf' : Int} (hn' : now' = now + 1) (hc : (total ≤ conf + r ∧ conf' = total) ∨ (conf' = conf + r ∧ conf' ≤ total)) :
    ∃ l' l'' L', progR T now' conf' = (⟨o, r, now', total - conf', l'⟩, 0) ∧ l'.length ≤ 1000 ∧ writeR ⟨o, r, now', total - conf', l'⟩ now' n = (⟨o, r, now', total - conf' + n, l''⟩, 0, 0) ∧ WtS o r ⟨o, r, now', total - conf' + n, l''⟩ L' now' total conf' n 0 i := by
  obtain ⟨l', l'', e1, e2, e3, e4⟩ := h.last (by omega) hn hnB hr hn' hc
  exact ⟨l', l'', _, e1, by omega, e3, .inl ⟨rfl, e4.mono (by omega)⟩⟩
theorem AwI.put2 {w W : World} {g : Nat} {T T' : Th} {A A' : Option Addr} {n c n' c' : Nat} (h : AwI w g T A n c W) (hR : RdM W A' n' T'.l) (hne : ∀ ad, A' = some ad → ad.block ≠ g) :
    AwI w g T' A' n' c' (((((W.setCell ⟨g, 0, none⟩ (.int .i64 T'.o)).setCell ⟨g, 1, none⟩ (.int .i64 T'.r)).setCell ⟨g, 2, none⟩ (.int .i64 T'.t)).setCell ⟨g, 3, none⟩ (.int .i64 T'.b)).setCell ⟨g, 4, none⟩ (.slice A' n' c')) :=
  ⟨set5 h.blk, RdM.far5 hR hne, hne, bel5 h.bel h.low, h.low⟩
end Go.Proofs.Ythkpkjigfaannaa
