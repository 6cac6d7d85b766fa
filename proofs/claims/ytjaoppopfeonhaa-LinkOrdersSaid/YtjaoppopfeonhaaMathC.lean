/- What Send does to links in order. No condition. -/
import Derived.Test.YtjaoppopfeonhaaMathB
import Derived.Test.YtjaoppopfeonhaaLa
namespace Go.Proofs.Ytjaoppopfeonhaa
theorem sendN_ok (k : Nat) : ∀ (l : Lm) (en : Int) (p : List Nat) (r : List Int), OkL l → l.dn = false → 0 ≤ en → en + l.ma ≤ 1073741824 → p.length ≤ 65536 → l.nx + k ≤ 1073741824 → l.fl.length + k ≤ 4096 →
    OkL (sendN k l en p r).1 ∧ (sendN k l en p r).1.dn = false ∧ (sendN k l en p r).1.mi = l.mi ∧ (sendN k l en p r).1.ma = l.ma ∧ (sendN k l en p r).1.ra = l.ra ∧ (sendN k l en p r).1.idle = l.idle ∧ (sendN k l en p r).1.nx = l.nx + k := by
  induction k with
  | zero => intro l en p r h hd _ _ _ _ _; exact ⟨h, hd, rfl, rfl, rfl, rfl, by simp [sendN]⟩
  | succ k ih =>
    intro l en p r h hd h0 h1 h2 h3 h4
    rw [sendN_succ]
    have hb := decV_b r (n := l.ma - l.mi + 1) (by have := h.mima; omega)
    have hmi := h.mi0
    have hnx := h.nx0
    have hx : wrongE ⟨en + l.mi + decV r (l.ma - l.mi + 1), l.nx, p⟩ (l.nx + 1) = 0 := wrong_of ⟨by dsimp only; omega, by dsimp only; omega, by dsimp only; omega, by dsimp only; omega, by dsimp only; omega⟩
    have hP := ok_ins (okP_of h) (x := ⟨en + l.mi + decV r (l.ma - l.mi + 1), l.nx, p⟩) rfl hx (by omega)
    have hO : OkL { l with fl := insE ⟨en + l.mi + decV r (l.ma - l.mi + 1), l.nx, p⟩ l.fl, nx := l.nx + 1 } := by
      refine OkP.q (l := { l with fl := insE ⟨en + l.mi + decV r (l.ma - l.mi + 1), l.nx, p⟩ l.fl, nx := l.nx + 1 }) hP ⟨h.mi0, h.mima, h.ma, h.ra0, h.ra, h.idle0, h.idle, by dsimp only; rw [insE_len]; omega, fun e => ?_⟩
      dsimp only at e
      rw [hd] at e
      cases e
    obtain ⟨a1, a2, a3, a4, a5, a6, a7⟩ := ih _ en p (decR r) hO hd h0 h1 h2 (by dsimp only; omega) (by dsimp only; rw [insE_len]; omega)
    exact ⟨a1, a2, a3, a4, a5, a6, by rw [a7]; dsimp only; omega⟩
/-- Send sends -/
theorem send_ok {l : Lm} {now : Int} {p : List Nat} {cs : List Int} (h : OkL l) (hd : l.dn = false) (hn : 0 ≤ now ∧ now ≤ 1073741824) (hp : p.length ≤ 65536) (he : endM l now p.length + l.ma ≤ 1073741824) (hl : l.fl.length ≤ 4094) (hx : l.nx ≤ 1073741822) :
    sendM l now p cs = ⟨(sendN (timesOf (decV cs 3)) { l with idle := endM l now p.length } (endM l now p.length) p (decR cs)).1, (sendN (timesOf (decV cs 3)) { l with idle := endM l now p.length } (endM l now p.length) p (decR cs)).2, 0⟩ := by
  unfold sendM
  rw [if_neg (by rw [chkL_of h]; simp), if_neg (by omega), if_neg (by omega), if_neg (by rw [hd]; simp), if_neg (by omega), if_neg (by omega)]
theorem end_lo {l : Lm} {now : Int} {b : Nat} (h : OkL l) (hb : b ≤ 100000) : now ≤ endM l now b ∧ l.idle ≤ endM l now b := by
  have := ticks_b b l.ra hb h.ra0 h.ra
  unfold endM
  have h1 := Int.le_max_left now l.idle
  have h2 := Int.le_max_right now l.idle
  omega
/-- what Send leaves -/
theorem send_facts {l : Lm} {now : Int} {p : List Nat} {cs : List Int} (h : OkL l) (hd : l.dn = false) (hn : 0 ≤ now ∧ now ≤ 1073741824) (hp : p.length ≤ 65536) (he : endM l now p.length + l.ma ≤ 1073741824) (hl : l.fl.length ≤ 4094) (hx : l.nx ≤ 1073741822) :
    (sendM l now p cs).e = 0 ∧ OkL (sendM l now p cs).l ∧ (sendM l now p cs).l.dn = false ∧ (sendM l now p cs).l.mi = l.mi ∧ (sendM l now p cs).l.ma = l.ma ∧ (sendM l now p cs).l.ra = l.ra ∧ (sendM l now p cs).l.idle = endM l now p.length ∧ (sendM l now p cs).l.nx = l.nx + timesOf (decV cs 3) ∧ (sendM l now p cs).l.fl.length = l.fl.length + timesOf (decV cs 3) ∧ (sendM l now p cs).r.length ≤ cs.length := by
  have ht := times_le (decV cs 3)
  obtain ⟨e1, e2⟩ := end_lo (now := now) (b := p.length) h (by omega)
  have hma : 0 ≤ l.ma := by have := h.mi0; have := h.mima; omega
  have hO : OkL { l with idle := endM l now p.length } := ⟨h.mi0, h.mima, h.ma, h.ra0, h.ra, by dsimp only; omega, by dsimp only; omega, h.nx0, h.nx, h.len, h.dn, h.each, h.ord, h.dis⟩
  obtain ⟨a1, a2, a3, a4, a5, a6, a7⟩ := sendN_ok (timesOf (decV cs 3)) _ (endM l now p.length) p (decR cs) hO hd (by omega) he hp (by dsimp only; omega) (by dsimp only; omega)
  obtain ⟨b1, b2⟩ := sendN_len (timesOf (decV cs 3)) { l with idle := endM l now p.length } (endM l now p.length) p (decR cs)
  rw [send_ok h hd hn hp he hl hx]
  refine ⟨rfl, a1, a2, a3, a4, a5, a6, a7, b1, ?_⟩
  unfold decR at b2 ⊢
  rw [List.length_drop] at b2
  dsimp only
  omega
end Go.Proofs.Ytjaoppopfeonhaa
