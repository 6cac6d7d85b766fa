/- What Push, Poll and Ack leave as a queue is new: the words. No condition. -/
import Derived.Test.YtanmndhdhlmjgaaXc
namespace Go.Proofs.Ytanmndhdhlmjgaa.Fr
open Go.RowKit
/-- the queue of a sender's value is new, or empty -/
def FreshQ (low : Nat) (u : Value) : Prop := ∀ cs, u = .agg cs → ∀ g, (cs.getD 7 undef).ownBlock = some g → low ≤ g
theorem freshQ_of {low : Nat} {c0 c1 c2 c3 c4 c5 c6 vq : Value} (h : ∀ g, vq.ownBlock = some g → low ≤ g) : FreshQ low (.agg #[c0, c1, c2, c3, c4, c5, c6, vq]) := by
  intro cs e
  injection e with e
  subst e
  exact h
theorem freshQ_nil {low : Nat} {c0 c1 c2 c3 c4 c5 c6 : Value} : FreshQ low (.agg #[c0, c1, c2, c3, c4, c5, c6, .slice none 0 0]) := freshQ_of (fun g e => by simp [Value.ownBlock] at e)
theorem freshQ_own {low base : Nat} {W : World} {n : Nat} {xs : List Value} {c0 c1 c2 c3 c4 c5 c6 vq : Value} (h : W.ownsRow low 42 1 vq n xs) (hb : base ≤ low) : FreshQ base (.agg #[c0, c1, c2, c3, c4, c5, c6, vq]) :=
  freshQ_of (fun g e => Nat.le_trans hb (own_block_ge h g e))
/-- the iterator's boxes, the sender's box and rows, and a box of the caller's -/
structure DueI (B RB p1 p2 p3 p4 base bs : Nat) (now : Int) (m : Sm) (vo vq : Value) (es : List Oe) (qs : List Qe) (W : World) : Prop where
  c1 : Blk W p1 96 #[.pointer (some ⟨B, 0, none⟩)]
  c2 : Blk W p2 115 #[.func (.func 77) #[] #[.pointer (some ⟨p3, 0, none⟩), .pointer (some ⟨p1, 0, none⟩)]]
  c3 : Blk W p3 3 #[.int .i64 now]
  c4 : Blk W p4 40 #[.func (.func 78) #[] #[.pointer (some ⟨p1, 0, none⟩)]]
  rb : Blk W RB 25 Z8A
  blk : Blk W B 25 (snC m vo vq)
  own : Own1 encO OeR 82 5 W base bs vo es
  om : es.map Oe.om = m.out
  vec : Vec encQ QeR 42 1 W base vq qs
  qm : qs.map Qe.p = m.q
  fr : ∀ g, vq.ownBlock = some g → bs ≤ g
section
variable {B RB p1 p2 p3 p4 base bs : Nat} {now : Int} {m : Sm} {vo vq : Value} {es : List Oe} {qs : List Qe} {W W' : World}
theorem DueI.below (h : DueI B RB p1 p2 p3 p4 base bs now m vo vq es qs W) (hb : Below W.heap.size W W') : DueI B RB p1 p2 p3 p4 base bs now m vo vq es qs W' :=
  ⟨h.c1.below hb h.c1.lt, h.c2.below hb h.c2.lt, h.c3.below hb h.c3.lt, h.c4.below hb h.c4.lt, h.rb.below hb h.rb.lt, h.blk.below hb h.blk.lt, h.own.up hb (oeR_ab (by simp)), h.om, h.vec.up hb (qeR_ab (by simp)), h.qm, h.fr⟩
theorem DueI.turnW (h : DueI B RB p1 p2 p3 p4 base bs now m vo vq es qs W) (hT : TurnW bs [48, 55] W W') (hbs : base ≤ bs) : DueI B RB p1 p2 p3 p4 base bs now m vo vq es qs W' :=
  ⟨h.c1.turnW hT (by simp), h.c2.turnW hT (by simp), h.c3.turnW hT (by simp), h.c4.turnW hT (by simp), h.rb.turnW hT (by simp), h.blk.turnW hT (by simp), h.own.turnW (hT.base hbs) (by simp) (oeR_abW (by simp)), h.om, h.vec.turnW (hT.base hbs) (by simp) (qeR_abW (by simp)), h.qm, h.fr⟩
/-- a store into a cell of the sender's box -/
theorem DueI.cell (h : DueI B RB p1 p2 p3 p4 base bs now m vo vq es qs W) (hbs : base ≤ bs) (hB : bs ≤ B) (hne : B ≠ RB) (k : Nat) (u : Value) (m' : Sm) (vq' : Value) (qs' : List Qe) (hc : (snC m vo vq).setIfInBounds k u = snC m' vo vq') (ho : m'.out = m.out)
    (hv : Vec encQ QeR 42 1 W base vq' qs') (hq : qs'.map Qe.p = m'.q) (hf : ∀ g, vq'.ownBlock = some g → bs ≤ g) : DueI B RB p1 p2 p3 p4 base bs now m' vo vq' es qs' (W.setCell ⟨B, k, none⟩ u) ∧ Turn bs [25] W (W.setCell ⟨B, k, none⟩ u) := by
  have hT : Turn bs [25] W (W.setCell ⟨B, k, none⟩ u) := (Turn.refl bs [25] W).set h.blk (by simp) hB k u
  have hTb := hT.base hbs
  have hk := h.blk.set_ k u
  rw [hc] at hk
  exact ⟨⟨h.c1.turn hT (by simp), h.c2.turn hT (by simp), h.c3.turn hT (by simp), h.c4.turn hT (by simp), h.rb.far (p := ⟨B, k, none⟩) (fun e => hne e.symm) u, hk, h.own.turn hTb (by simp) (oeR_ab (by simp)), by rw [ho]; exact h.om, hv.turn hTb (by simp) (qeR_ab (by simp)), hq, hf⟩, hT⟩
/-- an outstanding payload is sent again -/
theorem DueI.elem {g n c : Nat} {k : Nat} (h : DueI B RB p1 p2 p3 p4 base bs now m (.slice (some ⟨g, 0, none⟩) n c) vq es qs W) (hbs : base ≤ bs) (hn : es.length = n) (hk : k < es.length) (hg : bs ≤ g) (b : Oe) (hb : b = { es[k] with time := now, cnt := es[k].cnt + 1 }) :
    DueI B RB p1 p2 p3 p4 base bs now { m with out := (es.set k b).map Oe.om } (.slice (some ⟨g, 0, none⟩) n c) vq (es.set k b) qs ((W.setCell ⟨g, k * 5 + 1, none⟩ (.int .i64 now)).setCell ⟨g, k * 5 + 2, none⟩ (.int .i64 (es[k].cnt + 1))) ∧
      Turn bs [82] W ((W.setCell ⟨g, k * 5 + 1, none⟩ (.int .i64 now)).setCell ⟨g, k * 5 + 2, none⟩ (.int .i64 (es[k].cnt + 1))) := by
  subst hn
  have hr := h.own.el _ (List.getElem_mem hk)
  obtain ⟨s1, t1⟩ := Own1.set (base := base) h.own hbs (oeR_ab (by simp)) encO_len hk (j := 1) (by omega) { es[k] with time := now } (.int .i64 now) rfl hr
  have hk1 : k < (es.set k { es[k] with time := now }).length := by rw [List.length_set]; exact hk
  have he1 : (es.set k { es[k] with time := now })[k] = { es[k] with time := now } := by simp
  have hl1 : (es.set k { es[k] with time := now }).length = es.length := List.length_set
  obtain ⟨s2, t2⟩ := Own1.set (base := base) (by rw [← hl1] at s1; exact s1) hbs (oeR_ab (by simp)) encO_len hk1 (j := 2) (by omega) b (.int .i64 (es[k].cnt + 1)) (by rw [he1, hb]; rfl) (by rw [hb]; exact oeR_ab (T := [82]) (by simp) _ _ _ _ t1 hr)
  rw [hl1, List.set_set] at s2
  obtain ⟨cur, hcur⟩ : ∃ cur, Blk W g 82 cur := by
    obtain ⟨g2, c2, cur, hv, _, hbl, _⟩ := h.own.form encO_len (by omega)
    injection hv with hA
    injection hA with hA
    injection hA with hA
    subst hA
    exact ⟨cur, hbl⟩
  have hT : Turn bs [82] W ((W.setCell ⟨g, k * 5 + 1, none⟩ (.int .i64 now)).setCell ⟨g, k * 5 + 2, none⟩ (.int .i64 (es[k].cnt + 1))) :=
    ((Turn.refl bs [82] W).set hcur (by simp) hg (k * 5 + 1) _).set (hcur.set_ (k * 5 + 1) _) (by simp) hg (k * 5 + 2) _
  have hTb := hT.base hbs
  exact ⟨⟨h.c1.turn hT (by simp), h.c2.turn hT (by simp), h.c3.turn hT (by simp), h.c4.turn hT (by simp), h.rb.turn hT (by simp), h.blk.turn hT (by simp), s2, rfl, h.vec.turn hTb (by simp) (qeR_ab (by simp)), h.qm, h.fr⟩, hT⟩
/-- an outstanding payload is appended, and its row stored -/
theorem DueI.push {b : Oe} {v' : Value} (h : DueI B RB p1 p2 p3 p4 base bs now m vo vq es qs W) (hbs : base ≤ bs) (hB : bs ≤ B) (hne : B ≠ RB) (hp : Pushed encO OeR 82 5 base bs es b W v' W') :
    DueI B RB p1 p2 p3 p4 base bs now { m with out := m.out ++ [b.om] } v' vq (es ++ [b]) qs (W'.setCell ⟨B, 6, none⟩ v') ∧ Turn bs [25, 82] W (W'.setCell ⟨B, 6, none⟩ v') := by
  have hT1 := hp.turn
  have hk1 := h.blk.turn hT1 (by simp)
  have hT2 : Turn bs [25] W' (W'.setCell ⟨B, 6, none⟩ v') := (Turn.refl bs [25] W').set hk1 (by simp) hB 6 v'
  have hT : Turn bs [25, 82] W (W'.setCell ⟨B, 6, none⟩ v') := (hT1.mono (by simp)).trans (hT2.mono (by simp))
  have hTb := hT.base hbs
  exact ⟨⟨h.c1.turn hT (by simp), h.c2.turn hT (by simp), h.c3.turn hT (by simp), h.c4.turn hT (by simp), (h.rb.turn hT1 (by simp)).far (p := ⟨B, 6, none⟩) (fun e => hne e.symm) v', hk1.set_ 6 v', hp.own.turn (hT2.base hbs) (by simp) (oeR_ab (by simp)), by rw [List.map_append, h.om]; rfl, h.vec.turn hTb (by simp) (qeR_ab (by simp)), h.qm, h.fr⟩, hT⟩
end
end Go.Proofs.Ytanmndhdhlmjgaa.Fr
