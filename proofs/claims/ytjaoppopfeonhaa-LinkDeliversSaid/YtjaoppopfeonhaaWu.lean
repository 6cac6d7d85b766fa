/- The walk of the reference's Deliver. Condition: at most 4000 flights, sizes as named. -/
import Derived.Test.YtjaoppopfeonhaaWt
import Derived.Test.YtjaoppopfeonhaaWn
namespace Go.Proofs.Ytjaoppopfeonhaa
open Go.RowKit
theorem reads_grown {W W' : World} {n : Nat} {A : Option Addr} {xs : List Value} {row : Option Nat} (h : Reads W W.heap.size 1 A n xs) (hf : ∀ ad, 0 < n → A = some ad → row ≠ some ad.block) (hg : W.grownBy W' row) : Reads W' W'.heap.size 1 A n xs := by
  refine ⟨h.1, fun hn => ?_⟩
  obtain ⟨ad, hA, hb, hc⟩ := h.2 hn
  refine ⟨ad, hA, Nat.lt_of_lt_of_le hb hg.size, fun j u hu => ?_⟩
  refine (World.cell?_of_block (hg.block _ (by rw [block_of_add]; exact hb) ?_)).trans (hc j u hu)
  rw [block_of_add]
  exact fun e1 => hf ad hn hA e1.symm
/-- what the loop of the reference's Deliver has made -/
structure DrI (w : World) (low go : Nat) (C2 C4 : Array Value) (l0 : Lm) (L : List Em) (q i : Nat) (u v : Value) (pl : List Pl) (es : List Ev) (W : World) : Prop where
  b2 : Blk W w.heap.size 26 C2
  b4 : Blk W (w.heap.size + 1) 26 C4
  bo : Blk W go 26 (lkV l0 v)
  row : W.ownsRow low 37 1 u (List.length pl) (pl.map encPl)
  pr : ∀ x ∈ pl, PlR W x
  own : OwnE W low v es
  ep : es.map Ev.em = (L.take i).drop q
  pp : pl.map Pl.p = (L.take (min i q)).map Em.p
  npl : ∀ x ∈ pl, ∀ ad, 0 < x.p.length → x.A = some ad → low ≤ ad.block
  nes : NewP low es
  su : ∀ x ∈ pl, ∀ ad, 0 < x.p.length → x.A = some ad → u.ownBlock ≠ some ad.block ∧ v.ownBlock ≠ some ad.block
  sv : ∀ e ∈ es, ∀ ad, 0 < e.p.length → e.A = some ad → u.ownBlock ≠ some ad.block
  bel : Below w.heap.size w W
theorem DrI.below {w : World} {low go : Nat} {C2 C4 : Array Value} {l0 : Lm} {L : List Em} {q i : Nat} {u v : Value} {pl : List Pl} {es : List Ev} {W W' : World} (h : DrI w low go C2 C4 l0 L q i u v pl es W) (hb : Below W.heap.size W W') : DrI w low go C2 C4 l0 L q i u v pl es W' :=
  ⟨h.b2.below hb h.b2.lt, h.b4.below hb h.b4.lt, h.bo.below hb h.bo.lt, own_below h.row hb, fun x hx => Reads.up (h.pr x hx) hb, h.own.below hb, h.ep, h.pp, h.npl, h.nes, h.su, h.sv, h.bel.trans (hb.mono h.bel.size)⟩
theorem new_ne {W : World} {x : Pl} (h : PlR W x) {ad : Addr} (h0 : 0 < x.p.length) (hA : x.A = some ad) : ad.block < W.heap.size := by
  obtain ⟨ad', hA', hb, _⟩ := h.2 h0
  rw [hA] at hA'
  cases hA'
  exact hb
theorem old_new {W : World} {u u' : Value} {b : Nat} (hu : u'.ownBlock = u.ownBlock ∨ u'.ownBlock = some W.heap.size) (hb : b < W.heap.size) (h : u.ownBlock ≠ some b) : u'.ownBlock ≠ some b := by
  rcases hu with e | e
  · rw [e]; exact h
  · rw [e]; intro e2; injection e2 with e2; omega
/-- a payload is appended -/
theorem DrI.pushU {w : World} {low go : Nat} {C2 C4 : Array Value} {l0 : Lm} {L : List Em} {q i : Nat} {u u' v : Value} {pl : List Pl} {es : List Ev} {W W' : World} {x : Pl} {e : Em} (h : DrI w low go C2 C4 l0 L q i u v pl es W)
    (hr : W'.ownsRow low 37 1 u' (pl.length + 1) (pl.map encPl ++ [encPl x])) (hg : W.grownBy W' u.ownBlock) (hu : u'.ownBlock = u.ownBlock ∨ u'.ownBlock = some W.heap.size) (hx : PlR W x) (hxn : ∀ ad, 0 < x.p.length → x.A = some ad → low ≤ ad.block ∧ u.ownBlock ≠ some ad.block ∧ v.ownBlock ≠ some ad.block)
    (hi : i < q) (he : L[i]? = some e) (hxe : x.p = e.p) (hlow : w.heap.size ≤ low) : DrI w low go C2 C4 l0 L q (i + 1) u' v (pl ++ [x]) es W' := by
  have hrow : ∀ b, u.ownBlock = some b → ∃ cur, Blk W b 37 cur := fun b hb => own_tag h.row hb
  have htk : L.take (i + 1) = L.take i ++ [e] := by rw [List.take_add_one, he]; rfl
  have hil : i < L.length := (List.getElem?_eq_some_iff.1 he).1
  refine ⟨h.b2.grown hg (fun e => by obtain ⟨cur, h9⟩ := hrow _ e.symm; exact h.b2.tag h9 (by decide) rfl), h.b4.grown hg (fun e => by obtain ⟨cur, h9⟩ := hrow _ e.symm; exact h.b4.tag h9 (by decide) rfl), h.bo.grown hg (fun e => by obtain ⟨cur, h9⟩ := hrow _ e.symm; exact h.bo.tag h9 (by decide) rfl), by simpa using hr, fun y hy => ?_, ⟨own_keep h.own.own (fun b hb => hg.block b (own_lt h.own.own b hb) (fun e => by obtain ⟨c1, h1⟩ := own_tag h.own.own hb; obtain ⟨c2, h2⟩ := hrow b e.symm; exact h1.tag h2 (by decide) rfl)), fun y hy => ⟨evR_grown (h.own.ev y hy).1 (h.sv y hy) hg, (h.own.ev y hy).2⟩⟩, ?_, ?_, fun y hy => ?_, h.nes, fun y hy => ?_, fun y hy ad h0 hA => ?_, h.bel.grown hg h.bel.size (fun b hb => by have := own_block_ge h.row b hb; omega)⟩
  · rcases List.mem_append.1 hy with hy | hy
    · exact reads_grown (h.pr y hy) (fun ad h0 hA => (h.su y hy ad h0 hA).1) hg
    · rw [List.mem_singleton] at hy; subst hy
      exact reads_grown hx (fun ad h0 hA => (hxn ad h0 hA).2.1) hg
  · rw [h.ep, htk, List.drop_of_length_le (by rw [List.length_take]; omega), List.drop_of_length_le (by simp; omega)]
  · rw [List.map_append, h.pp, show min i q = i by omega, show min (i + 1) q = i + 1 by omega, htk, List.map_append]
    simp [hxe]
  · rcases List.mem_append.1 hy with hy | hy
    · exact h.npl y hy
    · rw [List.mem_singleton] at hy; subst hy
      exact fun ad h0 hA => (hxn ad h0 hA).1
  · intro ad h0 hA
    rcases List.mem_append.1 hy with hy | hy
    · exact ⟨old_new hu (new_ne (h.pr y hy) h0 hA) (h.su y hy ad h0 hA).1, (h.su y hy ad h0 hA).2⟩
    · rw [List.mem_singleton] at hy; subst hy
      exact ⟨old_new hu (new_ne hx h0 hA) (hxn ad h0 hA).2.1, (hxn ad h0 hA).2.2⟩
  · exact old_new hu (new_ne (x := ⟨y.A, y.c, y.p⟩) (h.own.ev y hy).1 h0 hA) (h.sv y hy ad h0 hA)
/-- a flight is appended and stored -/
theorem DrI.pushV {w : World} {low go : Nat} {C2 C4 : Array Value} {l0 : Lm} {L : List Em} {q i : Nat} {u v v' : Value} {pl : List Pl} {es : List Ev} {W W' : World} {x : Ev} (h : DrI w low go C2 C4 l0 L q i u v pl es W)
    (hr : W'.ownsRow low 69 3 v' (es.length + 1) (es.flatMap encEv ++ encEv x)) (hg : W.grownBy W' v.ownBlock) (hv : v'.ownBlock = v.ownBlock ∨ v'.ownBlock = some W.heap.size) (hx : EvR W x) (hxn : ∀ ad, 0 < x.p.length → x.A = some ad → low ≤ ad.block ∧ u.ownBlock ≠ some ad.block ∧ v.ownBlock ≠ some ad.block)
    (hi : q ≤ i) (he : L[i]? = some x.em) (hlow : w.heap.size + 2 ≤ low) (hgo : w.heap.size + 2 ≤ go) : DrI w low go C2 C4 l0 L q (i + 1) u v' pl (es ++ [x]) (W'.setCell ⟨go, 6, none⟩ v') := by
  have hrow : ∀ b, v.ownBlock = some b → ∃ cur, Blk W b 69 cur := fun b hb => own_tag h.own.own hb
  have htk : L.take (i + 1) = L.take i ++ [x.em] := by rw [List.take_add_one, he]; rfl
  have hil : i < L.length := (List.getElem?_eq_some_iff.1 he).1
  have hw : w.heap.size ≠ go := by omega
  have hw1 : w.heap.size + 1 ≠ go := by omega
  have hbo : Blk W' go 26 (lkV l0 v) := h.bo.grown hg (fun e => by obtain ⟨cur, h9⟩ := hrow _ e.symm; exact h.bo.tag h9 (by decide) rfl)
  have ho := h.own.push hr hg hv hx (fun ad h0 hA => (hxn ad h0 hA).2.2)
  have hu' : W'.ownsRow low 37 1 u (List.length pl) (pl.map encPl) := own_keep h.row (fun b hb => hg.block b (own_lt h.row b hb) (fun e => by obtain ⟨c1, h1⟩ := own_tag h.row hb; obtain ⟨c2, h2⟩ := hrow b e.symm; exact h1.tag h2 (by decide) rfl))
  have hset := grown_set W' go 6 v'
  have hn8 := noU8v l0 (v := v) h.own.own
  refine ⟨(h.b2.grown hg (fun e => by obtain ⟨cur, h9⟩ := hrow _ e.symm; exact h.b2.tag h9 (by decide) rfl)).far hw _, (h.b4.grown hg (fun e => by obtain ⟨cur, h9⟩ := hrow _ e.symm; exact h.b4.tag h9 (by decide) rfl)).far hw1 _, hbo.set_ 6 v', own_far hu' (fun e => by obtain ⟨c1, h1⟩ := own_tag hu' e; exact h1.tag hbo (by decide) rfl) _, fun y hy => ?_, ho.put hbo (by decide) hn8 hset, ?_, ?_, h.npl, fun y hy => ?_, fun y hy ad h0 hA => ?_, fun y hy => ?_, (h.bel.grown hg h.bel.size (fun b hb => by have := own_block_ge h.own.own b hb; omega)).setCell (by simp only; omega) _⟩
  · have h1 : PlR W' y := reads_grown (h.pr y hy) (fun ad h0 hA => (h.su y hy ad h0 hA).2) hg
    refine reads_grown h1 (fun ad h0 hA e1 => ?_) hset
    obtain ⟨b, off, hA2, _, hcc⟩ := Reads.plain h1 h0 (by omega)
    rw [hA] at hA2
    injection hA2 with hA2
    subst hA2
    injection e1 with e1
    simp only at e1
    obtain ⟨z, hz⟩ : ∃ z : Nat, (u8s y.p)[0]? = some (.int .u8 z) := ⟨y.p[0], by simp [u8s, List.getElem?_eq_getElem h0]⟩
    have h2 := hcc 0 _ hz
    rw [← e1, hbo.cell] at h2
    exact hn8 _ _ h2
  · rw [List.map_append, h.ep, htk, List.drop_append, List.length_take, show q - min i L.length = 0 by omega]
    rfl
  · rw [h.pp, show min i q = q by omega, show min (i + 1) q = q by omega]
  · rcases List.mem_append.1 hy with hy | hy
    · exact h.nes y hy
    · rw [List.mem_singleton] at hy; subst hy
      exact fun ad h0 hA => (hxn ad h0 hA).1
  · exact ⟨(h.su y hy ad h0 hA).1, old_new hv (new_ne (h.pr y hy) h0 hA) (h.su y hy ad h0 hA).2⟩
  · rcases List.mem_append.1 hy with hy | hy
    · exact h.sv y hy
    · rw [List.mem_singleton] at hy; subst hy
      exact fun ad h0 hA => (hxn ad h0 hA).2.1
end Go.Proofs.Ytjaoppopfeonhaa
