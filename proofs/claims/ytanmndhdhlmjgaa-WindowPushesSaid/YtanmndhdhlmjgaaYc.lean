/- The walk of the reference's data; the state of its Poll. Conditions: small. -/
import Derived.Test.YtanmndhdhlmjgaaYb
import Derived.Test.YtanmndhdhlmjgaaWp
import Derived.Test.YtanmndhdhlmjgaaVf
namespace Go.Proofs.Ytanmndhdhlmjgaa
open Go.RowKit
set_option linter.unusedSimpArgs false in
set_option maxRecDepth 100000 in
set_option maxHeartbeats 2000000 in
theorem refdata_any (ses : Int) (e : Oe) (base : Nat) (w : World) (hb : OeR w base e) (hpl : e.p.length ≤ 100000) (hbw : base ≤ w.heap.size) :
    Calls Try.prog 56 #[.int .i64 ses, .agg (encO e).toArray] w fun z w' => (∃ pv, z = .returned pv ∧ PkV w' base (dataP ses e.om) pv) ∧ Below w.heap.size w w' := by
  obtain ⟨pl, hl⟩ : ∃ n, e.p.length = n := ⟨_, rfl⟩
  obtain ⟨eA, hA⟩ : ∃ n, e.A = n := ⟨_, rfl⟩
  obtain ⟨ec, hc⟩ : ∃ n, e.c = n := ⟨_, rfl⟩
  unfold encO
  unfold OeR Byt at hb
  rw [hl, hA] at hb
  rw [hl] at hpl
  rw [hl, hA, hc]
  have HL := Lib.hid (And.intro hl hb)
  clear hl hA hc hb
  have HW : Hid (Blk ((w.alloc (.cells #[.int .i64 e.seq, .int .i64 e.time, .int .i64 e.cnt, .bool e.ak, .slice eA pl ec] 82)).alloc (.cells #[.int .i64 0, .int .i64 0, .int .i64 0, .int .i64 0, .int .i64 0, .slice none 0 0, .slice none 0 0] 55)) w.heap.size 82 #[.int .i64 e.seq, .int .i64 e.time, .int .i64 e.cnt, .bool e.ak, .slice eA pl ec] ∧ Blk ((w.alloc (.cells #[.int .i64 e.seq, .int .i64 e.time, .int .i64 e.cnt, .bool e.ak, .slice eA pl ec] 82)).alloc (.cells #[.int .i64 0, .int .i64 0, .int .i64 0, .int .i64 0, .int .i64 0, .slice none 0 0, .slice none 0 0] 55)) (w.heap.size + 1) 55 #[.int .i64 0, .int .i64 0, .int .i64 0, .int .i64 0, .int .i64 0, .slice none 0 0, .slice none 0 0] ∧ Below w.heap.size w ((w.alloc (.cells #[.int .i64 e.seq, .int .i64 e.time, .int .i64 e.cnt, .bool e.ak, .slice eA pl ec] 82)).alloc (.cells #[.int .i64 0, .int .i64 0, .int .i64 0, .int .i64 0, .int .i64 0, .slice none 0 0, .slice none 0 0] 55))) := by
    have e1 := (Blk.new w 82 #[.int .i64 e.seq, .int .i64 e.time, .int .i64 e.cnt, .bool e.ak, .slice eA pl ec]).alloc (.cells #[.int .i64 0, .int .i64 0, .int .i64 0, .int .i64 0, .int .i64 0, .slice none 0 0, .slice none 0 0] 55)
    have e2 := Blk.new (w.alloc (.cells #[.int .i64 e.seq, .int .i64 e.time, .int .i64 e.cnt, .bool e.ak, .slice eA pl ec] 82)) 55 #[.int .i64 0, .int .i64 0, .int .i64 0, .int .i64 0, .int .i64 0, .slice none 0 0, .slice none 0 0]
    rw [World.size_alloc] at e2
    exact ⟨e1, e2, ((Below.refl _ w).alloc (Nat.le_refl _) _).alloc (by simp) _⟩
  go_enter Try.func56, Try.ntmps56
  go_wp2_with fail
  generalize ((w.alloc (.cells #[.int .i64 e.seq, .int .i64 e.time, .int .i64 e.cnt, .bool e.ak, .slice eA pl ec] 82)).alloc (.cells #[.int .i64 0, .int .i64 0, .int .i64 0, .int .i64 0, .int .i64 0, .slice none 0 0, .slice none 0 0] 55)) = W at *
  have xc0 : W.cell? ⟨w.heap.size, 0, none⟩ = some (.int .i64 e.seq) := HW.out.1.cell 0
  have xc4 : W.cell? ⟨w.heap.size, 4, none⟩ = some (.slice eA pl ec) := HW.out.1.cell 4
  have lE := HW.out.1.lt
  have lO := HW.out.2.1.lt
  go_upto_region 1 with fail
  refine wp_region_lexP [(0, 1), (1, 1), (3, 1), (2, 1), (4, 1), (5, 0), (6, 1), (7, 0)] [7] (fun w9 => w9.cell? ⟨w.heap.size, 0, none⟩ = some (.int .i64 e.seq) ∧ w9.cell? ⟨w.heap.size, 4, none⟩ = some (.slice eA pl ec)) (by kernel_rfl) (by kernel_rfl) (by kernel_rfl) (by kernel_rfl) (by kernel_rfl) ⟨xc0, xc4⟩ ?_
  repeat ((first | (refine lexP_read rfl (by rfl) (by first | exact wanted_none rfl | exact wanted_some (b := true) (c := true) rfl rfl rfl | exact wanted_some (b := false) (c := false) rfl rfl rfl) (by intro w9 hS9; (try dsimp only at hS9); go_simp <;> with_reducible rfl) ?_) | (refine lexP_skip rfl (fun _ => trivial) (by first | exact wanted_some (b := true) (c := false) rfl rfl rfl | exact wanted_some (b := false) (c := true) rfl rfl rfl) ?_) | (refine lexP_builtin rfl (fun _ => trivial) (by first | exact wanted_none rfl | exact wanted_some (b := true) (c := true) rfl rfl rfl | exact wanted_some (b := false) (c := false) rfl rfl rfl) (by intro w9 hS9; (try dsimp only at hS9); go_simp <;> with_reducible rfl) ?_)); (try simp only [Act.put, List.getElem_toArray, List.getElem_cons_succ, List.getElem_cons_zero, List.setIfInBounds_toArray, List.set_cons_zero, List.set_cons_succ]))
  refine lexP_eff rfl (fun _ => trivial) ?_
  go_simp
  refine CallsIn.mono ((callsIn_wide (n := 0)).2 (copied_any eA pl ec e.p W.drew ((HL.out.2.up (HW.out.2.2.drew)).rd) hpl)) ?_
  rintro e w1 ⟨⟨v3, rfl, hown3⟩, hb3⟩
  dsimp only
  obtain ⟨A3, c3, rfl, -, -, -⟩ := own_slice hown3
  have hb3' : Below W.heap.size W w1 := (Below.refl _ W).drew.trans hb3
  have hkO := HW.out.2.1.below hb3' lO
  refine ⟨⟨(hb3'.cell (p := ⟨w.heap.size, 0, none⟩) lE).trans xc0, (hb3'.cell (p := ⟨w.heap.size, 4, none⟩) lE).trans xc4⟩, ?_⟩
  (try simp only [Act.put, List.getElem_toArray, List.getElem_cons_succ, List.getElem_cons_zero, List.setIfInBounds_toArray, List.set_cons_zero, List.set_cons_succ])
  have xd0 : w1.cell? ⟨w.heap.size + 1, 0, none⟩ = some (.int .i64 0) := hkO.cell 0
  have xd1 : w1.cell? ⟨w.heap.size + 1, 1, none⟩ = some (.int .i64 0) := hkO.cell 1
  have xd2 : w1.cell? ⟨w.heap.size + 1, 2, none⟩ = some (.int .i64 0) := hkO.cell 2
  have xd3 : w1.cell? ⟨w.heap.size + 1, 3, none⟩ = some (.int .i64 0) := hkO.cell 3
  have xd4 : w1.cell? ⟨w.heap.size + 1, 4, none⟩ = some (.int .i64 0) := hkO.cell 4
  have xd5 : w1.cell? ⟨w.heap.size + 1, 5, none⟩ = some (.slice none 0 0) := hkO.cell 5
  have xd6 : w1.cell? ⟨w.heap.size + 1, 6, none⟩ = some (.slice none 0 0) := hkO.cell 6
  have xy0 := hkO.frozen 0
  have xy1 := hkO.frozen 1
  have xy2 := hkO.frozen 2
  have xy3 := hkO.frozen 3
  have xy4 := hkO.frozen 4
  have xy5 := hkO.frozen 5
  have xy6 := hkO.frozen 6
  have l1 := hkO.lt
  have hkF := set55_blk hkO (.int .i64 0) (.int .i64 ses) (.int .i64 e.seq) (.int .i64 0) (.int .i64 0) (.slice none 0 0) (.slice A3 pl c3)
  have hTF := set55_turn hkO (base := base) (by omega) (.int .i64 0) (.int .i64 ses) (.int .i64 e.seq) (.int .i64 0) (.int .i64 0) (.slice none 0 0) (.slice A3 pl c3)
  have hbF := set55_below (HW.out.2.2.trans (hb3'.mono HW.out.2.2.size)) (g := w.heap.size + 1) (by omega) (.int .i64 0) (.int .i64 ses) (.int .i64 e.seq) (.int .i64 0) (.int .i64 0) (.slice none 0 0) (.slice A3 pl c3)
  have hBy : Byt w1 base A3 e.p := byt_of_own hown3 HL.out.1
  have HF := Lib.hid (And.intro hkF (And.intro hbF (hBy.turn hTF (by simp))))
  clear hkF hTF hbF hBy hkO hown3 hb3 hb3' xc0 xc4
  repeat ((first | (refine lexP_read rfl (by rfl) (by first | exact wanted_none rfl | exact wanted_some (b := true) (c := true) rfl rfl rfl | exact wanted_some (b := false) (c := false) rfl rfl rfl) (by intro w9 hS9; (try dsimp only at hS9); go_simp <;> with_reducible rfl) ?_) | (refine lexP_skip rfl (fun _ => trivial) (by first | exact wanted_some (b := true) (c := false) rfl rfl rfl | exact wanted_some (b := false) (c := true) rfl rfl rfl) ?_) | (refine lexP_builtin rfl (fun _ => trivial) (by first | exact wanted_none rfl | exact wanted_some (b := true) (c := true) rfl rfl rfl | exact wanted_some (b := false) (c := false) rfl rfl rfl) (by intro w9 hS9; (try dsimp only at hS9); go_simp <;> with_reducible rfl) ?_)); (try simp only [Act.put, List.getElem_toArray, List.getElem_cons_succ, List.getElem_cons_zero, List.setIfInBounds_toArray, List.set_cons_zero, List.set_cons_succ]))
  refine lexP_eff rfl (fun _ => trivial) ?_
  go_simp
  (try simp only [Act.put, List.getElem_toArray, List.getElem_cons_succ, List.getElem_cons_zero, List.setIfInBounds_toArray, List.set_cons_zero, List.set_cons_succ])
  refine lexP_nil (panQ_normal ?_)
  go_wp2_with fail
  refine bodyPost_ret (results_cell1 (t := 55) rfl _ _ (w.heap.size + 1) _ _ rfl HF.out.1 Try.underlying55 rfl (by kernel_rfl)) rfl ?_
  refine ⟨⟨_, rfl, ⟨.slice none 0 0, .slice A3 e.p.length c3, ?_, Vec.nil, ⟨A3, c3, rfl, HF.out.2.2⟩⟩⟩, HF.out.2.1⟩
  rw [HL.out.1]
  rfl
/-- the state of the reference's Poll -/
structure PrI (w : World) (base : Nat) (m : Sm) (vo vq : Value) (es : List Oe) (qs : List Qe) (kv : Value) (xs : List Ke) (W : World) : Prop where
  b : Blk W w.heap.size 25 (snC m vo vq)
  r : Blk W (w.heap.size + 1) 25 #[.int .i64 0, .int .i64 0, .int .i64 0, .int .i64 0, .int .i64 0, .int .i64 0, .slice none 0 0, .slice none 0 0]
  eo : Own1 encO OeR 82 5 W base w.heap.size vo es
  om : es.map Oe.om = m.out
  eq : Vec encQ QeR 42 1 W base vq qs
  qm : qs.map Qe.p = m.q
  ks : Own1 encK KeR 55 7 W base w.heap.size kv xs
  bel : Below w.heap.size w W
section
variable {w : World} {base : Nat} {m : Sm} {vo vq kv : Value} {es : List Oe} {qs : List Qe} {xs : List Ke} {W W' : World}
theorem PrI.below (h : PrI w base m vo vq es qs kv xs W) (hb : Below W.heap.size W W') : PrI w base m vo vq es qs kv xs W' :=
  ⟨h.b.below hb h.b.lt, h.r.below hb h.r.lt, h.eo.up hb (oeR_ab (by simp)), h.om, h.eq.up hb (qeR_ab (by simp)), h.qm, h.ks.up hb (keR_ab (by simp) (by simp)), h.bel.trans (hb.mono h.bel.size)⟩
theorem PrI.cell (h : PrI w base m vo vq es qs kv xs W) (hbw : base ≤ w.heap.size) (k : Nat) (u : Value) (m' : Sm) (vq' : Value) (qs' : List Qe) (hc : (snC m vo vq).setIfInBounds k u = snC m' vo vq') (ho : m'.out = m.out)
    (hv : Vec encQ QeR 42 1 W base vq' qs') (hq : qs'.map Qe.p = m'.q) : PrI w base m' vo vq' es qs' kv xs (W.setCell ⟨w.heap.size, k, none⟩ u) := by
  have hT : Turn w.heap.size [25] W (W.setCell ⟨w.heap.size, k, none⟩ u) := (Turn.refl _ [25] W).set h.b (by simp) (Nat.le_refl _) k u
  have hTb := hT.base hbw
  have hk := h.b.set_ k u
  rw [hc] at hk
  exact ⟨hk, h.r.far (p := ⟨w.heap.size, k, none⟩) (by dsimp only; omega) u, h.eo.turn hTb (by simp) (oeR_ab (by simp)), by rw [ho]; exact h.om, hv.turn hTb (by simp) (qeR_ab (by simp)), hq, h.ks.turn hTb (by simp) (keR_ab (by simp) (by simp)), h.bel.setCell (p := ⟨w.heap.size, k, none⟩) (Nat.le_refl _) u⟩
theorem PrI.push {b : Oe} {v' : Value} (h : PrI w base m vo vq es qs kv xs W) (hbw : base ≤ w.heap.size) (hp : Pushed encO OeR 82 5 base w.heap.size es b W v' W') :
    PrI w base { m with out := m.out ++ [b.om] } v' vq (es ++ [b]) qs kv xs (W'.setCell ⟨w.heap.size, 6, none⟩ v') := by
  have hT1 := hp.turn
  have hk1 := h.b.turn hT1 (by simp)
  have hT2 : Turn w.heap.size [25] W' (W'.setCell ⟨w.heap.size, 6, none⟩ v') := (Turn.refl _ [25] W').set hk1 (by simp) (Nat.le_refl _) 6 v'
  have hT : Turn w.heap.size [25, 82] W (W'.setCell ⟨w.heap.size, 6, none⟩ v') := (hT1.mono (by simp)).trans (hT2.mono (by simp))
  have hTb := hT.base hbw
  exact ⟨hk1.set_ 6 v', (h.r.turn hT1 (by simp)).far (p := ⟨w.heap.size, 6, none⟩) (by dsimp only; omega) v', hp.own.turn (hT2.base hbw) (by simp) (oeR_ab (by simp)), by rw [List.map_append, h.om]; rfl, h.eq.turn hTb (by simp) (qeR_ab (by simp)), h.qm, h.ks.turn hTb (by simp) (keR_ab (by simp) (by simp)), Turn.belowT h.bel hT (Nat.le_refl _) h.bel.size⟩
theorem PrI.pushK {b : Ke} {v' : Value} (h : PrI w base m vo vq es qs kv xs W) (hbw : base ≤ w.heap.size) (hp : Pushed encK KeR 55 7 base w.heap.size xs b W v' W') : PrI w base m vo vq es qs v' (xs ++ [b]) W' := by
  have hT1 := hp.turn
  have hTb := hT1.base hbw
  exact ⟨h.b.turn hT1 (by simp), h.r.turn hT1 (by simp), h.eo.turn hTb (by simp) (oeR_ab (by simp)), h.om, h.eq.turn hTb (by simp) (qeR_ab (by simp)), h.qm, hp.own, Turn.belowT h.bel hT1 (Nat.le_refl _) h.bel.size⟩
/-- an element of an own row stored whole -/
theorem own_put {low g n c k : Nat} (h : Own1 encO OeR 82 5 W base low (.slice (some ⟨g, 0, none⟩) n c) es) (hl : base ≤ low) (hn : es.length = n) (hk : k < es.length) (b : Oe) (hr : OeR W base b) :
    Own1 encO OeR 82 5 (((((W.setCell ⟨g, k * 5, none⟩ (.int .i64 b.seq)).setCell ⟨g, k * 5 + 1, none⟩ (.int .i64 b.time)).setCell ⟨g, k * 5 + 2, none⟩ (.int .i64 b.cnt)).setCell ⟨g, k * 5 + 3, none⟩ (.bool b.ak)).setCell ⟨g, k * 5 + 4, none⟩ (.slice b.A b.p.length b.c)) base low (.slice (some ⟨g, 0, none⟩) n c) (es.set k b) := by
  subst hn
  have step : ∀ {W0 : World} {l : List Oe} (h0 : Own1 encO OeR 82 5 W0 base low (.slice (some ⟨g, 0, none⟩) es.length c) l) (hll : l.length = es.length) (hk0 : k < l.length) {j : Nat} (hj : j < 5) (x : Oe) (u : Value), (encO l[k]).set j u = encO x → OeR W0 base x → Own1 encO OeR 82 5 (W0.setCell ⟨g, k * 5 + j, none⟩ u) base low (.slice (some ⟨g, 0, none⟩) es.length c) (l.set k x) ∧ Turn base [82] W0 (W0.setCell ⟨g, k * 5 + j, none⟩ u) := by
    intro W0 l h0 hll hk0 j hj x u hx hrx
    rw [← hll] at h0 ⊢
    exact Own1.set h0 hl (oeR_ab (by simp)) encO_len hk0 hj x u hx hrx
  have he := h.el _ (List.getElem_mem hk)
  have up : ∀ {A C : World} {x : Oe}, Turn base [82] A C → OeR A base x → OeR C base x := fun hT hx => oeR_ab (T := [82]) (by simp) _ _ _ _ hT hx
  obtain ⟨s0, t0⟩ := step h rfl hk (j := 0) (by omega) { es[k] with seq := b.seq } (.int .i64 b.seq) rfl he
  obtain ⟨s1, t1⟩ := step s0 (by simp) (by simpa using hk) (j := 1) (by omega) { es[k] with seq := b.seq, time := b.time } (.int .i64 b.time) (by simp [encO]) (up t0 he)
  obtain ⟨s2, t2⟩ := step s1 (by simp) (by simpa using hk) (j := 2) (by omega) { es[k] with seq := b.seq, time := b.time, cnt := b.cnt } (.int .i64 b.cnt) (by simp [encO]) (up t1 (up t0 he))
  obtain ⟨s3, t3⟩ := step s2 (by simp) (by simpa using hk) (j := 3) (by omega) { es[k] with seq := b.seq, time := b.time, cnt := b.cnt, ak := b.ak } (.bool b.ak) (by simp [encO]) (up t2 (up t1 (up t0 he)))
  obtain ⟨s4, t4⟩ := step s3 (by simp) (by simpa using hk) (j := 4) (by omega) b (.slice b.A b.p.length b.c) (by simp [encO]) (up t3 (up t2 (up t1 (up t0 hr))))
  rw [Nat.add_zero] at s4
  simpa using s4
/-- an outstanding payload stored whole -/
theorem PrI.put {g n c k : Nat} (h : PrI w base m (.slice (some ⟨g, 0, none⟩) n c) vq es qs kv xs W) (hbw : base ≤ w.heap.size) (hn : es.length = n) (hk : k < es.length) (hg : w.heap.size ≤ g) (b : Oe) (hr : OeR W base b) :
    PrI w base { m with out := (es.set k b).map Oe.om } (.slice (some ⟨g, 0, none⟩) n c) vq (es.set k b) qs kv xs (((((W.setCell ⟨g, k * 5, none⟩ (.int .i64 b.seq)).setCell ⟨g, k * 5 + 1, none⟩ (.int .i64 b.time)).setCell ⟨g, k * 5 + 2, none⟩ (.int .i64 b.cnt)).setCell ⟨g, k * 5 + 3, none⟩ (.bool b.ak)).setCell ⟨g, k * 5 + 4, none⟩ (.slice b.A b.p.length b.c)) := by
  obtain ⟨cur, hcur⟩ : ∃ cur, Blk W g 82 cur := by
    obtain ⟨g2, c2, cur, hv, _, hbl, _⟩ := h.eo.form encO_len (by omega)
    injection hv with hA
    injection hA with hA
    injection hA with hA
    subst hA
    exact ⟨cur, hbl⟩
  have hT : Turn w.heap.size [82] W (((((W.setCell ⟨g, k * 5, none⟩ (.int .i64 b.seq)).setCell ⟨g, k * 5 + 1, none⟩ (.int .i64 b.time)).setCell ⟨g, k * 5 + 2, none⟩ (.int .i64 b.cnt)).setCell ⟨g, k * 5 + 3, none⟩ (.bool b.ak)).setCell ⟨g, k * 5 + 4, none⟩ (.slice b.A b.p.length b.c)) :=
    (((((Turn.refl _ [82] W).set hcur (by simp) hg _ _).set (hcur.set_ _ _) (by simp) hg _ _).set ((hcur.set_ _ _).set_ _ _) (by simp) hg _ _).set (((hcur.set_ _ _).set_ _ _).set_ _ _) (by simp) hg _ _).set ((((hcur.set_ _ _).set_ _ _).set_ _ _).set_ _ _) (by simp) hg _ _
  have hTb := hT.base hbw
  exact ⟨h.b.turn hT (by simp), h.r.turn hT (by simp), own_put h.eo hbw hn hk b hr, rfl, h.eq.turn hTb (by simp) (qeR_ab (by simp)), h.qm, h.ks.turn hTb (by simp) (keR_ab (by simp) (by simp)), Turn.belowT h.bel hT (Nat.le_refl _) h.bel.size⟩
end
end Go.Proofs.Ytanmndhdhlmjgaa
