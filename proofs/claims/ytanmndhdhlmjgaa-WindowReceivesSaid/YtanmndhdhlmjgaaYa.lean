/- The walks of the reference's copied and CopySender. Conditions: small. -/
import Derived.Test.YtanmndhdhlmjgaaWi
import Derived.Test.YtanmndhdhlmjgaaVf
namespace Go.Proofs.Ytanmndhdhlmjgaa
open Go.RowKit
set_option maxRecDepth 100000 in
set_option maxHeartbeats 1000000 in
theorem copied_any (A : Option Addr) (n c : Nat) (l : List Nat) (w : World) (hR : Reads w w.heap.size 1 A n (u8s l)) (hn : n ≤ 100000) :
    Calls Try.prog 54 #[.slice A n c] w fun e w' => (∃ v, e = .returned v ∧ w'.ownsRow w.heap.size 5 1 v n (u8s l)) ∧ Below w.heap.size w w' := by
  obtain ⟨i0, hi0, hz0, hz1, hz2⟩ := info_parts info5b
  have HI := Lib.hid (And.intro hi0 (And.intro hz0 (And.intro hz1 hz2)))
  clear hi0 hz0 hz1 hz2
  go_enter Try.func54, Try.ntmps54
  go_wp2_with (at_builtin; refine wpList_append_any _ rfl (.tmp 4) (.tmp 5) _ rfl w.heap.size 5 i0 _ 1 1 Try.underlying42 HI.out.1 HI.out.2.1 HI.out.2.2.1 HI.out.2.2.2 rfl (by omega) (.slice none 0 0) 0 [] rfl (World.ownsRow_nil w _ 5 1) w.heap.size A n c (u8s l) rfl hR (u8s_one _) (by simp only [maxLen]; omega) (by omega) (by simp) ?_; intro v1 w1 hown1 hg1 _; simp only [Nat.zero_add, List.nil_append] at hown1)
  go_ret
  exact ⟨⟨_, rfl, hown1⟩, (Below.refl _ w).grown hg1 (by simp) (by intro k hk; simp [Value.ownBlock] at hk)⟩
/-- the copy's state -/
structure RcI (w : World) (base : Nat) (s : Sm) (vo0 vq0 vo vq : Value) (es : List Oe) (qs : List Qe) (W : World) : Prop where
  b : Blk W w.heap.size 25 (snC s vo0 vq0)
  r : Blk W (w.heap.size + 1) 25 #[.int .i64 0, .int .i64 0, .int .i64 0, .int .i64 0, .int .i64 0, .int .i64 0, .slice none 0 0, .slice none 0 0]
  o : Blk W (w.heap.size + 1 + 1) 25 (snC s vo vq)
  eo : Own1 encO OeR 82 5 W base w.heap.size vo es
  eq : Own1 encQ QeR 42 1 W base w.heap.size vq qs
  bel : Below w.heap.size w W
section
variable {w : World} {base : Nat} {s : Sm} {vo0 vq0 vo vq : Value} {es : List Oe} {qs : List Qe} {W W' : World}
theorem RcI.below (h : RcI w base s vo0 vq0 vo vq es qs W) (hb : Below W.heap.size W W') : RcI w base s vo0 vq0 vo vq es qs W' :=
  ⟨h.b.below hb h.b.lt, h.r.below hb h.r.lt, h.o.below hb h.o.lt, h.eo.up hb (oeR_ab (by simp)), h.eq.up hb (qeR_ab (by simp)), h.bel.trans (hb.mono h.bel.size)⟩
theorem RcI.pushO {b : Oe} {v' : Value} (h : RcI w base s vo0 vq0 vo vq es qs W) (hbw : base ≤ w.heap.size) (hp : Pushed encO OeR 82 5 base w.heap.size es b W v' W') :
    RcI w base s vo0 vq0 v' vq (es ++ [b]) qs (W'.setCell ⟨w.heap.size + 1 + 1, 6, none⟩ v') := by
  have hT1 := hp.turn
  have hk1 := h.o.turn hT1 (by simp)
  have hT2 : Turn w.heap.size [25] W' (W'.setCell ⟨w.heap.size + 1 + 1, 6, none⟩ v') := (Turn.refl _ [25] W').set hk1 (by simp) (by omega) 6 v'
  exact ⟨(h.b.turn hT1 (by simp)).far (p := ⟨w.heap.size + 1 + 1, 6, none⟩) (by dsimp only; omega) v', (h.r.turn hT1 (by simp)).far (p := ⟨w.heap.size + 1 + 1, 6, none⟩) (by dsimp only; omega) v', hk1.set_ 6 v',
    hp.own.turn (hT2.base hbw) (by simp) (oeR_ab (by simp)), (h.eq.turn (hT1.base hbw) (by simp) (qeR_ab (by simp))).turn (hT2.base hbw) (by simp) (qeR_ab (by simp)), Turn.belowT h.bel (hT1.mono (T' := [25, 82]) (by simp) |>.trans (hT2.mono (by simp))) (Nat.le_refl _) h.bel.size⟩
theorem RcI.pushQ {b : Qe} {v' : Value} (h : RcI w base s vo0 vq0 vo vq es qs W) (hbw : base ≤ w.heap.size) (hp : Pushed encQ QeR 42 1 base w.heap.size qs b W v' W') :
    RcI w base s vo0 vq0 vo v' es (qs ++ [b]) (W'.setCell ⟨w.heap.size + 1 + 1, 7, none⟩ v') := by
  have hT1 := hp.turn
  have hk1 := h.o.turn hT1 (by simp)
  have hT2 : Turn w.heap.size [25] W' (W'.setCell ⟨w.heap.size + 1 + 1, 7, none⟩ v') := (Turn.refl _ [25] W').set hk1 (by simp) (by omega) 7 v'
  exact ⟨(h.b.turn hT1 (by simp)).far (p := ⟨w.heap.size + 1 + 1, 7, none⟩) (by dsimp only; omega) v', (h.r.turn hT1 (by simp)).far (p := ⟨w.heap.size + 1 + 1, 7, none⟩) (by dsimp only; omega) v', hk1.set_ 7 v',
    (h.eo.turn (hT1.base hbw) (by simp) (oeR_ab (by simp))).turn (hT2.base hbw) (by simp) (oeR_ab (by simp)), hp.own.turn (hT2.base hbw) (by simp) (qeR_ab (by simp)), Turn.belowT h.bel (hT1.mono (T' := [25, 42]) (by simp) |>.trans (hT2.mono (by simp))) (Nat.le_refl _) h.bel.size⟩
end
set_option maxRecDepth 100000 in
set_option maxHeartbeats 2000000 in
set_option linter.unusedSimpArgs false in
theorem refCopySender_any (s : Sm) (v : Value) (base : Nat) (w : World) (hv : SnV w base s v) (hs : Small s) (hpos : ∀ o ∈ s.out, o.p.length ≤ 100000) (hpqs : ∀ p ∈ s.q, p.length ≤ 100000) (hbw : base ≤ w.heap.size) :
    Calls Try.prog 53 #[v] w (CopyS w base s) := by
  obtain ⟨vo, vq, rfl, ⟨es, hE, heo⟩, ⟨qs, hQ, heq⟩⟩ := hv
  obtain ⟨Ao, co, rfl, -, -, -⟩ := hE.val
  obtain ⟨Aq, cq, rfl, -, -, -⟩ := hQ.val
  have hno : es.length ≤ 10000 := by have := hs.out; rw [← heo, List.length_map] at this; exact this
  have hnq : qs.length ≤ 10000 := by have := hs.q; rw [← heq, List.length_map] at this; exact this
  have HIN := Lib.hid (And.intro hE (And.intro heo (And.intro hQ (And.intro heq (And.intro hpos (And.intro hpqs hs))))))
  clear hE heo hQ heq hpos hpqs hs
  have W0 : Hid (RcI w base s (.slice Ao es.length co) (.slice Aq qs.length cq) (.slice none 0 0) (.slice none 0 0) [] [] (((w.alloc (.cells #[.int .i64 s.ses, .int .i64 s.lim, .int .i64 s.tmo, .int .i64 s.base, .int .i64 s.next, .int .i64 s.cred, .slice Ao es.length co, .slice Aq qs.length cq] 25)).alloc (.cells #[.int .i64 0, .int .i64 0, .int .i64 0, .int .i64 0, .int .i64 0, .int .i64 0, .slice none 0 0, .slice none 0 0] 25)).alloc (.cells #[.int .i64 s.ses, .int .i64 s.lim, .int .i64 s.tmo, .int .i64 s.base, .int .i64 s.next, .int .i64 s.cred, .slice none 0 0, .slice none 0 0] 25))) := by
    have h1 := ((Blk.new w 25 #[.int .i64 s.ses, .int .i64 s.lim, .int .i64 s.tmo, .int .i64 s.base, .int .i64 s.next, .int .i64 s.cred, .slice Ao es.length co, .slice Aq qs.length cq]).alloc (.cells #[.int .i64 0, .int .i64 0, .int .i64 0, .int .i64 0, .int .i64 0, .int .i64 0, .slice none 0 0, .slice none 0 0] 25)).alloc (.cells #[.int .i64 s.ses, .int .i64 s.lim, .int .i64 s.tmo, .int .i64 s.base, .int .i64 s.next, .int .i64 s.cred, .slice none 0 0, .slice none 0 0] 25)
    have h2 := (Blk.new (w.alloc (.cells #[.int .i64 s.ses, .int .i64 s.lim, .int .i64 s.tmo, .int .i64 s.base, .int .i64 s.next, .int .i64 s.cred, .slice Ao es.length co, .slice Aq qs.length cq] 25)) 25 #[.int .i64 0, .int .i64 0, .int .i64 0, .int .i64 0, .int .i64 0, .int .i64 0, .slice none 0 0, .slice none 0 0]).alloc (.cells #[.int .i64 s.ses, .int .i64 s.lim, .int .i64 s.tmo, .int .i64 s.base, .int .i64 s.next, .int .i64 s.cred, .slice none 0 0, .slice none 0 0] 25)
    have h3 := Blk.new ((w.alloc (.cells #[.int .i64 s.ses, .int .i64 s.lim, .int .i64 s.tmo, .int .i64 s.base, .int .i64 s.next, .int .i64 s.cred, .slice Ao es.length co, .slice Aq qs.length cq] 25)).alloc (.cells #[.int .i64 0, .int .i64 0, .int .i64 0, .int .i64 0, .int .i64 0, .int .i64 0, .slice none 0 0, .slice none 0 0] 25)) 25 #[.int .i64 s.ses, .int .i64 s.lim, .int .i64 s.tmo, .int .i64 s.base, .int .i64 s.next, .int .i64 s.cred, .slice none 0 0, .slice none 0 0]
    rw [World.size_alloc] at h2 h3
    rw [World.size_alloc] at h3
    have hb3 : Below w.heap.size w (((w.alloc (.cells #[.int .i64 s.ses, .int .i64 s.lim, .int .i64 s.tmo, .int .i64 s.base, .int .i64 s.next, .int .i64 s.cred, .slice Ao es.length co, .slice Aq qs.length cq] 25)).alloc (.cells #[.int .i64 0, .int .i64 0, .int .i64 0, .int .i64 0, .int .i64 0, .int .i64 0, .slice none 0 0, .slice none 0 0] 25)).alloc (.cells #[.int .i64 s.ses, .int .i64 s.lim, .int .i64 s.tmo, .int .i64 s.base, .int .i64 s.next, .int .i64 s.cred, .slice none 0 0, .slice none 0 0] 25)) := (((Below.refl _ w).alloc (Nat.le_refl _) _).alloc (by simp) _).alloc (by simp; omega) _
    exact ⟨h1, h2, h3, Own1.nil, Own1.nil, hb3⟩
  unfold snC
  go_enter Try.func53, Try.ntmps53
  go_wp2_with fail
  generalize (((w.alloc (.cells #[.int .i64 s.ses, .int .i64 s.lim, .int .i64 s.tmo, .int .i64 s.base, .int .i64 s.next, .int .i64 s.cred, .slice Ao es.length co, .slice Aq qs.length cq] 25)).alloc (.cells #[.int .i64 0, .int .i64 0, .int .i64 0, .int .i64 0, .int .i64 0, .int .i64 0, .slice none 0 0, .slice none 0 0] 25)).alloc (.cells #[.int .i64 s.ses, .int .i64 s.lim, .int .i64 s.tmo, .int .i64 s.base, .int .i64 s.next, .int .i64 s.cred, .slice none 0 0, .slice none 0 0] 25)) = V at *
  go_loopw [4] (fun v4 wr => ∃ (k : Nat) (vo : Value) (es' : List Oe), k ≤ es.length ∧ v4 = .int .i64 k ∧ es'.map Oe.om = s.out.take k ∧ Hid (RcI w base s (.slice Ao es.length co) (.slice Aq qs.length cq) vo (.slice none 0 0) es' [] wr)) (fun v4 _ => es.length - (intOf v4).toNat)
  case atStart => exact ⟨0, _, [], by omega, rfl, rfl, W0⟩
  case round =>
    obtain ⟨k, vo, es', hk, rfl, hom, HI⟩ := hrel
    have HOM := Lib.hid hom
    clear hom W0
    have xb6 : wr.cell? ⟨w.heap.size, 6, none⟩ = some (.slice Ao es.length co) := HI.out.b.cell 6
    by_cases hlt : k < es.length
    · have ik : (k : Int) < es.length := by omega
      have hV := HIN.out.1.up HI.out.bel (oeR_ab (by simp))
      obtain ⟨b, off, c2, hv2, -, -, hbw2, hc⟩ := hV.at_ encO_len (by omega) (by omega)
      injection hv2 with hA hn2 hc2
      subst hA hc2
      clear hn2
      have d0 : wr.cell? ⟨b, off + k * 5, none⟩ = some (.int .i64 es[k].seq) := hc k hlt 0 _ rfl
      have d1 : wr.cell? ⟨b, off + k * 5 + 1, none⟩ = some (.int .i64 es[k].time) := hc k hlt 1 _ rfl
      have d2 : wr.cell? ⟨b, off + k * 5 + 2, none⟩ = some (.int .i64 es[k].cnt) := hc k hlt 2 _ rfl
      have d3 : wr.cell? ⟨b, off + k * 5 + 3, none⟩ = some (.bool es[k].ak) := hc k hlt 3 _ rfl
      have d4 : wr.cell? ⟨b, off + k * 5 + 4, none⟩ = some (.slice es[k].A es[k].p.length es[k].c) := hc k hlt 4 _ rfl
      obtain ⟨e, he⟩ : ∃ e, e = es[k] := ⟨_, rfl⟩
      rw [← he] at d0 d1 d2 d3 d4
      have hby : OeR wr base e := by rw [he]; exact hV.el _ (List.getElem_mem hlt)
      have hpl : e.p.length ≤ 100000 := by
        rw [he]
        exact HIN.out.2.2.2.2.1 es[k].om (by rw [← HIN.out.2.1]; exact List.mem_map_of_mem (List.getElem_mem hlt))
      have hes : s.out[k]? = some e.om := by rw [← HIN.out.2.1, List.getElem?_map, List.getElem?_eq_getElem hlt, he]; rfl
      have HE := Lib.hid (And.intro hby (And.intro hpl hes))
      clear hV hc he hby hes
      have hbX : Below wr.heap.size wr (wr.alloc (.cells #[.int .i64 e.seq, .int .i64 e.time, .int .i64 e.cnt, .bool e.ak, .slice e.A e.p.length e.c] 82)) := (Below.refl _ wr).alloc (Nat.le_refl _) _
      have hkX := Blk.new wr 82 #[.int .i64 e.seq, .int .i64 e.time, .int .i64 e.cnt, .bool e.ak, .slice e.A e.p.length e.c]
      have hcall := copied_any e.A e.p.length e.c e.p (wr.alloc (.cells #[.int .i64 e.seq, .int .i64 e.time, .int .i64 e.cnt, .bool e.ak, .slice e.A e.p.length e.c] 82)) ((HE.out.1.up hbX).rd) hpl
      have HX := Lib.hid (And.intro hbX (And.intro hkX hcall))
      clear hbX hkX hcall
      go_wp2_with fail
      refine HX.out.2.2.mono ?_
      rintro z w1 ⟨⟨v3, rfl, hown3⟩, hb3⟩
      obtain ⟨A3, c3, rfl, -, -, -⟩ := own_slice hown3
      have hkX1 := HX.out.2.1.below hb3 HX.out.2.1.lt
      have hb4 : Below wr.heap.size wr (w1.setCell ⟨wr.heap.size, 4, none⟩ (.slice A3 e.p.length c3)) := (HX.out.1.trans (hb3.mono HX.out.1.size)).setCell (p := ⟨wr.heap.size, 4, none⟩) (Nat.le_refl _) _
      have hT4 : Turn base [82] w1 (w1.setCell ⟨wr.heap.size, 4, none⟩ (.slice A3 e.p.length c3)) := (Turn.refl base [82] w1).set hkX1 (by simp) (Nat.le_trans hbw HI.out.bel.size) 4 _
      have hkX2 : Blk (w1.setCell ⟨wr.heap.size, 4, none⟩ (.slice A3 e.p.length c3)) wr.heap.size 82 #[.int .i64 e.seq, .int .i64 e.time, .int .i64 e.cnt, .bool e.ak, .slice A3 e.p.length c3] := hkX1.set_ 4 _
      have hBy := (byt_of_own (base := base) hown3 rfl).turn hT4 (by simp)
      have xx4 : w1.cell? ⟨wr.heap.size, 4, none⟩ = some (.slice e.A e.p.length e.c) := hkX1.cell 4
      have xz4 := hkX1.frozen 4
      have lX := hkX1.lt
      obtain ⟨Av, cv, rfl, -, -⟩ := HI.out.eo.vform
      have H4 := Lib.hid (And.intro (HI.out.below hb4) (And.intro hkX2 hBy))
      clear hb4 hkX1 hT4 hkX2 hBy hown3 hb3 xb6 d0 d1 d2 d3 d4 HX
      go_upto_region 8 with fail
      obtain ⟨X, hX⟩ : ∃ x, x = wr.heap.size := ⟨_, rfl⟩
      rw [← hX] at H4 lX ⊢
      clear xx4 xz4 lX hX
      generalize (w1.setCell ⟨X, 4, none⟩ (.slice A3 e.p.length c3)) = W4 at *
      have x0 : W4.cell? ⟨X, 0, none⟩ = some (.int .i64 e.seq) := H4.out.2.1.cell 0
      have x1 : W4.cell? ⟨X, 1, none⟩ = some (.int .i64 e.time) := H4.out.2.1.cell 1
      have x2 : W4.cell? ⟨X, 2, none⟩ = some (.int .i64 e.cnt) := H4.out.2.1.cell 2
      have x3 : W4.cell? ⟨X, 3, none⟩ = some (.bool e.ak) := H4.out.2.1.cell 3
      have x4 : W4.cell? ⟨X, 4, none⟩ = some (.slice A3 e.p.length c3) := H4.out.2.1.cell 4
      have xo6 : W4.cell? ⟨w.heap.size + 1 + 1, 6, none⟩ = some (.slice Av es'.length cv) := H4.out.1.o.cell 6
      have zo6 := H4.out.1.o.frozen 6
      have lX := H4.out.2.1.lt
      have lO := H4.out.1.o.lt
      have hl' : es'.length ≤ 10000 := by have h := congrArg List.length HOM.out; rw [List.length_map, List.length_take] at h; omega
      have hbN : Below W4.heap.size W4 (W4.alloc (.cells #[.int .i64 e.seq, .int .i64 e.time, .int .i64 e.cnt, .bool e.ak, .slice A3 e.p.length c3] 82)) := (Below.refl _ W4).alloc (Nat.le_refl _) _
      have HN := Lib.hid (And.intro (H4.out.1.below hbN) (And.intro (H4.out.2.2.up hbN) (Blk.new W4 82 #[.int .i64 e.seq, .int .i64 e.time, .int .i64 e.cnt, .bool e.ak, .slice A3 e.p.length c3])))
      clear hbN
      go_wp2_with (at_builtin; refine wpList_push (E := encO) (R := OeR) (t := 82) (sz := 5) (base := base) (low := w.heap.size) (l := es') (b := ⟨e.seq, e.time, e.cnt, e.ak, A3, c3, e.p⟩) rfl (.tmp 27) (.tmp 29) 22 rfl _ 56 Try.underlying22 info82 rfl (by omega) (encO_one _) rfl rfl HN.out.1.eo hbw (oeR_ab (by simp)) HN.out.2.1 rfl HN.out.2.2 (by omega) (by omega) HN.out.1.bel.size ?_; intro v9 w9 hp9; have h9 := HN.out.1.pushO hbw hp9; have hk9 := HN.out.1.o.turn hp9.turn (by simp); have xo9 : w9.cell? ⟨w.heap.size + 1 + 1, 6, none⟩ = some (.slice Av es'.length cv) := hk9.cell 6; have zo9 := hk9.frozen 6; have lO9 := hk9.lt; obtain ⟨A9, c9, hv9, _, _⟩ := hp9.own.vform; subst hv9; have H9 := Lib.hid h9; clear h9 hk9 hp9)
      go_roundw
      case rel =>
        refine ⟨k + 1, .slice A9 (es'.length + 1) c9, es' ++ [(⟨e.seq, e.time, e.cnt, e.ak, A3, c3, e.p⟩ : Oe)], by omega, by go_num, ?_, ?_⟩
        · rw [List.map_append, HOM.out, List.take_add_one, HE.out.2.2]
          rfl
        · have h := H9.out
          rw [show (es' ++ [(⟨e.seq, e.time, e.cnt, e.ak, A3, c3, e.p⟩ : Oe)]).length = es'.length + 1 by simp] at h
          exact h
      case measure => simp [intOf]; omega
    · obtain rfl : k = es.length := by omega
      have homA : es'.map Oe.om = s.out := by rw [HOM.out, List.take_of_length_le (by rw [← HIN.out.2.1, List.length_map]; exact Nat.le_refl _)]
      have HOA := Lib.hid homA
      clear homA HOM hlt
      obtain ⟨wo, hwo⟩ : ∃ x : World, x = wr := ⟨_, rfl⟩
      subst hwo
      obtain ⟨Av, cv, rfl, -, -⟩ := HI.out.eo.vform
      go_wp2_with fail
      clear xb6
      go_loopw [6] (fun v6 wr => ∃ (j : Nat) (vq : Value) (qs' : List Qe), j ≤ qs.length ∧ v6 = .int .i64 j ∧ qs'.map Qe.p = s.q.take j ∧ Hid (RcI w base s (.slice Ao es.length co) (.slice Aq qs.length cq) (.slice Av es'.length cv) vq es' qs' wr)) (fun v6 _ => qs.length - (intOf v6).toNat)
      case atStart => exact ⟨0, _, [], by omega, rfl, rfl, HI⟩
      case round =>
        obtain ⟨j, vq, qs', hj, rfl, hqm, HJ⟩ := hrel
        have HQM := Lib.hid hqm
        clear hqm HI
        have xb7 : wr.cell? ⟨w.heap.size, 7, none⟩ = some (.slice Aq qs.length cq) := HJ.out.b.cell 7
        obtain ⟨Aw, cw, rfl, -, -⟩ := HJ.out.eq.vform
        by_cases hlt : j < qs.length
        · have ij : (j : Int) < qs.length := by omega
          have hV := HIN.out.2.2.1.up HJ.out.bel (qeR_ab (by simp))
          obtain ⟨b, off, c2, hv2, -, -, hbw2, hc⟩ := HIN.out.2.2.1.at_ encQ_len (by omega) (by omega)
          injection hv2 with hA hn2 hc2
          subst hA hc2
          clear hn2
          have d0 : wr.cell? ⟨b, off + j, none⟩ = some (.slice qs[j].A qs[j].p.length qs[j].c) := (HJ.out.bel.cell (p := ⟨b, off + j, none⟩) hbw2).trans (by have h := hc j hlt 0 _ rfl; simpa using h)
          have hbwr : b < wr.heap.size := Nat.lt_of_lt_of_le hbw2 HJ.out.bel.size
          obtain ⟨e, he⟩ : ∃ e, e = qs[j] := ⟨_, rfl⟩
          rw [← he] at d0
          have hby : QeR wr base e := by rw [he]; exact hV.el _ (List.getElem_mem hlt)
          have hpl : e.p.length ≤ 100000 := by
            rw [he]
            exact HIN.out.2.2.2.2.2.1 qs[j].p (by rw [← HIN.out.2.2.2.1]; exact List.mem_map_of_mem (List.getElem_mem hlt))
          have hes : s.q[j]? = some e.p := by rw [← HIN.out.2.2.2.1, List.getElem?_map, List.getElem?_eq_getElem hlt, he]; rfl
          have HE := Lib.hid (And.intro hby (And.intro hpl hes))
          clear hV hc he hby hes
          have xo7 : wr.cell? ⟨w.heap.size + 1 + 1, 7, none⟩ = some (.slice Aw qs'.length cw) := HJ.out.o.cell 7
          have lB := HJ.out.b.lt
          have lO := HJ.out.o.lt
          go_upto_region 12 with fail
          refine wp_region_lexP [(0, 1), (2, 1), (4, 1), (1, 1), (3, 1), (5, 1), (6, 1), (7, 0), (8, 0), (9, 0), (10, 1), (11, 0)] [11] (fun w9 => w9.cell? ⟨w.heap.size + 1 + 1, 7, none⟩ = some (.slice Aw qs'.length cw) ∧ w9.cell? ⟨w.heap.size, 7, none⟩ = some (.slice (some ⟨b, off, none⟩) qs.length cq) ∧ w9.cell? ⟨b, off + j, none⟩ = some (.slice e.A e.p.length e.c)) (by kernel_rfl) (by kernel_rfl) (by kernel_rfl) (by kernel_rfl) (by kernel_rfl) ⟨xo7, xb7, d0⟩ ?_
          repeat (refine lexP_read rfl (by rfl) (by rfl) (by intro w9 hS9; (try dsimp only at hS9); go_simp <;> with_reducible rfl) ?_; (try simp only [Act.put, List.getElem_toArray, List.getElem_cons_succ, List.getElem_cons_zero, List.setIfInBounds_toArray, List.set_cons_zero, List.set_cons_succ]))
          refine lexP_eff rfl (fun _ => trivial) ?_
          go_simp
          refine CallsIn.mono ((callsIn_wide (n := 0)).2 (copied_any e.A e.p.length e.c e.p wr.drew ((HE.out.1.up (Below.refl _ wr).drew).rd) hpl)) ?_
          rintro z w1 ⟨⟨v3, rfl, hown3⟩, hb3⟩
          dsimp only
          obtain ⟨A3, c3, rfl, -, -, -⟩ := own_slice hown3
          have hb1 : Below wr.heap.size wr w1 := (Below.refl _ wr).drew.trans hb3
          have HJ1 := Lib.hid (HJ.out.below hb1)
          have y7 : w1.cell? ⟨w.heap.size + 1 + 1, 7, none⟩ = some (.slice Aw qs'.length cw) := HJ1.out.o.cell 7
          have z7 : w1.cell? ⟨w.heap.size, 7, none⟩ = some (.slice (some ⟨b, off, none⟩) qs.length cq) := HJ1.out.b.cell 7
          have y0 : w1.cell? ⟨b, off + j, none⟩ = some (.slice e.A e.p.length e.c) := (hb1.cell (p := ⟨b, off + j, none⟩) hbwr).trans d0
          have lB1 := HJ1.out.b.lt
          have lO1 := HJ1.out.o.lt
          have lb1 := Nat.lt_of_lt_of_le hbwr hb1.size
          refine ⟨⟨y7, z7, y0⟩, ?_⟩
          (try simp only [Act.put, List.getElem_toArray, List.getElem_cons_succ, List.getElem_cons_zero, List.setIfInBounds_toArray, List.set_cons_zero, List.set_cons_succ])
          have hbN : Below w1.heap.size w1 (w1.alloc (.cells #[.slice A3 e.p.length c3] 42)) := (Below.refl _ w1).alloc (Nat.le_refl _) _
          have HN := Lib.hid (And.intro (HJ1.out.below hbN) (And.intro ((byt_of_own (base := base) hown3 rfl).up hbN) (And.intro (Blk.new w1 42 #[.slice A3 e.p.length c3]) ((hbN.cell (p := ⟨b, off + j, none⟩) lb1).trans y0))))
          have hl' : qs'.length ≤ 10000 := by have h := congrArg List.length HQM.out; rw [List.length_map, List.length_take] at h; omega
          clear hb3 hown3 hbN hb1 xb7 xo7 d0
          refine lexP_eff rfl (fun _ => trivial) ?_
          go_simp
          (try simp only [Act.put, List.getElem_toArray, List.getElem_cons_succ, List.getElem_cons_zero, List.setIfInBounds_toArray, List.set_cons_zero, List.set_cons_succ])
          refine lexP_push (E := encQ) (R := QeR) (t := 42) (sz := 1) (base := base) (low := w.heap.size) (l := qs') (b := ⟨A3, c3, e.p⟩) rfl (fun _ => trivial) _ _ 23 (by rfl) _ 24 Try.underlying23 info42 rfl (by omega) (encQ_one _) rfl (by rfl) HN.out.1.eq hbw (qeR_ab (by simp)) HN.out.2.1 (by rfl) HN.out.2.2.1 (by omega) (by omega) HN.out.1.bel.size ?_
          intro v9 w9 hp9
          have h9 := HN.out.1.pushQ hbw hp9
          obtain ⟨A9, c9, rfl, -, -⟩ := hp9.own.vform
          have hkO := HN.out.1.o.turn hp9.turn (by simp)
          have hkB := HN.out.1.b.turn hp9.turn (by simp)
          have q7 : w9.cell? ⟨w.heap.size + 1 + 1, 7, none⟩ = some (.slice Aw qs'.length cw) := hkO.cell 7
          have qz7 := hkO.frozen 7
          have r7 : w9.cell? ⟨w.heap.size, 7, none⟩ = some (.slice (some ⟨b, off, none⟩) qs.length cq) := hkB.cell 7
          have q0 : w9.cell? ⟨b, off + j, none⟩ = some (.slice e.A e.p.length e.c) := ((hp9.turn.below HN.out.1.bel.size).cell (p := ⟨b, off + j, none⟩) hbw2).trans HN.out.2.2.2
          have lO9 := hkO.lt
          refine ⟨.inr ⟨q7, r7, q0⟩, ?_⟩
          have H9 := Lib.hid h9
          clear h9 hp9 hkO hkB r7 q0 y7 z7 y0 lB1 lO1 lb1 lB lO
          (try simp only [Act.put, List.getElem_toArray, List.getElem_cons_succ, List.getElem_cons_zero, List.setIfInBounds_toArray, List.set_cons_zero, List.set_cons_succ])
          repeat (refine lexP_read rfl (by rfl) (by rfl) (by intro w9 hS9; (try dsimp only at hS9); go_simp <;> with_reducible rfl) ?_; (try simp only [Act.put, List.getElem_toArray, List.getElem_cons_succ, List.getElem_cons_zero, List.setIfInBounds_toArray, List.set_cons_zero, List.set_cons_succ]))
          refine lexP_eff rfl (fun _ => trivial) ?_
          go_simp
          refine lexP_nil (panQ_normal ?_)
          go_wp2_with fail
          clear q7 qz7 lO9
          go_roundw
          case rel =>
            refine ⟨j + 1, .slice A9 (qs'.length + 1) c9, qs' ++ [(⟨A3, c3, e.p⟩ : Qe)], by omega, by go_num, ?_, ?_⟩
            · rw [List.map_append, HQM.out, List.take_add_one, HE.out.2.2]
              rfl
            · have h := H9.out
              rw [show (qs' ++ [(⟨A3, c3, e.p⟩ : Qe)]).length = qs'.length + 1 by simp] at h
              exact h
          case measure => simp [intOf]; omega
        · obtain rfl : j = qs.length := by omega
          have hqA : qs'.map Qe.p = s.q := by rw [HQM.out, List.take_of_length_le (by rw [← HIN.out.2.2.2.1, List.length_map]; exact Nat.le_refl _)]
          have HQA := Lib.hid hqA
          clear hqA HQM hlt
          have hO := HJ.out.o
          unfold snC at hO
          have xo0 : wr.cell? ⟨w.heap.size + 1 + 1, 0, none⟩ = some (.int .i64 s.ses) := hO.cell 0
          have xo1 : wr.cell? ⟨w.heap.size + 1 + 1, 1, none⟩ = some (.int .i64 s.lim) := hO.cell 1
          have xo2 : wr.cell? ⟨w.heap.size + 1 + 1, 2, none⟩ = some (.int .i64 s.tmo) := hO.cell 2
          have xo3 : wr.cell? ⟨w.heap.size + 1 + 1, 3, none⟩ = some (.int .i64 s.base) := hO.cell 3
          have xo4 : wr.cell? ⟨w.heap.size + 1 + 1, 4, none⟩ = some (.int .i64 s.next) := hO.cell 4
          have xo5 : wr.cell? ⟨w.heap.size + 1 + 1, 5, none⟩ = some (.int .i64 s.cred) := hO.cell 5
          have xo6 : wr.cell? ⟨w.heap.size + 1 + 1, 6, none⟩ = some (.slice Av es'.length cv) := hO.cell 6
          have xo7 : wr.cell? ⟨w.heap.size + 1 + 1, 7, none⟩ = some (.slice Aw qs'.length cw) := hO.cell 7
          have lO := HJ.out.o.lt
          have xr0 : wr.cell? ⟨w.heap.size + 1, 0, none⟩ = some (.int .i64 0) := HJ.out.r.cell 0
          have xr1 : wr.cell? ⟨w.heap.size + 1, 1, none⟩ = some (.int .i64 0) := HJ.out.r.cell 1
          have xr2 : wr.cell? ⟨w.heap.size + 1, 2, none⟩ = some (.int .i64 0) := HJ.out.r.cell 2
          have xr3 : wr.cell? ⟨w.heap.size + 1, 3, none⟩ = some (.int .i64 0) := HJ.out.r.cell 3
          have xr4 : wr.cell? ⟨w.heap.size + 1, 4, none⟩ = some (.int .i64 0) := HJ.out.r.cell 4
          have xr5 : wr.cell? ⟨w.heap.size + 1, 5, none⟩ = some (.int .i64 0) := HJ.out.r.cell 5
          have xr6 : wr.cell? ⟨w.heap.size + 1, 6, none⟩ = some (.slice none 0 0) := HJ.out.r.cell 6
          have xr7 : wr.cell? ⟨w.heap.size + 1, 7, none⟩ = some (.slice none 0 0) := HJ.out.r.cell 7
          have xz0 := HJ.out.r.frozen 0
          have xz1 := HJ.out.r.frozen 1
          have xz2 := HJ.out.r.frozen 2
          have xz3 := HJ.out.r.frozen 3
          have xz4 := HJ.out.r.frozen 4
          have xz5 := HJ.out.r.frozen 5
          have xz6 := HJ.out.r.frozen 6
          have xz7 := HJ.out.r.frozen 7
          have lR := HJ.out.r.lt
          have hkF := set25_blk HJ.out.r (.int .i64 s.ses) (.int .i64 s.lim) (.int .i64 s.tmo) (.int .i64 s.base) (.int .i64 s.next) (.int .i64 s.cred) (.slice Av es'.length cv) (.slice Aw qs'.length cw)
          have hTF := set25_turn HJ.out.r (base := base) (by omega) (.int .i64 s.ses) (.int .i64 s.lim) (.int .i64 s.tmo) (.int .i64 s.base) (.int .i64 s.next) (.int .i64 s.cred) (.slice Av es'.length cv) (.slice Aw qs'.length cw)
          have hbF := set25_below HJ.out.bel (g := w.heap.size + 1) (by omega) (.int .i64 s.ses) (.int .i64 s.lim) (.int .i64 s.tmo) (.int .i64 s.base) (.int .i64 s.next) (.int .i64 s.cred) (.slice Av es'.length cv) (.slice Aw qs'.length cw)
          have HF := Lib.hid (And.intro hkF (And.intro hbF (And.intro (HJ.out.eo.turn hTF (by simp) (oeR_ab (by simp))) (HJ.out.eq.turn hTF (by simp) (qeR_ab (by simp))))))
          clear hkF hTF hbF hO
          go_wp2_with fail
          refine bodyPost_ret (results_cell1 (t := 25) rfl _ _ (w.heap.size + 1) _ _ rfl HF.out.1 Try.underlying25 rfl (by kernel_rfl)) rfl ?_
          exact ⟨⟨_, _, es', qs', rfl, HF.out.2.2.1, HOA.out, HF.out.2.2.2, HQA.out⟩, HF.out.2.1⟩
end Go.Proofs.Ytanmndhdhlmjgaa
