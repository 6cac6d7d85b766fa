/- The walk of the law WindowMakes. No condition. -/
import Derived.Test.YtanmndhdhlmjgaaXh
import Derived.Test.YtanmndhdhlmjgaaArgs
import Derived.Test.YtanmndhdhlmjgaaWu
import Derived.Test.YtanmndhdhlmjgaaWa
namespace Go.Proofs.Ytanmndhdhlmjgaa
open Go.RowKit
theorem newS_small (a b c : Int) : Small (newS a b c).1 := by
  unfold newS
  split <;> exact ⟨by simp, by simp⟩
theorem newR_small (a b : Int) : SmallR (newR a b).1 := by
  unfold newR
  split <;> exact ⟨by simp⟩
set_option maxRecDepth 100000 in
set_option maxHeartbeats 2000000 in
set_option linter.unusedSimpArgs false in
theorem walkWindowMakes (w : World) (v0 v1 v2 : Value) (h0 : Arg3 w v0) (h1 : Arg3 w v1) (h2 : Arg3 w v2) : Calls Try.prog 3 #[v0, v1, v2] w fun e w' => e = .returned (.bool true) ∧ Below w.heap.size w w' := by
  obtain ⟨a, rfl, -, -⟩ := h0
  obtain ⟨b, rfl, -, -⟩ := h1
  obtain ⟨c, rfl, -, -⟩ := h2
  obtain ⟨⟨s, es⟩, hs⟩ : ∃ q, newS a b c = q := ⟨_, rfl⟩
  obtain ⟨⟨r, er⟩, hr⟩ : ∃ q, newR a b = q := ⟨_, rfl⟩
  have hss := newS_small a b c
  have hrr := newR_small a b
  rw [hs] at hss
  rw [hr] at hrr
  have HSR := Lib.hid (And.intro hs (And.intro hr (And.intro hss hrr)))
  clear hs hr hss hrr
  go_enter Try.func3, Try.ntmps3
  go_wp2_with fail
  refine (NewSender_any a b c w).mono ?_
  rintro e u1 ⟨⟨sv, e1, rfl, he1, hsv⟩, hb⟩
  rw [HSR.out.1] at he1 hsv
  dsimp only at he1 hsv
  obtain ⟨vo, vq, rfl, hO, hQ⟩ := hsv w.heap.size (Nat.le_refl _)
  obtain ⟨Ao1, co1, rfl, -, -⟩ := hO.form
  obtain ⟨Aq1, cq1, rfl, -, -⟩ := hQ.form
  obtain ⟨no1, hno1⟩ : ∃ n, s.out.length = n := ⟨_, rfl⟩
  obtain ⟨nq1, hnq1⟩ : ∃ n, s.q.length = n := ⟨_, rfl⟩
  rw [hno1] at hO ⊢
  rw [hnq1] at hQ ⊢
  clear hsv hno1 hnq1
  unfold snC
  have hbx : Below u1.heap.size u1 (u1.alloc (.cells #[.int .i64 s.ses, .int .i64 s.lim, .int .i64 s.tmo, .int .i64 s.base, .int .i64 s.next, .int .i64 s.cred, .slice Ao1 no1 co1, .slice Aq1 nq1 cq1] 25)) := (Below.refl _ _).alloc (Nat.le_refl _) _
  have hkx := Blk.new u1 25 #[.int .i64 s.ses, .int .i64 s.lim, .int .i64 s.tmo, .int .i64 s.base, .int .i64 s.next, .int .i64 s.cred, .slice Ao1 no1 co1, .slice Aq1 nq1 cq1]
  have H1 := Lib.hid (And.intro he1 (And.intro (hb.trans (hbx.mono hb.size)) (And.intro hkx (And.intro (hO.up hbx) (hQ.up hbx)))))
  clear hb hbx hkx he1 hO hQ
  go_upto_region 2 with fail
  obtain ⟨B1, hB1⟩ : ∃ x, x = u1.heap.size := ⟨_, rfl⟩
  rw [← hB1] at H1 ⊢
  clear hB1
  generalize (u1.alloc (.cells #[.int .i64 s.ses, .int .i64 s.lim, .int .i64 s.tmo, .int .i64 s.base, .int .i64 s.next, .int .i64 s.cred, .slice Ao1 no1 co1, .slice Aq1 nq1 cq1] 25)) = V1 at *
  go_wp2_with fail
  refine (refNewSender_any a b c V1).mono ?_
  rintro e u2 ⟨⟨sv, e2, rfl, he2, hsv⟩, hb⟩
  rw [HSR.out.1] at he2 hsv
  dsimp only at he2 hsv
  obtain ⟨vo, vq, rfl, hO, hQ⟩ := hsv w.heap.size H1.out.2.1.size
  obtain ⟨Ao2, co2, rfl, -, -⟩ := hO.form
  obtain ⟨Aq2, cq2, rfl, -, -⟩ := hQ.form
  obtain ⟨no2, hno2⟩ : ∃ n, s.out.length = n := ⟨_, rfl⟩
  obtain ⟨nq2, hnq2⟩ : ∃ n, s.q.length = n := ⟨_, rfl⟩
  rw [hno2] at hO ⊢
  rw [hnq2] at hQ ⊢
  clear hsv hno2 hnq2
  unfold snC
  have hbx : Below u2.heap.size u2 (u2.alloc (.cells #[.int .i64 s.ses, .int .i64 s.lim, .int .i64 s.tmo, .int .i64 s.base, .int .i64 s.next, .int .i64 s.cred, .slice Ao2 no2 co2, .slice Aq2 nq2 cq2] 25)) := (Below.refl _ _).alloc (Nat.le_refl _) _
  have hkx := Blk.new u2 25 #[.int .i64 s.ses, .int .i64 s.lim, .int .i64 s.tmo, .int .i64 s.base, .int .i64 s.next, .int .i64 s.cred, .slice Ao2 no2 co2, .slice Aq2 nq2 cq2]
  have hbb : Below V1.heap.size V1 (u2.alloc (.cells #[.int .i64 s.ses, .int .i64 s.lim, .int .i64 s.tmo, .int .i64 s.base, .int .i64 s.next, .int .i64 s.cred, .slice Ao2 no2 co2, .slice Aq2 nq2 cq2] 25)) := hb.trans (hbx.mono hb.size)
  have H2 := Lib.hid (And.intro he2 (And.intro (H1.out.2.1.trans (hbb.mono H1.out.2.1.size)) (And.intro hkx (And.intro (hO.up hbx) (hQ.up hbx)))))
  have H1' := Lib.hid (And.intro H1.out.1 (And.intro True.intro (And.intro (H1.out.2.2.1.below hbb H1.out.2.2.1.lt) (And.intro (H1.out.2.2.2.1.up hbb) (H1.out.2.2.2.2.up hbb)))))
  clear H1
  have H1 := H1'
  clear H1'
  clear hbb
  clear hb hbx hkx he2 hO hQ
  go_upto_region 3 with fail
  obtain ⟨B2, hB2⟩ : ∃ x, x = u2.heap.size := ⟨_, rfl⟩
  rw [← hB2] at H2 ⊢
  clear hB2
  generalize (u2.alloc (.cells #[.int .i64 s.ses, .int .i64 s.lim, .int .i64 s.tmo, .int .i64 s.base, .int .i64 s.next, .int .i64 s.cred, .slice Ao2 no2 co2, .slice Aq2 nq2 cq2] 25)) = V2 at *
  go_wp2_with fail
  refine (NewReceiver_any a b V2).mono ?_
  rintro e u3 ⟨⟨sv, e3, rfl, he3, hsv⟩, hb⟩
  rw [HSR.out.2.1] at he3 hsv
  dsimp only at he3 hsv
  obtain ⟨ve, rfl, hE⟩ := hsv w.heap.size H2.out.2.1.size
  obtain ⟨Ar3, cr3, rfl, -, -⟩ := hE.form
  obtain ⟨nr3, hnr3⟩ : ∃ n, r.early.length = n := ⟨_, rfl⟩
  rw [hnr3] at hE ⊢
  clear hsv hnr3
  unfold rcC
  have hbx : Below u3.heap.size u3 (u3.alloc (.cells #[.int .i64 r.ses, .int .i64 r.lim, .int .i64 r.next, .slice Ar3 nr3 cr3] 33)) := (Below.refl _ _).alloc (Nat.le_refl _) _
  have hkx := Blk.new u3 33 #[.int .i64 r.ses, .int .i64 r.lim, .int .i64 r.next, .slice Ar3 nr3 cr3]
  have hbb : Below V2.heap.size V2 (u3.alloc (.cells #[.int .i64 r.ses, .int .i64 r.lim, .int .i64 r.next, .slice Ar3 nr3 cr3] 33)) := hb.trans (hbx.mono hb.size)
  have H3 := Lib.hid (And.intro he3 (And.intro (H2.out.2.1.trans (hbb.mono H2.out.2.1.size)) (And.intro hkx (hE.up hbx))))
  have H1' := Lib.hid (And.intro H1.out.1 (And.intro True.intro (And.intro (H1.out.2.2.1.below hbb H1.out.2.2.1.lt) (And.intro (H1.out.2.2.2.1.up hbb) (H1.out.2.2.2.2.up hbb)))))
  clear H1
  have H1 := H1'
  clear H1'
  have H2' := Lib.hid (And.intro H2.out.1 (And.intro True.intro (And.intro (H2.out.2.2.1.below hbb H2.out.2.2.1.lt) (And.intro (H2.out.2.2.2.1.up hbb) (H2.out.2.2.2.2.up hbb)))))
  clear H2
  have H2 := H2'
  clear H2'
  clear hbb
  clear hb hbx hkx he3 hE
  go_upto_region 4 with fail
  obtain ⟨B3, hB3⟩ : ∃ x, x = u3.heap.size := ⟨_, rfl⟩
  rw [← hB3] at H3 ⊢
  clear hB3
  generalize (u3.alloc (.cells #[.int .i64 r.ses, .int .i64 r.lim, .int .i64 r.next, .slice Ar3 nr3 cr3] 33)) = V3 at *
  go_wp2_with fail
  refine (refNewReceiver_any a b V3).mono ?_
  rintro e u4 ⟨⟨sv, e4, rfl, he4, hsv⟩, hb⟩
  rw [HSR.out.2.1] at he4 hsv
  dsimp only at he4 hsv
  obtain ⟨ve, rfl, hE⟩ := hsv w.heap.size H3.out.2.1.size
  obtain ⟨Ar4, cr4, rfl, -, -⟩ := hE.form
  obtain ⟨nr4, hnr4⟩ : ∃ n, r.early.length = n := ⟨_, rfl⟩
  rw [hnr4] at hE ⊢
  clear hsv hnr4
  unfold rcC
  have hbx : Below u4.heap.size u4 (u4.alloc (.cells #[.int .i64 r.ses, .int .i64 r.lim, .int .i64 r.next, .slice Ar4 nr4 cr4] 33)) := (Below.refl _ _).alloc (Nat.le_refl _) _
  have hkx := Blk.new u4 33 #[.int .i64 r.ses, .int .i64 r.lim, .int .i64 r.next, .slice Ar4 nr4 cr4]
  have hbb : Below V3.heap.size V3 (u4.alloc (.cells #[.int .i64 r.ses, .int .i64 r.lim, .int .i64 r.next, .slice Ar4 nr4 cr4] 33)) := hb.trans (hbx.mono hb.size)
  have H4 := Lib.hid (And.intro he4 (And.intro (H3.out.2.1.trans (hbb.mono H3.out.2.1.size)) (And.intro hkx (hE.up hbx))))
  have H1' := Lib.hid (And.intro H1.out.1 (And.intro True.intro (And.intro (H1.out.2.2.1.below hbb H1.out.2.2.1.lt) (And.intro (H1.out.2.2.2.1.up hbb) (H1.out.2.2.2.2.up hbb)))))
  clear H1
  have H1 := H1'
  clear H1'
  have H2' := Lib.hid (And.intro H2.out.1 (And.intro True.intro (And.intro (H2.out.2.2.1.below hbb H2.out.2.2.1.lt) (And.intro (H2.out.2.2.2.1.up hbb) (H2.out.2.2.2.2.up hbb)))))
  clear H2
  have H2 := H2'
  clear H2'
  have H3' := Lib.hid (And.intro H3.out.1 (And.intro True.intro (And.intro (H3.out.2.2.1.below hbb H3.out.2.2.1.lt) (H3.out.2.2.2.up hbb))))
  clear H3
  have H3 := H3'
  clear H3'
  clear hbb
  clear hb hbx hkx he4 hE
  go_upto_region 5 with fail
  obtain ⟨B4, hB4⟩ : ∃ x, x = u4.heap.size := ⟨_, rfl⟩
  rw [← hB4] at H4 ⊢
  clear hB4
  generalize (u4.alloc (.cells #[.int .i64 r.ses, .int .i64 r.lim, .int .i64 r.next, .slice Ar4 nr4 cr4] 33)) = V4 at *
  have xa0 : V4.cell? ⟨B1, 0, none⟩ = some (.int .i64 s.ses) := H1.out.2.2.1.cell 0
  have xa1 : V4.cell? ⟨B1, 1, none⟩ = some (.int .i64 s.lim) := H1.out.2.2.1.cell 1
  have xa2 : V4.cell? ⟨B1, 2, none⟩ = some (.int .i64 s.tmo) := H1.out.2.2.1.cell 2
  have xa3 : V4.cell? ⟨B1, 3, none⟩ = some (.int .i64 s.base) := H1.out.2.2.1.cell 3
  have xa4 : V4.cell? ⟨B1, 4, none⟩ = some (.int .i64 s.next) := H1.out.2.2.1.cell 4
  have xa5 : V4.cell? ⟨B1, 5, none⟩ = some (.int .i64 s.cred) := H1.out.2.2.1.cell 5
  have xa6 : V4.cell? ⟨B1, 6, none⟩ = some (.slice Ao1 no1 co1) := H1.out.2.2.1.cell 6
  have xa7 : V4.cell? ⟨B1, 7, none⟩ = some (.slice Aq1 nq1 cq1) := H1.out.2.2.1.cell 7
  have l1 := H1.out.2.2.1.lt
  have xb0 : V4.cell? ⟨B2, 0, none⟩ = some (.int .i64 s.ses) := H2.out.2.2.1.cell 0
  have xb1 : V4.cell? ⟨B2, 1, none⟩ = some (.int .i64 s.lim) := H2.out.2.2.1.cell 1
  have xb2 : V4.cell? ⟨B2, 2, none⟩ = some (.int .i64 s.tmo) := H2.out.2.2.1.cell 2
  have xb3 : V4.cell? ⟨B2, 3, none⟩ = some (.int .i64 s.base) := H2.out.2.2.1.cell 3
  have xb4 : V4.cell? ⟨B2, 4, none⟩ = some (.int .i64 s.next) := H2.out.2.2.1.cell 4
  have xb5 : V4.cell? ⟨B2, 5, none⟩ = some (.int .i64 s.cred) := H2.out.2.2.1.cell 5
  have xb6 : V4.cell? ⟨B2, 6, none⟩ = some (.slice Ao2 no2 co2) := H2.out.2.2.1.cell 6
  have xb7 : V4.cell? ⟨B2, 7, none⟩ = some (.slice Aq2 nq2 cq2) := H2.out.2.2.1.cell 7
  have l2 := H2.out.2.2.1.lt
  have xc0 : V4.cell? ⟨B3, 0, none⟩ = some (.int .i64 r.ses) := H3.out.2.2.1.cell 0
  have xc1 : V4.cell? ⟨B3, 1, none⟩ = some (.int .i64 r.lim) := H3.out.2.2.1.cell 1
  have xc2 : V4.cell? ⟨B3, 2, none⟩ = some (.int .i64 r.next) := H3.out.2.2.1.cell 2
  have xc3 : V4.cell? ⟨B3, 3, none⟩ = some (.slice Ar3 nr3 cr3) := H3.out.2.2.1.cell 3
  have l3 := H3.out.2.2.1.lt
  have xd0 : V4.cell? ⟨B4, 0, none⟩ = some (.int .i64 r.ses) := H4.out.2.2.1.cell 0
  have xd1 : V4.cell? ⟨B4, 1, none⟩ = some (.int .i64 r.lim) := H4.out.2.2.1.cell 1
  have xd2 : V4.cell? ⟨B4, 2, none⟩ = some (.int .i64 r.next) := H4.out.2.2.1.cell 2
  have xd3 : V4.cell? ⟨B4, 3, none⟩ = some (.slice Ar4 nr4 cr4) := H4.out.2.2.1.cell 3
  have l4 := H4.out.2.2.1.lt
  have hc1 := SameSender_true s (.agg #[.int .i64 s.ses, .int .i64 s.lim, .int .i64 s.tmo, .int .i64 s.base, .int .i64 s.next, .int .i64 s.cred, .slice Ao1 no1 co1, .slice Aq1 nq1 cq1]) (.agg #[.int .i64 s.ses, .int .i64 s.lim, .int .i64 s.tmo, .int .i64 s.base, .int .i64 s.next, .int .i64 s.cred, .slice Ao2 no2 co2, .slice Aq2 nq2 cq2]) w.heap.size w.heap.size V4 ⟨_, _, rfl, H1.out.2.2.2.1, H1.out.2.2.2.2⟩ ⟨_, _, rfl, H2.out.2.2.2.1, H2.out.2.2.2.2⟩ HSR.out.2.2.1
  have HC := Lib.hid hc1
  clear hc1
  have HE : Hid (e1 = e2 ∧ e3 = e4) := ⟨H1.out.1.trans H2.out.1.symm, H3.out.1.trans H4.out.1.symm⟩
  have k12 : (e1 == e2) = true := by rw [beq_iff_eq]; exact HE.out.1
  have k34 : (e3 == e4) = true := by rw [beq_iff_eq]; exact HE.out.2
  go_wp2_with fail
  refine HC.out.mono ?_
  clear HC
  rintro e y1 ⟨rfl, hb⟩
  have hw := H4.out.2.1.trans (hb.mono H4.out.2.1.size)
  have G1 := Lib.hid (And.intro True.intro (And.intro True.intro (And.intro (H1.out.2.2.1.below hb H1.out.2.2.1.lt) (And.intro (H1.out.2.2.2.1.up hb) (H1.out.2.2.2.2.up hb)))))
  have G2 := Lib.hid (And.intro True.intro (And.intro True.intro (And.intro (H2.out.2.2.1.below hb H2.out.2.2.1.lt) (And.intro (H2.out.2.2.2.1.up hb) (H2.out.2.2.2.2.up hb)))))
  have G3 := Lib.hid (And.intro True.intro (And.intro True.intro (And.intro (H3.out.2.2.1.below hb H3.out.2.2.1.lt) (H3.out.2.2.2.up hb))))
  have G4 := Lib.hid (And.intro True.intro (And.intro True.intro (And.intro (H4.out.2.2.1.below hb H4.out.2.2.1.lt) (H4.out.2.2.2.up hb))))
  have HW := Lib.hid hw
  clear hb hw xa0 xa1 xa2 xa3 xa4 xa5 xa6 xa7 xb0 xb1 xb2 xb3 xb4 xb5 xb6 xb7 xc0 xc1 xc2 xc3 xd0 xd1 xd2 xd3 l1 l2 l3 l4 H1 H2 H3 H4
  have xa0 : y1.cell? ⟨B1, 0, none⟩ = some (.int .i64 s.ses) := G1.out.2.2.1.cell 0
  have xa1 : y1.cell? ⟨B1, 1, none⟩ = some (.int .i64 s.lim) := G1.out.2.2.1.cell 1
  have xa2 : y1.cell? ⟨B1, 2, none⟩ = some (.int .i64 s.tmo) := G1.out.2.2.1.cell 2
  have xa3 : y1.cell? ⟨B1, 3, none⟩ = some (.int .i64 s.base) := G1.out.2.2.1.cell 3
  have xa4 : y1.cell? ⟨B1, 4, none⟩ = some (.int .i64 s.next) := G1.out.2.2.1.cell 4
  have xa5 : y1.cell? ⟨B1, 5, none⟩ = some (.int .i64 s.cred) := G1.out.2.2.1.cell 5
  have xa6 : y1.cell? ⟨B1, 6, none⟩ = some (.slice Ao1 no1 co1) := G1.out.2.2.1.cell 6
  have xa7 : y1.cell? ⟨B1, 7, none⟩ = some (.slice Aq1 nq1 cq1) := G1.out.2.2.1.cell 7
  have l1 := G1.out.2.2.1.lt
  have xb0 : y1.cell? ⟨B2, 0, none⟩ = some (.int .i64 s.ses) := G2.out.2.2.1.cell 0
  have xb1 : y1.cell? ⟨B2, 1, none⟩ = some (.int .i64 s.lim) := G2.out.2.2.1.cell 1
  have xb2 : y1.cell? ⟨B2, 2, none⟩ = some (.int .i64 s.tmo) := G2.out.2.2.1.cell 2
  have xb3 : y1.cell? ⟨B2, 3, none⟩ = some (.int .i64 s.base) := G2.out.2.2.1.cell 3
  have xb4 : y1.cell? ⟨B2, 4, none⟩ = some (.int .i64 s.next) := G2.out.2.2.1.cell 4
  have xb5 : y1.cell? ⟨B2, 5, none⟩ = some (.int .i64 s.cred) := G2.out.2.2.1.cell 5
  have xb6 : y1.cell? ⟨B2, 6, none⟩ = some (.slice Ao2 no2 co2) := G2.out.2.2.1.cell 6
  have xb7 : y1.cell? ⟨B2, 7, none⟩ = some (.slice Aq2 nq2 cq2) := G2.out.2.2.1.cell 7
  have l2 := G2.out.2.2.1.lt
  have xc0 : y1.cell? ⟨B3, 0, none⟩ = some (.int .i64 r.ses) := G3.out.2.2.1.cell 0
  have xc1 : y1.cell? ⟨B3, 1, none⟩ = some (.int .i64 r.lim) := G3.out.2.2.1.cell 1
  have xc2 : y1.cell? ⟨B3, 2, none⟩ = some (.int .i64 r.next) := G3.out.2.2.1.cell 2
  have xc3 : y1.cell? ⟨B3, 3, none⟩ = some (.slice Ar3 nr3 cr3) := G3.out.2.2.1.cell 3
  have l3 := G3.out.2.2.1.lt
  have xd0 : y1.cell? ⟨B4, 0, none⟩ = some (.int .i64 r.ses) := G4.out.2.2.1.cell 0
  have xd1 : y1.cell? ⟨B4, 1, none⟩ = some (.int .i64 r.lim) := G4.out.2.2.1.cell 1
  have xd2 : y1.cell? ⟨B4, 2, none⟩ = some (.int .i64 r.next) := G4.out.2.2.1.cell 2
  have xd3 : y1.cell? ⟨B4, 3, none⟩ = some (.slice Ar4 nr4 cr4) := G4.out.2.2.1.cell 3
  have l4 := G4.out.2.2.1.lt
  have hc2 := SameReceiver_true r (.agg #[.int .i64 r.ses, .int .i64 r.lim, .int .i64 r.next, .slice Ar3 nr3 cr3]) (.agg #[.int .i64 r.ses, .int .i64 r.lim, .int .i64 r.next, .slice Ar4 nr4 cr4]) w.heap.size w.heap.size y1 ⟨_, rfl, G3.out.2.2.2⟩ ⟨_, rfl, G4.out.2.2.2⟩ HSR.out.2.2.2
  have HC := Lib.hid hc2
  clear hc2
  go_wp2_with fail
  refine HC.out.mono ?_
  clear HC
  rintro e y2 ⟨rfl, hb⟩
  have HW2 := Lib.hid (HW.out.trans (hb.mono HW.out.size))
  clear hb xa0 xa1 xa2 xa3 xa4 xa5 xa6 xa7 xb0 xb1 xb2 xb3 xb4 xb5 xb6 xb7 xc0 xc1 xc2 xc3 xd0 xd1 xd2 xd3 l1 l2 l3 l4 G1 G2 G3 G4
  go_wp2_with fail
  refine (awake_any y2).mono ?_
  rintro e y3 ⟨rfl, hb⟩
  have HW3 := Lib.hid (HW2.out.trans (hb.mono HW2.out.size))
  clear hb
  go_wp2_with fail
  go_ret
  exact ⟨rfl, HW3.out⟩
end Go.Proofs.Ytanmndhdhlmjgaa
