/- The walk of the transmission's begin. Conditions: small. -/
import Derived.Test.YtanmndhdhlmjgaaRa
import Derived.Test.YtanmndhdhlmjgaaWa
namespace Go.Proofs.Ytanmndhdhlmjgaa
open Go.RowKit
def run0 (a b : Nat) : RunM := ⟨⟨1, a % 8 + 1, 5, 0, 0, a % 8 + 1, [], []⟩, ⟨1, b % 8 + 1, 0, []⟩, [], [], [], [], 0⟩
theorem newS_run (a : Nat) : newS 1 ((a : Int) % 8 + 1) 5 = (⟨1, (a : Int) % 8 + 1, 5, 0, 0, (a : Int) % 8 + 1, [], []⟩, 0) := by
  unfold newS
  rw [if_pos (by omega)]
theorem newR_run (b : Nat) : newR 1 ((b : Int) % 8 + 1) = (⟨1, (b : Int) % 8 + 1, 0, []⟩, 0) := by
  unfold newR
  rw [if_pos (by omega)]
/-- what begin leaves -/
structure BeginR (w : World) (base a b : Nat) (e : Ending) (w' : World) : Prop where
  ret : ∃ X u, e = .returned (.tuple #[.pointer (some ⟨X, 0, none⟩), .bool true]) ∧ w.heap.size ≤ X ∧ RunI w' base X (run0 a b) u
  bel : Below w.heap.size w w'
set_option maxRecDepth 100000 in
set_option maxHeartbeats 2000000 in
set_option linter.unusedSimpArgs false in
theorem begin_any (a b base : Nat) (w : World) (ha : a < 256) (hb : b < 256) (hbw : base ≤ w.heap.size) : Calls Try.prog 37 #[.int .u8 a, .int .u8 b] w (BeginR w base a b) := by
  have kw1 : IntKind.i64.wrap ((a : Int) % 8 + 1) = (a : Int) % 8 + 1 := by rw [IntWalk.i64_in _ (by omega)]
  have kw2 : IntKind.i64.wrap ((b : Int) % 8 + 1) = (b : Int) % 8 + 1 := by rw [IntWalk.i64_in _ (by omega)]
  have kt1 : Int.tmod (a : Int) 8 = (a : Int) % 8 := Int.tmod_eq_emod_of_nonneg (by omega)
  have kt2 : Int.tmod (b : Int) 8 = (b : Int) % 8 := Int.tmod_eq_emod_of_nonneg (by omega)
  have HC := Lib.hid (NewSender_any 1 ((a : Int) % 8 + 1) 5 w)
  go_enter Try.func37, Try.ntmps37
  go_wp2_with fail
  refine HC.out.mono ?_
  clear HC
  rintro e w1 ⟨⟨sv, k1, rfl, hk1, hsv⟩, hb1⟩
  rw [newS_run] at hsv hk1
  dsimp only at hsv hk1
  subst hk1
  obtain ⟨vo, vq, rfl, hO, hQ⟩ := hsv base hbw
  clear hsv
  obtain ⟨Ao, co, rfl, -, -⟩ := hO.form
  obtain ⟨Aq, cq, rfl, -, -⟩ := hQ.form
  unfold snC
  dsimp only [List.length_nil] at hO hQ ⊢
  have hbx : Below w1.heap.size w1 (w1.alloc (.cells #[.int .i64 1, .int .i64 ((a : Int) % 8 + 1), .int .i64 5, .int .i64 0, .int .i64 0, .int .i64 ((a : Int) % 8 + 1), .slice Ao 0 co, .slice Aq 0 cq] 25)) := (Below.refl _ _).alloc (Nat.le_refl _) _
  have hbb := hb1.trans (hbx.mono hb1.size)
  have H1 := Lib.hid (And.intro (Blk.new w1 25 #[.int .i64 1, .int .i64 ((a : Int) % 8 + 1), .int .i64 5, .int .i64 0, .int .i64 0, .int .i64 ((a : Int) % 8 + 1), .slice Ao 0 co, .slice Aq 0 cq]) (And.intro (hO.up hbx) (And.intro (hQ.up hbx) hbb)))
  clear hbx hbb hO hQ hb1
  go_upto_region 2 with fail
  obtain ⟨B1, hB1⟩ : ∃ x, x = w1.heap.size := ⟨_, rfl⟩
  rw [← hB1] at H1 ⊢
  clear hB1
  generalize (w1.alloc (.cells #[.int .i64 1, .int .i64 ((a : Int) % 8 + 1), .int .i64 5, .int .i64 0, .int .i64 0, .int .i64 ((a : Int) % 8 + 1), .slice Ao 0 co, .slice Aq 0 cq] 25)) = V1 at *
  have HC := Lib.hid (NewReceiver_any 1 ((b : Int) % 8 + 1) V1)
  have xa0 : V1.cell? ⟨B1, 0, none⟩ = some (.int .i64 1) := H1.out.1.cell 0
  have xa1 : V1.cell? ⟨B1, 1, none⟩ = some (.int .i64 ((a : Int) % 8 + 1)) := H1.out.1.cell 1
  have xa2 : V1.cell? ⟨B1, 2, none⟩ = some (.int .i64 5) := H1.out.1.cell 2
  have xa3 : V1.cell? ⟨B1, 3, none⟩ = some (.int .i64 0) := H1.out.1.cell 3
  have xa4 : V1.cell? ⟨B1, 4, none⟩ = some (.int .i64 0) := H1.out.1.cell 4
  have xa5 : V1.cell? ⟨B1, 5, none⟩ = some (.int .i64 ((a : Int) % 8 + 1)) := H1.out.1.cell 5
  have xa6 : V1.cell? ⟨B1, 6, none⟩ = some (.slice Ao 0 co) := H1.out.1.cell 6
  have xa7 : V1.cell? ⟨B1, 7, none⟩ = some (.slice Aq 0 cq) := H1.out.1.cell 7
  have l1 := H1.out.1.lt
  go_wp2_with fail
  refine HC.out.mono ?_
  clear HC
  rintro e w2 ⟨⟨rv, k2, rfl, hk2, hrv⟩, hb2⟩
  rw [newR_run] at hrv hk2
  dsimp only at hrv hk2
  subst hk2
  obtain ⟨ve, rfl, hE⟩ := hrv base (Nat.le_trans hbw H1.out.2.2.2.size)
  clear hrv
  obtain ⟨Ae, ce, rfl, -, -⟩ := hE.form
  unfold rcC
  dsimp only [List.length_nil] at hE ⊢
  clear xa0 xa1 xa2 xa3 xa4 xa5 xa6 xa7
  have hbx : Below w2.heap.size w2 (w2.alloc (.cells #[.int .i64 1, .int .i64 ((b : Int) % 8 + 1), .int .i64 0, .slice Ae 0 ce] 33)) := (Below.refl _ _).alloc (Nat.le_refl _) _
  have hbb := hb2.trans (hbx.mono hb2.size)
  have H2 := Lib.hid (And.intro (H1.out.1.below hbb l1) (And.intro (H1.out.2.1.up hbb) (And.intro (H1.out.2.2.1.up hbb) (And.intro (H1.out.2.2.2.trans (hbb.mono H1.out.2.2.2.size)) (And.intro (Blk.new w2 33 #[.int .i64 1, .int .i64 ((b : Int) % 8 + 1), .int .i64 0, .slice Ae 0 ce]) (hE.up hbx))))))
  clear hbx hbb hE hb2 H1 l1
  go_upto_region 3 with fail
  obtain ⟨B2, hB2⟩ : ∃ x, x = w2.heap.size := ⟨_, rfl⟩
  rw [← hB2] at H2 ⊢
  clear hB2
  generalize (w2.alloc (.cells #[.int .i64 1, .int .i64 ((b : Int) % 8 + 1), .int .i64 0, .slice Ae 0 ce] 33)) = V2 at *
  have xa0 : V2.cell? ⟨B1, 0, none⟩ = some (.int .i64 1) := H2.out.1.cell 0
  have xa1 : V2.cell? ⟨B1, 1, none⟩ = some (.int .i64 ((a : Int) % 8 + 1)) := H2.out.1.cell 1
  have xa2 : V2.cell? ⟨B1, 2, none⟩ = some (.int .i64 5) := H2.out.1.cell 2
  have xa3 : V2.cell? ⟨B1, 3, none⟩ = some (.int .i64 0) := H2.out.1.cell 3
  have xa4 : V2.cell? ⟨B1, 4, none⟩ = some (.int .i64 0) := H2.out.1.cell 4
  have xa5 : V2.cell? ⟨B1, 5, none⟩ = some (.int .i64 ((a : Int) % 8 + 1)) := H2.out.1.cell 5
  have xa6 : V2.cell? ⟨B1, 6, none⟩ = some (.slice Ao 0 co) := H2.out.1.cell 6
  have xa7 : V2.cell? ⟨B1, 7, none⟩ = some (.slice Aq 0 cq) := H2.out.1.cell 7
  have xb0 : V2.cell? ⟨B2, 0, none⟩ = some (.int .i64 1) := H2.out.2.2.2.2.1.cell 0
  have xb1 : V2.cell? ⟨B2, 1, none⟩ = some (.int .i64 ((b : Int) % 8 + 1)) := H2.out.2.2.2.2.1.cell 1
  have xb2 : V2.cell? ⟨B2, 2, none⟩ = some (.int .i64 0) := H2.out.2.2.2.2.1.cell 2
  have xb3 : V2.cell? ⟨B2, 3, none⟩ = some (.slice Ae 0 ce) := H2.out.2.2.2.2.1.cell 3
  have l1 := H2.out.1.lt
  have l2 := H2.out.2.2.2.2.1.lt
  have hbx : Below V2.heap.size V2 (V2.alloc (.cells #[.int .i64 1, .int .i64 ((a : Int) % 8 + 1), .int .i64 5, .int .i64 0, .int .i64 0, .int .i64 ((a : Int) % 8 + 1), .slice Ao 0 co, .slice Aq 0 cq, .int .i64 1, .int .i64 ((b : Int) % 8 + 1), .int .i64 0, .slice Ae 0 ce, .slice none 0 0, .slice none 0 0, .slice none 0 0, .slice none 0 0, .int .i64 0] 73)) := (Below.refl _ _).alloc (Nat.le_refl _) _
  have HF := Lib.hid (And.intro (Blk.new V2 73 #[.int .i64 1, .int .i64 ((a : Int) % 8 + 1), .int .i64 5, .int .i64 0, .int .i64 0, .int .i64 ((a : Int) % 8 + 1), .slice Ao 0 co, .slice Aq 0 cq, .int .i64 1, .int .i64 ((b : Int) % 8 + 1), .int .i64 0, .slice Ae 0 ce, .slice none 0 0, .slice none 0 0, .slice none 0 0, .slice none 0 0, .int .i64 0]) (And.intro (H2.out.2.1.up hbx) (And.intro (H2.out.2.2.1.up hbx) (And.intro (H2.out.2.2.2.2.2.up hbx) (H2.out.2.2.2.1.trans (hbx.mono H2.out.2.2.2.1.size))))))
  clear hbx
  go_wp2_with fail
  go_ret2
  refine ⟨⟨V2.heap.size, ⟨.slice Ao 0 co, .slice Aq 0 cq, .slice Ae 0 ce, .slice none 0 0, .slice none 0 0, .slice none 0 0, .slice none 0 0, [], [], [], []⟩, rfl, H2.out.2.2.2.1.size, ⟨⟨HF.out.2.1, HF.out.2.2.1, HF.out.2.2.2.1, Own1.nil, rfl, Own1.nil, rfl, Own1.nil, rfl, Own1.nil, rfl, ?_, ?_, ?_⟩, HF.out.1⟩⟩, HF.out.2.2.2.2⟩
  · intro g e; simp [Value.ownBlock] at e
  · intro g e; simp [Value.ownBlock] at e
  · intro g e h; exact absurd rfl h
end Go.Proofs.Ytanmndhdhlmjgaa
