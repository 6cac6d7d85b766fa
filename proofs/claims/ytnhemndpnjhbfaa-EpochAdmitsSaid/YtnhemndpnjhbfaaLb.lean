/- The walk of the law EpochAdmits. No condition. -/
import Derived.Test.YtnhemndpnjhbfaaLa
namespace Go.Proofs.Ytnhemndpnjhbfaa
open Go.RowKit Go.Shelf
/-- what lies in a block of three cells -/
def Three (w : World) (b : Nat) (v0 v1 v2 : Value) : Prop := w.cell? ⟨b, 0, none⟩ = some v0 ∧ w.cell? ⟨b, 1, none⟩ = some v1 ∧ w.cell? ⟨b, 2, none⟩ = some v2
theorem Three.keep {B b : Nat} {X w' : World} {v0 v1 v2 : Value} (hB : Below B X w') (l : b < B) (h : Three X b v0 v1 v2) : Three w' b v0 v1 v2 :=
  ⟨(hB.cell (p := ⟨b, 0, none⟩) l).trans h.1, (hB.cell (p := ⟨b, 1, none⟩) l).trans h.2.1, (hB.cell (p := ⟨b, 2, none⟩) l).trans h.2.2⟩
theorem nine {B a b c : Nat} {X w' : World} {a0 a1 a2 b0 b1 b2 c0 c1 c2 : Value} (hB : Below B X w') (ha : Three X a a0 a1 a2) (hb : Three X b b0 b1 b2) (hc : Three X c c0 c1 c2) (la : a < B) (lb : b < B) (lc : c < B) :
    w'.cell? ⟨a, 0, none⟩ = some a0 ∧ w'.cell? ⟨a, 1, none⟩ = some a1 ∧ w'.cell? ⟨a, 2, none⟩ = some a2 ∧ w'.cell? ⟨b, 0, none⟩ = some b0 ∧ w'.cell? ⟨b, 1, none⟩ = some b1 ∧ w'.cell? ⟨b, 2, none⟩ = some b2 ∧ w'.cell? ⟨c, 0, none⟩ = some c0 ∧ w'.cell? ⟨c, 1, none⟩ = some c1 ∧ w'.cell? ⟨c, 2, none⟩ = some c2 ∧ Below B X w' := by
  obtain ⟨x0, x1, x2⟩ := ha.keep hB la
  obtain ⟨y0, y1, y2⟩ := hb.keep hB lb
  obtain ⟨z0, z1, z2⟩ := hc.keep hB lc
  exact ⟨x0, x1, x2, y0, y1, y2, z0, z1, z2, hB⟩
set_option maxRecDepth 100000 in
set_option maxHeartbeats 4000000 in
theorem walkEpochAdmits (w : World) (v0 v1 v2 : Value) (h0 : Arg23 w v0) (h1 : Arg3 w v1) (h2 : Arg3 w v2) : Calls Try.prog 3 #[v0, v1, v2] w fun e w' => e = .returned (.bool true) ∧ Below w.heap.size w w' := by
  obtain ⟨x, o, c, rfl⟩ := h0
  obtain ⟨n, rfl, _, _⟩ := h1
  obtain ⟨s, rfl, _, _⟩ := h2
  obtain ⟨v, hv⟩ : ∃ v, checkF x o = v := ⟨_, rfl⟩
  obtain ⟨u, hu⟩ : ∃ u, admitV x o c n s = u := ⟨_, rfl⟩
  have k1 := fun w9 => New_any x o w9
  have k2 := fun w9 => refNew_any x o w9
  obtain ⟨p1, p2, p3, hp, hp'⟩ : ∃ p1 p2 p3, Value.agg (if fenceB x o then #[.int .i64 x, .int .i64 o, .bool false] else #[.int .i64 0, .int .i64 0, .bool false]) = .agg #[.int .i64 p1, .int .i64 p2, .bool p3] ∧ fenceR (checkF x o) x o false = .agg #[.int .i64 p1, .int .i64 p2, .bool p3] := by
    unfold fenceR checkF fenceV
    split
    · exact ⟨_, _, _, rfl, by rw [if_pos rfl]⟩
    · exact ⟨_, _, _, rfl, by rw [if_neg (by decide)]⟩
  have k3 := fun w9 => Check_any x o c w9
  have k4 := fun w9 => refCheck_any x o c w9
  have k5 := fun w9 => Admit_any x o n s c w9
  have k6 := fun w9 => refAdmit_any x o n s c w9
  rw [hp, hv] at k1
  rw [hp', hv] at k2
  rw [hv] at k3 k4
  rw [hu] at k5 k6
  have K := Lib.hid (And.intro k1 (And.intro k2 (And.intro k3 (And.intro k4 (And.intro k5 k6)))))
  have hB0 : Below w.heap.size w (w.alloc (.cells #[.int .i64 x, .int .i64 o, .bool c] 23)) := (Below.refl _ w).alloc (Nat.le_refl _) _
  clear hv hu hp hp' k1 k2 k3 k4 k5 k6
  have heq := eq23
  go_enter Try.func3, Try.ntmps3
  go_wp2_with fail
  refine (K.out.1 _).mono ?_
  rintro e w1 ⟨rfl, hb1⟩
  obtain ⟨hc1, _⟩ := bcell hb1
  have hz1 : w.heap.size < w1.heap.size := by have := hb1.size; simp at this; omega
  have hB1 := hB0.trans (hb1.mono hB0.size)
  go_wp2_with fail
  refine (K.out.2.1 _).mono ?_
  rintro e w2 ⟨rfl, hb2⟩
  obtain ⟨hc2, _⟩ := bcell hb2
  have hz2 : w1.heap.size < w2.heap.size := by have := hb2.size; simp at this; omega
  have hz2_0 : w.heap.size < w2.heap.size := by omega
  have hB2 := (hB1.alloc hB1.size (.cells #[.int .i64 p1, .int .i64 p2, .bool p3] 23)).trans (hb2.mono (by simp; omega))
  have hBX := hB2.alloc hB2.size (.cells #[.int .i64 p1, .int .i64 p2, .bool p3] 23)
  have t0 : Three (w2.alloc (.cells #[.int .i64 p1, .int .i64 p2, .bool p3] 23)) w.heap.size (.int .i64 x) (.int .i64 o) (.bool c) := ⟨by go_simp, by go_simp, by go_simp⟩
  have t1 : Three (w2.alloc (.cells #[.int .i64 p1, .int .i64 p2, .bool p3] 23)) w1.heap.size (.int .i64 p1) (.int .i64 p2) (.bool p3) := ⟨by go_simp, by go_simp, by go_simp⟩
  have t2 : Three (w2.alloc (.cells #[.int .i64 p1, .int .i64 p2, .bool p3] 23)) w2.heap.size (.int .i64 p1) (.int .i64 p2) (.bool p3) := ⟨by go_simp, by go_simp, by go_simp⟩
  have l2 : w2.heap.size < (w2.alloc (.cells #[.int .i64 p1, .int .i64 p2, .bool p3] 23)).heap.size := by simp
  clear hc1 hc2 hB0 hB1 hB2 hb1 hb2
  go_wp2_with fail
  generalize (w2.alloc (.cells #[.int .i64 p1, .int .i64 p2, .bool p3] 23)) = X at *
  have l0 : w.heap.size < X.heap.size := by omega
  have l1 : w1.heap.size < X.heap.size := by omega
  have T := Lib.hid (And.intro t0 (And.intro t1 t2))
  obtain ⟨a0, a1, a2⟩ := t0
  obtain ⟨b0, b1, b2⟩ := t1
  obtain ⟨d0, d1, d2⟩ := t2
  go_region_held3 (fun w' => w'.cell? ⟨w.heap.size, 0, none⟩ = some (.int .i64 x) ∧ w'.cell? ⟨w.heap.size, 1, none⟩ = some (.int .i64 o) ∧ w'.cell? ⟨w.heap.size, 2, none⟩ = some (.bool c) ∧ w'.cell? ⟨w1.heap.size, 0, none⟩ = some (.int .i64 p1) ∧ w'.cell? ⟨w1.heap.size, 1, none⟩ = some (.int .i64 p2) ∧ w'.cell? ⟨w1.heap.size, 2, none⟩ = some (.bool p3) ∧ w'.cell? ⟨w2.heap.size, 0, none⟩ = some (.int .i64 p1) ∧ w'.cell? ⟨w2.heap.size, 1, none⟩ = some (.int .i64 p2) ∧ w'.cell? ⟨w2.heap.size, 2, none⟩ = some (.bool p3) ∧ Below X.heap.size X w')
    (first
      | exact nine ((Below.refl _ X).drew) T.out.1 T.out.2.1 T.out.2.2 l0 l1 l2
      | (go_split_ands; refine nine (below_step ?_ hb') T.out.1 T.out.2.1 T.out.2.2 l0 l1 l2; assumption))
    (first
      | (go_at_call 12; refine (awake_any _).mono ?_; rintro e w' ⟨rfl, hb'⟩)
      | (go_at_call 13; refine (K.out.2.2.1 _).mono ?_; rintro e w' ⟨rfl, hb'⟩)
      | (go_at_call 14; refine (K.out.2.2.2.1 _).mono ?_; rintro e w' ⟨rfl, hb'⟩)
      | (go_at_call 15; refine (K.out.2.2.2.2.1 _).mono ?_; rintro e w' ⟨rfl, hb'⟩)
      | (go_at_call 16; refine (K.out.2.2.2.2.2 _).mono ?_; rintro e w' ⟨rfl, hb'⟩))
  all_goals
    rename_i hS
    have HS := Lib.hid hS
    clear hS
    go_wp2_with fail
    go_ret
    exact ⟨by simp, below_step hBX HS.out.2.2.2.2.2.2.2.2.2⟩
end Go.Proofs.Ytnhemndpnjhbfaa
