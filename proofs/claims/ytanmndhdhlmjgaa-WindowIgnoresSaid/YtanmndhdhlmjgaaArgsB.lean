/- What the statements' arguments are, as values: bytes, senders, receivers, packets. No condition. -/
import Derived.Test.YtanmndhdhlmjgaaArgs
import Derived.Test.YtanmndhdhlmjgaaVf
namespace Go.Proofs.Ytanmndhdhlmjgaa
open Go.RowKit Go.ChangeShapes Go.WideShapes Go.Deep
section
set_option maxRecDepth 100000
variable {H : Type} {enc : TypeId × Value → H} {w : World} {r : Reach} {b0 base : Nat} {spare : Nat → Bool} {held : Bool} {v : Value} {d : DataW H} {p : List MemPlace}
abbrev B8 := { x : Nat // x < 256 }
theorem cells3 : Try.prog.cellsOf 3 = 1 := by kernel_rfl
theorem cells4 : Try.prog.cellsOf 4 = 1 := by kernel_rfl
theorem cells5 : Try.prog.cellsOf 5 = 1 := by kernel_rfl
theorem cells22 : Try.prog.cellsOf 22 = 1 := by kernel_rfl
theorem cells23 : Try.prog.cellsOf 23 = 1 := by kernel_rfl
theorem cells25 : Try.prog.cellsOf 25 = 8 := by kernel_rfl
theorem cells31 : Try.prog.cellsOf 31 = 1 := by kernel_rfl
theorem cells33 : Try.prog.cellsOf 33 = 4 := by kernel_rfl
theorem cells42 : Try.prog.cellsOf 42 = 1 := by kernel_rfl
theorem cells53 : Try.prog.cellsOf 53 = 1 := by kernel_rfl
theorem cells55 : Try.prog.cellsOf 55 = 7 := by kernel_rfl
theorem cells82 : Try.prog.cellsOf 82 = 5 := by kernel_rfl
theorem cells84 : Try.prog.cellsOf 84 = 2 := by kernel_rfl
theorem cells87 : Try.prog.cellsOf 87 = 2 := by kernel_rfl
theorem b8_flat (l : List B8) : (l.flatMap fun x => [Value.int .u8 (x.1 : Int)]) = u8s (l.map (·.1)) := by
  unfold u8s
  induction l with
  | nil => rfl
  | cons x l ih => rw [List.flatMap_cons, ih]; rfl
def Arg42 (w : World) (v : Value) : Prop := ∃ p, BsV w w.heap.size p v
theorem arg42 (hv : Value.okWide Try.prog w r b0 42 v) (h : DataW.Trod enc Try.prog w base spare held 42 v d p) : Arg42 w v := by
  obtain ⟨A, n, c, xs, rfl, h1, h2, h3, h4⟩ := flat_slice (flat_u8 Try.underlying5) cells5 (by omega) (fun a => rfl) Try.underlying42 hv h
  rw [b8_flat] at h4
  have hl : (xs.map (·.1)).length = n := by rw [List.length_map]; exact h1
  refine ⟨xs.map (·.1), A, c, by rw [hl], ?_⟩
  unfold Byt
  rw [hl]
  exact Rd.of_args h4 (Nat.le_refl _)
theorem flat87 : Flat Try.prog 87 (fun x : { x : Int // -9223372036854775808 ≤ x ∧ x ≤ 9223372036854775807 } × { x : Int // -9223372036854775808 ≤ x ∧ x ≤ 9223372036854775807 } => [.int .i64 x.1.1, .int .i64 x.2.1]) := by
  intro H enc w base spare held fuel cs x h
  obtain ⟨hl, hf⟩ := struct_cells Try.underlying87 h
  rw [cells87] at hl
  match cs, hl with
  | [c0, c1], _ =>
    obtain ⟨m0, x0, g0⟩ := hf 0 _ rfl
    have h0 : DataW.trod enc Try.prog w base spare held m0 3 ((([c0, c1] : List Value).drop 0).take (Try.prog.cellsOf 3)) = some x0 := g0
    rw [cells3] at h0
    obtain ⟨a0, e0⟩ := flat_i64 Try.underlying3 h0
    obtain ⟨m1, x1, g1⟩ := hf 1 _ rfl
    have h1 : DataW.trod enc Try.prog w base spare held m1 3 ((([c0, c1] : List Value).drop 1).take (Try.prog.cellsOf 3)) = some x1 := g1
    rw [cells3] at h1
    obtain ⟨a1, e1⟩ := flat_i64 Try.underlying3 h1
    simp at e0 e1
    subst e0 e1
    exact ⟨(a0, a1), rfl⟩
theorem byt_arg {w : World} {A : Option Addr} {n : Nat} {l : List Nat} (hr : Reads w w.heap.size 1 A n (u8s l)) (h : l.length = n) : Byt w w.heap.size A l := by
  unfold Byt
  rw [h]
  exact Rd.of_args hr (Nat.le_refl _)
theorem deep82 : DeepE Try.prog 82 encO (fun w e => OeR w w.heap.size e) := by
  intro H enc w base spare held fuel cs x h
  obtain ⟨hl, hf⟩ := struct_cells Try.underlying82 h
  rw [cells82] at hl
  match cs, hl with
  | [c0, c1, c2, c3, c4], _ =>
    obtain ⟨m0, x0, g0⟩ := hf 0 _ rfl
    have h0 : DataW.trod enc Try.prog w base spare held m0 3 ((([c0, c1, c2, c3, c4] : List Value).drop 0).take (Try.prog.cellsOf 3)) = some x0 := g0
    rw [cells3] at h0
    obtain ⟨a0, e0⟩ := flat_i64 Try.underlying3 h0
    obtain ⟨m1, x1, g1⟩ := hf 1 _ rfl
    have h1 : DataW.trod enc Try.prog w base spare held m1 3 ((([c0, c1, c2, c3, c4] : List Value).drop 1).take (Try.prog.cellsOf 3)) = some x1 := g1
    rw [cells3] at h1
    obtain ⟨a1, e1⟩ := flat_i64 Try.underlying3 h1
    obtain ⟨m2, x2, g2⟩ := hf 2 _ rfl
    have h2 : DataW.trod enc Try.prog w base spare held m2 3 ((([c0, c1, c2, c3, c4] : List Value).drop 2).take (Try.prog.cellsOf 3)) = some x2 := g2
    rw [cells3] at h2
    obtain ⟨a2, e2⟩ := flat_i64 Try.underlying3 h2
    obtain ⟨m3, x3, g3⟩ := hf 3 _ rfl
    have h3 : DataW.trod enc Try.prog w base spare held m3 4 ((([c0, c1, c2, c3, c4] : List Value).drop 3).take (Try.prog.cellsOf 4)) = some x3 := g3
    rw [cells4] at h3
    obtain ⟨a3, e3⟩ := flat_bool Try.underlying4 h3
    obtain ⟨m4, x4, g4⟩ := hf 4 _ rfl
    have h4 : DataW.trod enc Try.prog w base spare held m4 42 ((([c0, c1, c2, c3, c4] : List Value).drop 4).take (Try.prog.cellsOf 42)) = some x4 := g4
    rw [cells42] at h4
    obtain ⟨A4, n4, k4, y4, e4, hn4, hc4, hm4, hr4⟩ := flat_slice_cells (flat_u8 Try.underlying5) cells5 (by omega) (fun a => rfl) Try.underlying42 h4
    rw [b8_flat] at hr4
    have hq4 : (y4.map (·.1)).length = n4 := by rw [List.length_map, hn4]
    simp at e0 e1 e2 e3 e4
    subst e0 e1 e2 e3 e4
    exact ⟨⟨a0.1, a1.1, a2.1, a3, A4, k4, y4.map (·.1)⟩, by simp only [encO]; rw [hq4], byt_arg hr4 hq4⟩
theorem deep84 : DeepE Try.prog 84 encA (fun w e => AeR w w.heap.size e) := by
  intro H enc w base spare held fuel cs x h
  obtain ⟨hl, hf⟩ := struct_cells Try.underlying84 h
  rw [cells84] at hl
  match cs, hl with
  | [c0, c1], _ =>
    obtain ⟨m0, x0, g0⟩ := hf 0 _ rfl
    have h0 : DataW.trod enc Try.prog w base spare held m0 3 ((([c0, c1] : List Value).drop 0).take (Try.prog.cellsOf 3)) = some x0 := g0
    rw [cells3] at h0
    obtain ⟨a0, e0⟩ := flat_i64 Try.underlying3 h0
    obtain ⟨m1, x1, g1⟩ := hf 1 _ rfl
    have h1 : DataW.trod enc Try.prog w base spare held m1 42 ((([c0, c1] : List Value).drop 1).take (Try.prog.cellsOf 42)) = some x1 := g1
    rw [cells42] at h1
    obtain ⟨A1, n1, k1, y1, e1, hn1, hc1, hm1, hr1⟩ := flat_slice_cells (flat_u8 Try.underlying5) cells5 (by omega) (fun a => rfl) Try.underlying42 h1
    rw [b8_flat] at hr1
    have hq1 : (y1.map (·.1)).length = n1 := by rw [List.length_map, hn1]
    simp at e0 e1
    subst e0 e1
    exact ⟨⟨a0.1, A1, k1, y1.map (·.1)⟩, by simp only [encA]; rw [hq1], byt_arg hr1 hq1⟩
theorem deep42 : DeepE Try.prog 42 encQ (fun w e => QeR w w.heap.size e) := by
  intro H enc w base spare held fuel cs x h
  obtain ⟨A, n, c, xs, e2, hn, hc, hm, hr⟩ := flat_slice_cells (flat_u8 Try.underlying5) cells5 (by omega) (fun a => rfl) Try.underlying42 h
  rw [b8_flat] at hr
  have hq : (xs.map (·.1)).length = n := by rw [List.length_map, hn]
  subst e2
  exact ⟨⟨A, c, xs.map (·.1)⟩, by simp only [encQ]; rw [hq], byt_arg hr hq⟩
def Arg25 (w : World) (v : Value) : Prop := ∃ s, SnV w w.heap.size s v
theorem arg25 (hv : Value.okWide Try.prog w r b0 25 v) (h : DataW.Trod enc Try.prog w base spare held 25 v d p) : Arg25 w v := by
  obtain ⟨cs, rfl, hl, hf⟩ := struct_fields Try.underlying25 hv h
  rw [cells25] at hl
  match cs, hl with
  | [c0, c1, c2, c3, c4, c5, c6, c7], _ =>
    obtain ⟨m0, x0, g0⟩ := hf 0 _ rfl
    have h0 : DataW.trod enc Try.prog w base spare held m0 3 ((([c0, c1, c2, c3, c4, c5, c6, c7] : List Value).drop 0).take (Try.prog.cellsOf 3)) = some x0 := g0
    rw [cells3] at h0
    obtain ⟨a0, e0⟩ := flat_i64 Try.underlying3 h0
    obtain ⟨m1, x1, g1⟩ := hf 1 _ rfl
    have h1 : DataW.trod enc Try.prog w base spare held m1 3 ((([c0, c1, c2, c3, c4, c5, c6, c7] : List Value).drop 1).take (Try.prog.cellsOf 3)) = some x1 := g1
    rw [cells3] at h1
    obtain ⟨a1, e1⟩ := flat_i64 Try.underlying3 h1
    obtain ⟨m2, x2, g2⟩ := hf 2 _ rfl
    have h2 : DataW.trod enc Try.prog w base spare held m2 3 ((([c0, c1, c2, c3, c4, c5, c6, c7] : List Value).drop 2).take (Try.prog.cellsOf 3)) = some x2 := g2
    rw [cells3] at h2
    obtain ⟨a2, e2⟩ := flat_i64 Try.underlying3 h2
    obtain ⟨m3, x3, g3⟩ := hf 3 _ rfl
    have h3 : DataW.trod enc Try.prog w base spare held m3 3 ((([c0, c1, c2, c3, c4, c5, c6, c7] : List Value).drop 3).take (Try.prog.cellsOf 3)) = some x3 := g3
    rw [cells3] at h3
    obtain ⟨a3, e3⟩ := flat_i64 Try.underlying3 h3
    obtain ⟨m4, x4, g4⟩ := hf 4 _ rfl
    have h4 : DataW.trod enc Try.prog w base spare held m4 3 ((([c0, c1, c2, c3, c4, c5, c6, c7] : List Value).drop 4).take (Try.prog.cellsOf 3)) = some x4 := g4
    rw [cells3] at h4
    obtain ⟨a4, e4⟩ := flat_i64 Try.underlying3 h4
    obtain ⟨m5, x5, g5⟩ := hf 5 _ rfl
    have h5 : DataW.trod enc Try.prog w base spare held m5 3 ((([c0, c1, c2, c3, c4, c5, c6, c7] : List Value).drop 5).take (Try.prog.cellsOf 3)) = some x5 := g5
    rw [cells3] at h5
    obtain ⟨a5, e5⟩ := flat_i64 Try.underlying3 h5
    obtain ⟨m6, x6, g6⟩ := hf 6 _ rfl
    have h6 : DataW.trod enc Try.prog w base spare held m6 22 ((([c0, c1, c2, c3, c4, c5, c6, c7] : List Value).drop 6).take (Try.prog.cellsOf 22)) = some x6 := g6
    rw [cells22] at h6
    obtain ⟨A6, n6, k6, y6, e6, hn6, hc6, hm6, hr6, hd6⟩ := deep_slice_cells deep82 cells82 (by omega) encO_len Try.underlying22 h6
    obtain ⟨m7, x7, g7⟩ := hf 7 _ rfl
    have h7 : DataW.trod enc Try.prog w base spare held m7 23 ((([c0, c1, c2, c3, c4, c5, c6, c7] : List Value).drop 7).take (Try.prog.cellsOf 23)) = some x7 := g7
    rw [cells23] at h7
    obtain ⟨A7, n7, k7, y7, e7, hn7, hc7, hm7, hr7, hd7⟩ := deep_slice_cells deep42 cells42 (by omega) encQ_len Try.underlying23 h7
    simp at e0 e1 e2 e3 e4 e5 e6 e7
    subst e0 e1 e2 e3 e4 e5 e6 e7
    subst hn6 hn7
    exact ⟨⟨a0.1, a1.1, a2.1, a3.1, a4.1, a5.1, y6.map Oe.om, y7.map Qe.p⟩, _, _, rfl, ⟨y6, ⟨⟨A6, k6, rfl, hc6, hm6, Rd.of_args hr6 (Nat.le_refl _)⟩, hd6⟩, rfl⟩, ⟨y7, ⟨⟨A7, k7, rfl, hc7, hm7, Rd.of_args hr7 (Nat.le_refl _)⟩, hd7⟩, rfl⟩⟩
def Arg33 (w : World) (v : Value) : Prop := ∃ r, RcV w w.heap.size r v
theorem arg33 (hv : Value.okWide Try.prog w r b0 33 v) (h : DataW.Trod enc Try.prog w base spare held 33 v d p) : Arg33 w v := by
  obtain ⟨cs, rfl, hl, hf⟩ := struct_fields Try.underlying33 hv h
  rw [cells33] at hl
  match cs, hl with
  | [c0, c1, c2, c3], _ =>
    obtain ⟨m0, x0, g0⟩ := hf 0 _ rfl
    have h0 : DataW.trod enc Try.prog w base spare held m0 3 ((([c0, c1, c2, c3] : List Value).drop 0).take (Try.prog.cellsOf 3)) = some x0 := g0
    rw [cells3] at h0
    obtain ⟨a0, e0⟩ := flat_i64 Try.underlying3 h0
    obtain ⟨m1, x1, g1⟩ := hf 1 _ rfl
    have h1 : DataW.trod enc Try.prog w base spare held m1 3 ((([c0, c1, c2, c3] : List Value).drop 1).take (Try.prog.cellsOf 3)) = some x1 := g1
    rw [cells3] at h1
    obtain ⟨a1, e1⟩ := flat_i64 Try.underlying3 h1
    obtain ⟨m2, x2, g2⟩ := hf 2 _ rfl
    have h2 : DataW.trod enc Try.prog w base spare held m2 3 ((([c0, c1, c2, c3] : List Value).drop 2).take (Try.prog.cellsOf 3)) = some x2 := g2
    rw [cells3] at h2
    obtain ⟨a2, e2⟩ := flat_i64 Try.underlying3 h2
    obtain ⟨m3, x3, g3⟩ := hf 3 _ rfl
    have h3 : DataW.trod enc Try.prog w base spare held m3 31 ((([c0, c1, c2, c3] : List Value).drop 3).take (Try.prog.cellsOf 31)) = some x3 := g3
    rw [cells31] at h3
    obtain ⟨A3, n3, k3, y3, e3, hn3, hc3, hm3, hr3, hd3⟩ := deep_slice_cells deep84 cells84 (by omega) encA_len Try.underlying31 h3
    simp at e0 e1 e2 e3
    subst e0 e1 e2 e3
    subst hn3
    exact ⟨⟨a0.1, a1.1, a2.1, y3.map Ae.am⟩, _, rfl, y3, ⟨⟨A3, k3, rfl, hc3, hm3, Rd.of_args hr3 (Nat.le_refl _)⟩, hd3⟩, rfl⟩
def Arg55 (w : World) (v : Value) : Prop := ∃ q, PkV w w.heap.size q v
theorem ext_flat (l : List ({ x : Int // -9223372036854775808 ≤ x ∧ x ≤ 9223372036854775807 } × { x : Int // -9223372036854775808 ≤ x ∧ x ≤ 9223372036854775807 })) : (l.flatMap fun x => [Value.int .i64 x.1.1, .int .i64 x.2.1]) = (l.map fun x => (⟨x.1.1, x.2.1⟩ : Xm)).flatMap encX := by
  induction l with
  | nil => rfl
  | cons x l ih => rw [List.flatMap_cons, ih]; rfl
theorem arg55 (hv : Value.okWide Try.prog w r b0 55 v) (h : DataW.Trod enc Try.prog w base spare held 55 v d p) : Arg55 w v := by
  obtain ⟨cs, rfl, hl, hf⟩ := struct_fields Try.underlying55 hv h
  rw [cells55] at hl
  match cs, hl with
  | [c0, c1, c2, c3, c4, c5, c6], _ =>
    obtain ⟨m0, x0, g0⟩ := hf 0 _ rfl
    have h0 : DataW.trod enc Try.prog w base spare held m0 3 ((([c0, c1, c2, c3, c4, c5, c6] : List Value).drop 0).take (Try.prog.cellsOf 3)) = some x0 := g0
    rw [cells3] at h0
    obtain ⟨a0, e0⟩ := flat_i64 Try.underlying3 h0
    obtain ⟨m1, x1, g1⟩ := hf 1 _ rfl
    have h1 : DataW.trod enc Try.prog w base spare held m1 3 ((([c0, c1, c2, c3, c4, c5, c6] : List Value).drop 1).take (Try.prog.cellsOf 3)) = some x1 := g1
    rw [cells3] at h1
    obtain ⟨a1, e1⟩ := flat_i64 Try.underlying3 h1
    obtain ⟨m2, x2, g2⟩ := hf 2 _ rfl
    have h2 : DataW.trod enc Try.prog w base spare held m2 3 ((([c0, c1, c2, c3, c4, c5, c6] : List Value).drop 2).take (Try.prog.cellsOf 3)) = some x2 := g2
    rw [cells3] at h2
    obtain ⟨a2, e2⟩ := flat_i64 Try.underlying3 h2
    obtain ⟨m3, x3, g3⟩ := hf 3 _ rfl
    have h3 : DataW.trod enc Try.prog w base spare held m3 3 ((([c0, c1, c2, c3, c4, c5, c6] : List Value).drop 3).take (Try.prog.cellsOf 3)) = some x3 := g3
    rw [cells3] at h3
    obtain ⟨a3, e3⟩ := flat_i64 Try.underlying3 h3
    obtain ⟨m4, x4, g4⟩ := hf 4 _ rfl
    have h4 : DataW.trod enc Try.prog w base spare held m4 3 ((([c0, c1, c2, c3, c4, c5, c6] : List Value).drop 4).take (Try.prog.cellsOf 3)) = some x4 := g4
    rw [cells3] at h4
    obtain ⟨a4, e4⟩ := flat_i64 Try.underlying3 h4
    obtain ⟨m5, x5, g5⟩ := hf 5 _ rfl
    have h5 : DataW.trod enc Try.prog w base spare held m5 53 ((([c0, c1, c2, c3, c4, c5, c6] : List Value).drop 5).take (Try.prog.cellsOf 53)) = some x5 := g5
    rw [cells53] at h5
    obtain ⟨A5, n5, k5, y5, e5, hn5, hc5, hm5, hr5⟩ := flat_slice_cells flat87 cells87 (by omega) (fun a => rfl) Try.underlying53 h5
    obtain ⟨m6, x6, g6⟩ := hf 6 _ rfl
    have h6 : DataW.trod enc Try.prog w base spare held m6 42 ((([c0, c1, c2, c3, c4, c5, c6] : List Value).drop 6).take (Try.prog.cellsOf 42)) = some x6 := g6
    rw [cells42] at h6
    obtain ⟨A6, n6, k6, y6, e6, hn6, hc6, hm6, hr6⟩ := flat_slice_cells (flat_u8 Try.underlying5) cells5 (by omega) (fun a => rfl) Try.underlying42 h6
    rw [b8_flat] at hr6
    have hq6 : (y6.map (·.1)).length = n6 := by rw [List.length_map, hn6]
    simp at e0 e1 e2 e3 e4 e5 e6
    subst e0 e1 e2 e3 e4 e5 e6
    rw [ext_flat] at hr5
    have hl5 : (y5.map fun x => (⟨x.1.1, x.2.1⟩ : Xm)).length = n5 := by rw [List.length_map, hn5]
    subst hl5
    exact ⟨⟨a0.1, a1.1, a2.1, a3.1, a4.1, y5.map fun x => (⟨x.1.1, x.2.1⟩ : Xm), y6.map (·.1)⟩, _, _, rfl, ⟨⟨A5, k5, rfl, hc5, hm5, Rd.of_args hr5 (Nat.le_refl _)⟩, fun _ _ => trivial⟩, ⟨A6, k6, by rw [hq6], byt_arg hr6 hq6⟩⟩
end
end Go.Proofs.Ytanmndhdhlmjgaa
