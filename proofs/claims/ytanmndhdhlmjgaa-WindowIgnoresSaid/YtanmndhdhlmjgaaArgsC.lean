/- Lists of numbers as arguments. No condition. -/
import Derived.Test.YtanmndhdhlmjgaaArgsB
import Derived.Test.YtanmndhdhlmjgaaVf
namespace Go.Proofs.Ytanmndhdhlmjgaa
open Go.RowKit Go.ChangeShapes Go.WideShapes Go.Deep
def encI (n : Int) : List Value := [.int .i64 n]
def IR (_ : World) (_ : Nat) (n : Int) : Prop := -9223372036854775808 ≤ n ∧ n ≤ 9223372036854775807
theorem ir_ab {T : List TypeId} : Abides IR T := fun _ _ _ _ _ h => h
theorem encI_len (n : Int) : (encI n).length = 1 := rfl
section
set_option maxRecDepth 100000
variable {H : Type} {enc : TypeId × Value → H} {w : World} {r : Reach} {b0 base : Nat} {spare : Nat → Bool} {held : Bool} {v : Value} {d : DataW H} {p : List MemPlace}
theorem encI_flat (l : List { x : Int // -9223372036854775808 ≤ x ∧ x ≤ 9223372036854775807 }) : (l.flatMap fun x => [Value.int .i64 x.1]) = (l.map (·.1)).flatMap encI := by
  induction l with
  | nil => rfl
  | cons x l ih => rw [List.flatMap_cons, ih]; rfl
def Arg66 (w : World) (v : Value) : Prop := ∃ ns, Vec encI IR 3 1 w w.heap.size v ns
theorem arg66 (hv : Value.okWide Try.prog w r b0 66 v) (h : DataW.Trod enc Try.prog w base spare held 66 v d p) : Arg66 w v := by
  obtain ⟨A, n, c, xs, rfl, h1, h2, h3, h4⟩ := flat_slice (flat_i64 Try.underlying3) cells3 (by omega) (fun a => rfl) Try.underlying66 hv h
  rw [encI_flat] at h4
  have hl : (xs.map (·.1)).length = n := by rw [List.length_map]; exact h1
  refine ⟨xs.map (·.1), ⟨A, c, by rw [hl], by rw [hl]; exact h2, h3, by rw [hl]; exact Rd.of_args h4 (Nat.le_refl _)⟩, fun e he => ?_⟩
  obtain ⟨x, -, rfl⟩ := List.mem_map.1 he
  exact x.2
end
end Go.Proofs.Ytanmndhdhlmjgaa
/- A packet of another session as an argument. No condition. -/
namespace Go.Proofs.Ytanmndhdhlmjgaa
open Go.RowKit Go.ChangeShapes Go.WideShapes Go.Deep
set_option maxRecDepth 100000
/-- a packet of another session -/
def Arg79 (w : World) (v : Value) : Prop := ∃ vs ps vp steps q, v = .agg (#[vs] ++ pkC q ps vp) ∧ Vec encI IR 3 1 w w.heap.size vs steps ∧ PkV w w.heap.size q (.agg (pkC q ps vp))
theorem pk_cells {H : Type} {enc : TypeId × Value → H} {w : World} {base : Nat} {spare : Nat → Bool} {held : Bool} {fuel : Nat} {cs : List Value} {x : DataW H × List MemPlace} (h : DataW.trod enc Try.prog w base spare held fuel 55 cs = some x) : ∃ q ps vp, cs = (pkC q ps vp).toList ∧ PkV w w.heap.size q (.agg (pkC q ps vp)) := by
  obtain ⟨hl, hf⟩ := struct_cells Try.underlying55 h
  rw [cells55] at hl
  match cs, hl with
  | [c0, c1, c2, c3, c4, c5, c6], _ =>
    obtain ⟨m0, x0, g0⟩ := hf 0 _ rfl
    have h0 : DataW.trod enc Try.prog w base spare held m0 3 ((([c0, c1, c2, c3, c4, c5, c6] : List Value).drop 0).take (Try.prog.cellsOf 3)) = some x0 := g0
    rw [cells3] at h0
    obtain ⟨a0, e0⟩ := flat_i64 Try.underlying3 h0
    obtain ⟨m1, x1, g1⟩ := hf 1 _ rfl
    have h1 : DataW.trod enc Try.prog w base spare held m1 3 ((([c0, c1, c2, c3, c4, c5, c6] : List Value).drop 1).take (Try.prog.cellsOf 3)) = some x1 := g1
    rw [cells3] at h1
    obtain ⟨a1, e1⟩ := flat_i64 Try.underlying3 h1
    obtain ⟨m2, x2, g2⟩ := hf 2 _ rfl
    have h2 : DataW.trod enc Try.prog w base spare held m2 3 ((([c0, c1, c2, c3, c4, c5, c6] : List Value).drop 2).take (Try.prog.cellsOf 3)) = some x2 := g2
    rw [cells3] at h2
    obtain ⟨a2, e2⟩ := flat_i64 Try.underlying3 h2
    obtain ⟨m3, x3, g3⟩ := hf 3 _ rfl
    have h3 : DataW.trod enc Try.prog w base spare held m3 3 ((([c0, c1, c2, c3, c4, c5, c6] : List Value).drop 3).take (Try.prog.cellsOf 3)) = some x3 := g3
    rw [cells3] at h3
    obtain ⟨a3, e3⟩ := flat_i64 Try.underlying3 h3
    obtain ⟨m4, x4, g4⟩ := hf 4 _ rfl
    have h4 : DataW.trod enc Try.prog w base spare held m4 3 ((([c0, c1, c2, c3, c4, c5, c6] : List Value).drop 4).take (Try.prog.cellsOf 3)) = some x4 := g4
    rw [cells3] at h4
    obtain ⟨a4, e4⟩ := flat_i64 Try.underlying3 h4
    obtain ⟨m5, x5, g5⟩ := hf 5 _ rfl
    have h5 : DataW.trod enc Try.prog w base spare held m5 53 ((([c0, c1, c2, c3, c4, c5, c6] : List Value).drop 5).take (Try.prog.cellsOf 53)) = some x5 := g5
    rw [cells53] at h5
    obtain ⟨A5, n5, k5, y5, e5, hn5, hc5, hm5, hr5⟩ := flat_slice_cells flat87 cells87 (by omega) (fun a => rfl) Try.underlying53 h5
    obtain ⟨m6, x6, g6⟩ := hf 6 _ rfl
    have h6 : DataW.trod enc Try.prog w base spare held m6 42 ((([c0, c1, c2, c3, c4, c5, c6] : List Value).drop 6).take (Try.prog.cellsOf 42)) = some x6 := g6
    rw [cells42] at h6
    obtain ⟨A6, n6, k6, y6, e6, hn6, hc6, hm6, hr6⟩ := flat_slice_cells (flat_u8 Try.underlying5) cells5 (by omega) (fun a => rfl) Try.underlying42 h6
    rw [b8_flat] at hr6
    have hq6 : (y6.map (·.1)).length = n6 := by rw [List.length_map, hn6]
    simp at e0 e1 e2 e3 e4 e5 e6
    subst e0 e1 e2 e3 e4 e5 e6
    rw [ext_flat] at hr5
    have hl5 : (y5.map fun x => (⟨x.1.1, x.2.1⟩ : Xm)).length = n5 := by rw [List.length_map, hn5]
    subst hl5
    exact ⟨⟨a0.1, a1.1, a2.1, a3.1, a4.1, y5.map fun x => (⟨x.1.1, x.2.1⟩ : Xm), y6.map (·.1)⟩, _, _, rfl, _, _, rfl, ⟨⟨A5, k5, rfl, hc5, hm5, Rd.of_args hr5 (Nat.le_refl _)⟩, fun _ _ => trivial⟩, ⟨A6, k6, by rw [hq6], byt_arg hr6 hq6⟩⟩
theorem arg79 {H : Type} {enc : TypeId × Value → H} {w : World} {r : Reach} {b0 base : Nat} {spare : Nat → Bool} {held : Bool} {v : Value} {d : DataW H} {p : List MemPlace} (hv : Value.okWide Try.prog w r b0 79 v) (h : DataW.Trod enc Try.prog w base spare held 79 v d p) : Arg79 w v := by
  obtain ⟨cs, rfl, hl, hf⟩ := struct_fields Try.underlying79 hv h
  rw [show Try.prog.cellsOf 79 = 8 by kernel_rfl] at hl
  match cs, hl with
  | [c0, c1, c2, c3, c4, c5, c6, c7], _ =>
    obtain ⟨m0, x0, g0⟩ := hf 0 _ rfl
    have h0 : DataW.trod enc Try.prog w base spare held m0 66 ((([c0, c1, c2, c3, c4, c5, c6, c7] : List Value).drop 0).take (Try.prog.cellsOf 66)) = some x0 := g0
    rw [show Try.prog.cellsOf 66 = 1 by kernel_rfl] at h0
    obtain ⟨A0, n0, k0, y0, e0, hn0, hc0, hm0, hr0⟩ := flat_slice_cells (flat_i64 Try.underlying3) cells3 (by omega) (fun a => rfl) Try.underlying66 h0
    obtain ⟨m1, x1, g1⟩ := hf 1 _ rfl
    have h1 : DataW.trod enc Try.prog w base spare held m1 55 ((([c0, c1, c2, c3, c4, c5, c6, c7] : List Value).drop 1).take (Try.prog.cellsOf 55)) = some x1 := g1
    rw [cells55] at h1
    obtain ⟨q, ps, vp, e1, hq⟩ := pk_cells h1
    simp at e0 e1
    subst e0
    rw [encI_flat] at hr0
    have hl0 : (y0.map (·.1)).length = n0 := by rw [List.length_map, hn0]
    refine ⟨_, ps, vp, y0.map (·.1), q, ?_, ⟨⟨A0, k0, by rw [hl0], by rw [hl0]; exact hc0, hm0, by rw [hl0]; exact Rd.of_args hr0 (Nat.le_refl _)⟩, fun e he => ?_⟩, hq⟩
    · have e2 : pkC q ps vp = #[c1, c2, c3, c4, c5, c6, c7] := Array.toList_inj.1 e1.symm
      rw [e2]
      rfl
    · obtain ⟨x, -, rfl⟩ := List.mem_map.1 he
      exact x.2
end Go.Proofs.Ytanmndhdhlmjgaa
