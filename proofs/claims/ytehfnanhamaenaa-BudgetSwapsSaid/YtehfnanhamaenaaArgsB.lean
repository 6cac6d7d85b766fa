/- More arguments as values: plans, uses, small arrays of bytes. No condition. -/
import Derived.Test.YtehfnanhamaenaaArgs
import Derived.Test.YtehfnanhamaenaaXb
namespace Go.Proofs.Ytehfnanhamaenaa
open Go.RowKit Go.ChangeShapes Go.WideShapes Go.Deep
abbrev B8 := { n : Nat // n < 256 }
section
variable {H : Type} {enc : TypeId × Value → H} {w : World} {r : Reach} {b0 base : Nat} {spare : Nat → Bool} {held : Bool} {v : Value} {d : DataW H} {p : List MemPlace}
theorem cells5 : Try.prog.cellsOf 5 = 1 := by kernel_rfl
theorem cells58 : Try.prog.cellsOf 58 = 3 := by kernel_rfl
theorem cells82 : Try.prog.cellsOf 82 = 3 := by kernel_rfl
theorem cells49 : Try.prog.cellsOf 49 = 3 := by kernel_rfl
theorem cells60 : Try.prog.cellsOf 60 = 2 := by kernel_rfl
theorem cells62 : Try.prog.cellsOf 62 = 4 := by kernel_rfl
def enc3 (x : B8 × B8 × B8) : List Value := [.int .u8 (x.1.1 : Int), .int .u8 (x.2.1.1 : Int), .int .u8 (x.2.2.1 : Int)]
theorem flat58 : Flat Try.prog 58 enc3 := by
  intro H enc w base spare held fuel cs x h
  obtain ⟨hl, hf⟩ := struct_cells Try.underlying58 h
  rw [cells58] at hl
  match cs, hl with
  | [c0, c1, c2], _ =>
    obtain ⟨m0, x0, g0⟩ := hf 0 _ rfl
    have h0 : DataW.trod enc Try.prog w base spare held m0 5 ((([c0, c1, c2] : List Value).drop 0).take (Try.prog.cellsOf 5)) = some x0 := g0
    obtain ⟨m1, x1, g1⟩ := hf 1 _ rfl
    have h1 : DataW.trod enc Try.prog w base spare held m1 5 ((([c0, c1, c2] : List Value).drop 1).take (Try.prog.cellsOf 5)) = some x1 := g1
    obtain ⟨m2, x2, g2⟩ := hf 2 _ rfl
    have h2 : DataW.trod enc Try.prog w base spare held m2 5 ((([c0, c1, c2] : List Value).drop 2).take (Try.prog.cellsOf 5)) = some x2 := g2
    rw [cells5] at h0 h1 h2
    obtain ⟨a0, e0⟩ := flat_u8 Try.underlying5 h0
    obtain ⟨a1, e1⟩ := flat_u8 Try.underlying5 h1
    obtain ⟨a2, e2⟩ := flat_u8 Try.underlying5 h2
    simp at e0 e1 e2
    subst e0 e1 e2
    exact ⟨(a0, a1, a2), rfl⟩
theorem flat82 : Flat Try.prog 82 enc3 := by
  intro H enc w base spare held fuel cs x h
  obtain ⟨hl, hf⟩ := struct_cells Try.underlying82 h
  rw [cells82] at hl
  match cs, hl with
  | [c0, c1, c2], _ =>
    obtain ⟨m0, x0, g0⟩ := hf 0 _ rfl
    have h0 : DataW.trod enc Try.prog w base spare held m0 5 ((([c0, c1, c2] : List Value).drop 0).take (Try.prog.cellsOf 5)) = some x0 := g0
    obtain ⟨m1, x1, g1⟩ := hf 1 _ rfl
    have h1 : DataW.trod enc Try.prog w base spare held m1 5 ((([c0, c1, c2] : List Value).drop 1).take (Try.prog.cellsOf 5)) = some x1 := g1
    obtain ⟨m2, x2, g2⟩ := hf 2 _ rfl
    have h2 : DataW.trod enc Try.prog w base spare held m2 5 ((([c0, c1, c2] : List Value).drop 2).take (Try.prog.cellsOf 5)) = some x2 := g2
    rw [cells5] at h0 h1 h2
    obtain ⟨a0, e0⟩ := flat_u8 Try.underlying5 h0
    obtain ⟨a1, e1⟩ := flat_u8 Try.underlying5 h1
    obtain ⟨a2, e2⟩ := flat_u8 Try.underlying5 h2
    simp at e0 e1 e2
    subst e0 e1 e2
    exact ⟨(a0, a1, a2), rfl⟩
def Arg47 (w : World) (v : Value) : Prop := ∃ (A : Option Addr) (n c : Nat) (l : List Pl), v = .slice A n c ∧ RdP w A n l ∧ OkP l ∧ n ≤ c ∧ c ≤ maxLen
theorem plan_of (xs : List (B8 × B8 × B8)) : xs.flatMap enc3 = (xs.map fun x => Pl.mk x.1.1 x.2.1.1 x.2.2.1).flatMap encP := by
  rw [List.flatMap_map]; rfl
theorem use_of (xs : List (B8 × B8 × B8)) : xs.flatMap enc3 = (xs.map fun x => Us.mk x.1.1 x.2.1.1 x.2.2.1).flatMap encU := by
  rw [List.flatMap_map]; rfl
theorem arg47 (hv : Value.okWide Try.prog w r b0 47 v) (h : DataW.Trod enc Try.prog w base spare held 47 v d p) : Arg47 w v := by
  obtain ⟨A, n, cap, xs, rfl, _, h2, h3, h4⟩ := flat_slice flat58 cells58 (by omega) (fun _ => rfl) Try.underlying47 hv h
  rw [plan_of] at h4
  refine ⟨A, n, cap, _, rfl, h4, fun q hq => ?_, h2, h3⟩
  obtain ⟨x, _, rfl⟩ := List.mem_map.1 hq
  exact ⟨x.1.2, x.2.1.2, x.2.2.2⟩
def Arg48 (w : World) (v : Value) : Prop := ∃ (A : Option Addr) (n c : Nat) (l : List Us), v = .slice A n c ∧ RdU w A n l ∧ OkU l ∧ n ≤ c ∧ c ≤ maxLen
theorem arg48 (hv : Value.okWide Try.prog w r b0 48 v) (h : DataW.Trod enc Try.prog w base spare held 48 v d p) : Arg48 w v := by
  obtain ⟨A, n, cap, xs, rfl, _, h2, h3, h4⟩ := flat_slice flat82 cells82 (by omega) (fun _ => rfl) Try.underlying48 hv h
  rw [use_of] at h4
  refine ⟨A, n, cap, _, rfl, h4, fun q hq => ?_, h2, h3⟩
  obtain ⟨x, _, rfl⟩ := List.mem_map.1 hq
  exact ⟨x.1.2, x.2.1.2, x.2.2.2⟩
def Arg49 (_ : World) (v : Value) : Prop := ∃ a b c : Nat, v = .agg #[.int .u8 (a : Int), .int .u8 (b : Int), .int .u8 (c : Int)] ∧ a < 256 ∧ b < 256 ∧ c < 256
theorem arg49 (hv : Value.okWide Try.prog w r b0 49 v) (h : DataW.Trod enc Try.prog w base spare held 49 v d p) : Arg49 w v := by
  obtain ⟨⟨l, hl⟩, rfl⟩ := flat_arr_val (flat_array (n := 3) (flat_u8 Try.underlying5) cells5 cells49 Try.underlying49) Try.underlying49 hv h
  match l, hl with
  | [x, y, z], _ => exact ⟨x.1, y.1, z.1, rfl, x.2, y.2, z.2⟩
def Arg60 (_ : World) (v : Value) : Prop := ∃ a b : Nat, v = .agg #[.int .u8 (a : Int), .int .u8 (b : Int)] ∧ a < 256 ∧ b < 256
theorem arg60 (hv : Value.okWide Try.prog w r b0 60 v) (h : DataW.Trod enc Try.prog w base spare held 60 v d p) : Arg60 w v := by
  obtain ⟨⟨l, hl⟩, rfl⟩ := flat_arr_val (flat_array (n := 2) (flat_u8 Try.underlying5) cells5 cells60 Try.underlying60) Try.underlying60 hv h
  match l, hl with
  | [x, y], _ => exact ⟨x.1, y.1, rfl, x.2, y.2⟩
def Arg62 (_ : World) (v : Value) : Prop := ∃ a b c d : Nat, v = .agg #[.int .u8 (a : Int), .int .u8 (b : Int), .int .u8 (c : Int), .int .u8 (d : Int)] ∧ a < 256 ∧ b < 256 ∧ c < 256 ∧ d < 256
theorem arg62 (hv : Value.okWide Try.prog w r b0 62 v) (h : DataW.Trod enc Try.prog w base spare held 62 v d p) : Arg62 w v := by
  obtain ⟨⟨l, hl⟩, rfl⟩ := flat_arr_val (flat_array (n := 4) (flat_u8 Try.underlying5) cells5 cells62 Try.underlying62) Try.underlying62 hv h
  match l, hl with
  | [x, y, z, u], _ => exact ⟨x.1, y.1, z.1, u.1, rfl, x.2, y.2, z.2, u.2⟩
end
end Go.Proofs.Ytehfnanhamaenaa
