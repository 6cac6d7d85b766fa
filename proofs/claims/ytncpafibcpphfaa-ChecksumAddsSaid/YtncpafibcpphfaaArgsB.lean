/- More arguments as values: sectors, four bytes, the law's data. No condition. -/
import Derived.Test.YtncpafibcpphfaaArgLib
import Derived.Test.YtncpafibcpphfaaArgs
import Derived.Test.YtncpafibcpphfaaWe
namespace Go.Proofs.Ytncpafibcpphfaa
open Go.RowKit Go.ChangeShapes Go.WideShapes Go.Deep
section
variable {H : Type} {enc : TypeId × Value → H} {w : World} {r : Reach} {b0 base : Nat} {spare : Nat → Bool} {held : Bool} {v : Value} {d : DataW H} {p : List MemPlace}
theorem cells5 : Try.prog.cellsOf 5 = 1 := by kernel_rfl
theorem cells44 : Try.prog.cellsOf 44 = 8 := by kernel_rfl
theorem cells31 : Try.prog.cellsOf 31 = 4 := by kernel_rfl
theorem cells26 : Try.prog.cellsOf 26 = 1 := by kernel_rfl
theorem cells37 : Try.prog.cellsOf 37 = 1 := by kernel_rfl
theorem cells34 : Try.prog.cellsOf 34 = 1 := by kernel_rfl
theorem b8s_u8s (l : List B8) : b8s l = u8s (l.map (·.1)) := by
  unfold b8s u8s
  rw [List.map_map]
  rfl
theorem cells39 : Try.prog.cellsOf 39 = 4 := by kernel_rfl
theorem flat44 : Flat Try.prog 44 (fun xs : { l : List B8 // l.length = 8 } => xs.1.flatMap fun x => [Value.int .u8 (x.1 : Int)]) :=
  flat_array (flat_u8 Try.underlying5) cells5 cells44 Try.underlying44
theorem b8s_flat (l : List B8) : (l.flatMap fun x => [Value.int .u8 (x.1 : Int)]) = b8s l := by
  unfold b8s
  induction l with
  | nil => rfl
  | cons x l ih => rw [List.flatMap_cons, ih]; rfl
theorem b8s_append (l m : List B8) : b8s (l ++ m) = b8s l ++ b8s m := by unfold b8s; rw [List.map_append]
def Sects (w : World) (v : Value) : Prop := ∃ (A : Option Addr) (n cap : Nat) (l : List B8), v = .slice A n cap ∧ Reads w w.heap.size 8 A n (b8s l) ∧ n ≤ cap ∧ cap ≤ maxLen
theorem sects_of {xs : List { l : List B8 // l.length = 8 }} : (xs.flatMap fun s => s.1.flatMap fun x => [Value.int .u8 (x.1 : Int)]) = b8s (xs.flatMap (·.1)) := by
  induction xs with
  | nil => rfl
  | cons x xs ih => rw [List.flatMap_cons, ih, b8s_flat, List.flatMap_cons, b8s_append]
def Arg37 (w : World) (v : Value) : Prop := Sects w v
theorem arg37 (hv : Value.okWide Try.prog w r b0 37 v) (h : DataW.Trod enc Try.prog w base spare held 37 v d p) : Arg37 w v := by
  obtain ⟨A, n, cap, xs, rfl, _, h2, h3, h4⟩ := flat_slice flat44 cells44 (by omega) (fun a => by rw [b8s_flat, b8s_len, a.2]) Try.underlying37 hv h
  rw [sects_of] at h4
  exact ⟨A, n, cap, _, rfl, h4, h2, h3⟩
def Arg31 (_ : World) (v : Value) : Prop := ∃ y0 y1 y2 y3 : B8, v = .agg #[.int .u8 (y0.1 : Int), .int .u8 (y1.1 : Int), .int .u8 (y2.1 : Int), .int .u8 (y3.1 : Int)]
theorem arg31 (hv : Value.okWide Try.prog w r b0 31 v) (h : DataW.Trod enc Try.prog w base spare held 31 v d p) : Arg31 w v := by
  obtain ⟨⟨l, hl⟩, rfl⟩ := flat_arr_val (flat_array (n := 4) (flat_u8 Try.underlying5) cells5 cells31 Try.underlying31) Try.underlying31 hv h
  match l, hl with
  | [y0, y1, y2, y3], _ => exact ⟨y0, y1, y2, y3, rfl⟩
def Arg39 (w : World) (v : Value) : Prop := ∃ v0 v1 : Value, ∃ a b : Nat, v = .agg #[v0, v1, .int .u64 a, .int .u64 b] ∧ Arg26 w v0 ∧ Sects w v1 ∧ a < 18446744073709551616 ∧ b < 18446744073709551616
theorem arg39 (hv : Value.okWide Try.prog w r b0 39 v) (h : DataW.Trod enc Try.prog w base spare held 39 v d p) : Arg39 w v := by
  obtain ⟨cs, rfl, hl, hf⟩ := struct_fields Try.underlying39 hv h
  rw [cells39] at hl
  match cs, hl with
  | [c0, c1, c2, c3], _ =>
    obtain ⟨m0, x0, g0⟩ := hf 0 _ rfl
    have h0 : DataW.trod enc Try.prog w base spare held m0 26 ((([c0, c1, c2, c3] : List Value).drop 0).take (Try.prog.cellsOf 26)) = some x0 := g0
    rw [cells26] at h0
    obtain ⟨m1, x1, g1⟩ := hf 1 _ rfl
    have h1 : DataW.trod enc Try.prog w base spare held m1 37 ((([c0, c1, c2, c3] : List Value).drop 1).take (Try.prog.cellsOf 37)) = some x1 := g1
    rw [cells37] at h1
    obtain ⟨m2, x2, g2⟩ := hf 2 _ rfl
    have h2 : DataW.trod enc Try.prog w base spare held m2 34 ((([c0, c1, c2, c3] : List Value).drop 2).take (Try.prog.cellsOf 34)) = some x2 := g2
    rw [cells34] at h2
    obtain ⟨m3, x3, g3⟩ := hf 3 _ rfl
    have h3 : DataW.trod enc Try.prog w base spare held m3 34 ((([c0, c1, c2, c3] : List Value).drop 3).take (Try.prog.cellsOf 34)) = some x3 := g3
    rw [cells34] at h3
    obtain ⟨A0, n0, k0, l0, e0, hl0, hc0, hm0, hr0⟩ := flat_slice_cells (flat_u8 Try.underlying5) cells5 (by omega) (fun a => rfl) Try.underlying26 h0
    obtain ⟨A1, n1, k1, l1, e1, hl1, hc1, hm1, hr1⟩ := flat_slice_cells flat44 cells44 (by omega) (fun a => by rw [b8s_flat, b8s_len, a.2]) Try.underlying37 h1
    obtain ⟨a2, e2⟩ := flat_u64 Try.underlying34 h2
    obtain ⟨a3, e3⟩ := flat_u64 Try.underlying34 h3
    simp at e0 e1 e2 e3
    subst e0 e1 e2 e3
    rw [sects_of] at hr1
    rw [b8s_flat] at hr0
    exact ⟨_, _, a2.1, a3.1, rfl, ⟨A0, n0, k0, l0.map (·.1), rfl, by rw [b8s_u8s] at hr0; exact hr0, fun x hx => by obtain ⟨y, _, rfl⟩ := List.mem_map.1 hx; exact y.2, hc0, hm0⟩, ⟨A1, n1, k1, _, rfl, hr1, hc1, hm1⟩, a2.2, a3.2⟩
end
end Go.Proofs.Ytncpafibcpphfaa
