/- What the statements' arguments are, as values: numbers, records, sectors. No condition. -/
import Derived.Test.YtbiiahbhgjjhgaaArgLib
import Derived.Test.YtbiiahbhgjjhgaaWo
namespace Go.Proofs.Ytbiiahbhgjjhgaa
open Go.RowKit Go.ChangeShapes Go.WideShapes Go.Deep
section
variable {H : Type} {enc : TypeId × Value → H} {w : World} {r : Reach} {b0 base : Nat} {spare : Nat → Bool} {held : Bool} {v : Value} {d : DataW H} {p : List MemPlace}
abbrev B8 := { x : Nat // x < 256 }
theorem cells3 : Try.prog.cellsOf 3 = 1 := by kernel_rfl
theorem cells5 : Try.prog.cellsOf 5 = 1 := by kernel_rfl
theorem cells25 : Try.prog.cellsOf 25 = 1 := by kernel_rfl
theorem cells27 : Try.prog.cellsOf 27 = 3 := by kernel_rfl
theorem cells47 : Try.prog.cellsOf 47 = 8 := by kernel_rfl
theorem b8_flat (l : List B8) : (l.flatMap fun x => [Value.int .u8 (x.1 : Int)]) = u8s (l.map (·.1)) := by
  unfold u8s
  induction l with
  | nil => rfl
  | cons x l ih => rw [List.flatMap_cons, ih]; rfl
theorem b8_all (l : List B8) : AllB (l.map (·.1)) := by
  intro x hx
  obtain ⟨y, _, rfl⟩ := List.mem_map.1 hx
  exact y.2
theorem flat47 : Flat Try.prog 47 (fun xs : { l : List B8 // l.length = 8 } => xs.1.flatMap fun x => [Value.int .u8 (x.1 : Int)]) :=
  flat_array (flat_u8 Try.underlying5) cells5 cells47 Try.underlying47
/-- eight bytes are a sector -/
def secOf (l : { l : List B8 // l.length = 8 }) : Sec := ⟨(l.1.map (·.1)).getD 0 0, (l.1.map (·.1)).getD 1 0, (l.1.map (·.1)).getD 2 0, (l.1.map (·.1)).getD 3 0, (l.1.map (·.1)).getD 4 0, (l.1.map (·.1)).getD 5 0, (l.1.map (·.1)).getD 6 0, (l.1.map (·.1)).getD 7 0⟩
theorem secOf_enc (l : { l : List B8 // l.length = 8 }) : (l.1.flatMap fun x => [Value.int .u8 (x.1 : Int)]) = encS (secOf l) := by
  obtain ⟨l, hl⟩ := l
  match l, hl with
  | [_, _, _, _, _, _, _, _], _ => rfl
theorem secOf_ok (l : { l : List B8 // l.length = 8 }) : (secOf l).Ok := by
  have h := b8_all l.1
  exact ⟨getD_lt h _, getD_lt h _, getD_lt h _, getD_lt h _, getD_lt h _, getD_lt h _, getD_lt h _, getD_lt h _⟩
theorem secs_flat (xs : List { l : List B8 // l.length = 8 }) : (xs.flatMap fun s => s.1.flatMap fun x => [Value.int .u8 (x.1 : Int)]) = (xs.map secOf).flatMap encS := by
  induction xs with
  | nil => rfl
  | cons x xs ih => rw [List.flatMap_cons, ih, secOf_enc, List.map_cons, List.flatMap_cons]
def Arg3 (_ : World) (v : Value) : Prop := ∃ a : Int, v = .int .i64 a ∧ -9223372036854775808 ≤ a ∧ a ≤ 9223372036854775807
theorem arg3 (hv : Value.okWide Try.prog w r b0 3 v) (h : DataW.Trod enc Try.prog w base spare held 3 v d p) : Arg3 w v := by
  obtain ⟨a, rfl, _, _, w0⟩ := open_int Try.underlying3 hv h
  have hb := bounds_i64 w0
  exact ⟨a, rfl, hb.1, hb.2⟩
def Arg42 (_ : World) (v : Value) : Prop := ∃ a : Nat, v = .int .u16 a ∧ a < 65536
theorem arg42 (hv : Value.okWide Try.prog w r b0 42 v) (h : DataW.Trod enc Try.prog w base spare held 42 v d p) : Arg42 w v := by
  obtain ⟨a, rfl, _, _, w0⟩ := open_int Try.underlying42 hv h
  have hb := bounds_u16 w0
  exact ⟨a.toNat, by simp [Int.toNat_of_nonneg hb.1], by omega⟩
def Arg5 (_ : World) (v : Value) : Prop := ∃ a : Nat, v = .int .u8 a ∧ a < 256
theorem arg5 (hv : Value.okWide Try.prog w r b0 5 v) (h : DataW.Trod enc Try.prog w base spare held 5 v d p) : Arg5 w v := by
  obtain ⟨a, rfl, _, _, w0⟩ := open_int Try.underlying5 hv h
  have hb := bounds_u8 w0
  exact ⟨a.toNat, by simp [Int.toNat_of_nonneg hb.1], by omega⟩
def Arg28 (w : World) (v : Value) : Prop := ∃ (A : Option Addr) (n c : Nat) (l : List Sec), v = .slice A n c ∧ Reads w w.heap.size 8 A n (l.flatMap encS) ∧ n ≤ c ∧ c ≤ maxLen ∧ ∀ s ∈ l, s.Ok
theorem arg28 (hv : Value.okWide Try.prog w r b0 28 v) (h : DataW.Trod enc Try.prog w base spare held 28 v d p) : Arg28 w v := by
  obtain ⟨A, n, c, xs, rfl, _, h2, h3, h4⟩ := flat_slice flat47 cells47 (by omega) (fun a => by rw [secOf_enc]; rfl) Try.underlying28 hv h
  rw [secs_flat] at h4
  exact ⟨A, n, c, _, rfl, h4, h2, h3, fun s hs => by obtain ⟨y, _, rfl⟩ := List.mem_map.1 hs; exact secOf_ok y⟩
def Arg27 (w : World) (v : Value) : Prop := ∃ (k q : Int) (A : Option Addr) (n c : Nat) (l : List Nat), v = recV k q A n c ∧ Reads w w.heap.size 1 A n (u8s l) ∧ n ≤ c ∧ c ≤ maxLen ∧ AllB l ∧ (-9223372036854775808 ≤ k ∧ k ≤ 9223372036854775807) ∧ (-9223372036854775808 ≤ q ∧ q ≤ 9223372036854775807)
theorem arg27 (hv : Value.okWide Try.prog w r b0 27 v) (h : DataW.Trod enc Try.prog w base spare held 27 v d p) : Arg27 w v := by
  obtain ⟨cs, rfl, hl, hf⟩ := struct_fields Try.underlying27 hv h
  rw [cells27] at hl
  match cs, hl with
  | [c0, c1, c2], _ =>
    obtain ⟨m0, x0, g0⟩ := hf 0 _ rfl
    have h0 : DataW.trod enc Try.prog w base spare held m0 3 ((([c0, c1, c2] : List Value).drop 0).take (Try.prog.cellsOf 3)) = some x0 := g0
    obtain ⟨m1, x1, g1⟩ := hf 1 _ rfl
    have h1 : DataW.trod enc Try.prog w base spare held m1 3 ((([c0, c1, c2] : List Value).drop 1).take (Try.prog.cellsOf 3)) = some x1 := g1
    obtain ⟨m2, x2, g2⟩ := hf 2 _ rfl
    have h2 : DataW.trod enc Try.prog w base spare held m2 25 ((([c0, c1, c2] : List Value).drop 2).take (Try.prog.cellsOf 25)) = some x2 := g2
    rw [cells3] at h0 h1
    rw [cells25] at h2
    obtain ⟨a0, e0⟩ := flat_i64 Try.underlying3 h0
    obtain ⟨a1, e1⟩ := flat_i64 Try.underlying3 h1
    obtain ⟨A, n, c, xs, e2, hn, hc, hm, hr⟩ := flat_slice_cells (flat_u8 Try.underlying5) cells5 (by omega) (fun a => rfl) Try.underlying25 h2
    simp at e0 e1 e2
    subst e0 e1 e2
    rw [b8_flat] at hr
    exact ⟨a0.1, a1.1, A, n, c, _, rfl, hr, hc, hm, b8_all _, a0.2, a1.2⟩
end
end Go.Proofs.Ytbiiahbhgjjhgaa
