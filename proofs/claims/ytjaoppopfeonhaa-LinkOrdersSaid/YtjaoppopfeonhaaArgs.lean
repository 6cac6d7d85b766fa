/- What the statements' arguments are, as values: numbers, links, payloads, runs. No condition. -/
import Derived.Test.YtjaoppopfeonhaaArgLibN
import Derived.Test.YtjaoppopfeonhaaWc
import Derived.Test.YtjaoppopfeonhaaRows
namespace Go.Proofs.Ytjaoppopfeonhaa
open Go.RowKit Go.ChangeShapes Go.WideShapes Go.Deep
section
variable {H : Type} {enc : TypeId × Value → H} {w : World} {r : Reach} {b0 base : Nat} {spare : Nat → Bool} {held : Bool} {v : Value} {d : DataW H} {p : List MemPlace}
abbrev B8 := { x : Nat // x < 256 }
abbrev I64 := { x : Int // -9223372036854775808 ≤ x ∧ x ≤ 9223372036854775807 }
theorem cells3 : Try.prog.cellsOf 3 = 1 := by kernel_rfl
theorem cells4 : Try.prog.cellsOf 4 = 1 := by kernel_rfl
theorem cells5 : Try.prog.cellsOf 5 = 1 := by kernel_rfl
theorem cells23 : Try.prog.cellsOf 23 = 3 := by kernel_rfl
theorem cells24 : Try.prog.cellsOf 24 = 1 := by kernel_rfl
theorem cells26 : Try.prog.cellsOf 26 = 7 := by kernel_rfl
theorem cells37 : Try.prog.cellsOf 37 = 1 := by kernel_rfl
theorem cells40 : Try.prog.cellsOf 40 = 1 := by kernel_rfl
theorem cells69 : Try.prog.cellsOf 69 = 3 := by kernel_rfl
theorem cells39 : Try.prog.cellsOf 39 = 2 := by kernel_rfl
theorem cells47 : Try.prog.cellsOf 47 = 1 := by kernel_rfl
theorem cells49 : Try.prog.cellsOf 49 = 5 := by kernel_rfl
theorem cells58 : Try.prog.cellsOf 58 = 2 := by kernel_rfl
theorem b8_flat (l : List B8) : (l.flatMap fun x => [Value.int .u8 (x.1 : Int)]) = u8s (l.map (·.1)) := by
  unfold u8s
  induction l with
  | nil => rfl
  | cons x l ih => rw [List.flatMap_cons, ih]; rfl
def Arg3 (_ : World) (v : Value) : Prop := ∃ a : Int, v = .int .i64 a ∧ -9223372036854775808 ≤ a ∧ a ≤ 9223372036854775807
theorem arg3 (hv : Value.okWide Try.prog w r b0 3 v) (h : DataW.Trod enc Try.prog w base spare held 3 v d p) : Arg3 w v := by
  obtain ⟨a, rfl, _, _, w0⟩ := open_int Try.underlying3 hv h
  have hb := bounds_i64 w0
  exact ⟨a, rfl, hb.1, hb.2⟩
def Arg5 (_ : World) (v : Value) : Prop := ∃ a : Nat, v = .int .u8 a ∧ a < 256
theorem arg5 (hv : Value.okWide Try.prog w r b0 5 v) (h : DataW.Trod enc Try.prog w base spare held 5 v d p) : Arg5 w v := by
  obtain ⟨a, rfl, _, _, w0⟩ := open_int Try.underlying5 hv h
  have hb := bounds_u8 w0
  exact ⟨a.toNat, by simp [Int.toNat_of_nonneg hb.1], by omega⟩
theorem i64_flat (l : List I64) : (l.flatMap fun x => [Value.int .i64 x.1]) = i64s (l.map (·.1)) := by
  unfold i64s
  induction l with
  | nil => rfl
  | cons x l ih => rw [List.flatMap_cons, ih]; rfl
theorem deep69 : DeepE Try.prog 69 encEv (fun w e => EvR w e ∧ e.p.length ≤ e.c ∧ e.c ≤ maxLen) := by
  intro H enc w base spare held fuel cs x h
  obtain ⟨hl, hf⟩ := struct_cells Try.underlying69 h
  rw [cells69] at hl
  match cs, hl with
  | [c0, c1, c2], _ =>
    obtain ⟨m0, x0, g0⟩ := hf 0 _ rfl
    have h0 : DataW.trod enc Try.prog w base spare held m0 3 ((([c0, c1, c2] : List Value).drop 0).take (Try.prog.cellsOf 3)) = some x0 := g0
    obtain ⟨m1, x1, g1⟩ := hf 1 _ rfl
    have h1 : DataW.trod enc Try.prog w base spare held m1 3 ((([c0, c1, c2] : List Value).drop 1).take (Try.prog.cellsOf 3)) = some x1 := g1
    obtain ⟨m2, x2, g2⟩ := hf 2 _ rfl
    have h2 : DataW.trod enc Try.prog w base spare held m2 37 ((([c0, c1, c2] : List Value).drop 2).take (Try.prog.cellsOf 37)) = some x2 := g2
    rw [cells3] at h0 h1
    rw [cells37] at h2
    obtain ⟨a0, e0⟩ := flat_i64 Try.underlying3 h0
    obtain ⟨a1, e1⟩ := flat_i64 Try.underlying3 h1
    obtain ⟨A, n, c, xs, e2, hn, hc, hm, hr⟩ := flat_slice_cells (flat_u8 Try.underlying5) cells5 (by omega) (fun a => rfl) Try.underlying37 h2
    simp at e0 e1 e2
    subst e0 e1 e2
    rw [b8_flat] at hr
    have hpl : (xs.map (·.1)).length = n := by rw [List.length_map, hn]
    refine ⟨⟨a0.1, a1.1, A, c, xs.map (·.1)⟩, by simp only [encEv]; rw [hpl], ?_, ?_, hm⟩
    · unfold EvR
      dsimp only
      rw [hpl]
      exact hr
    · dsimp only
      omega
theorem flat23 : Flat Try.prog 23 (fun x : I64 × I64 × I64 => [.int .i64 x.1.1, .int .i64 x.2.1.1, .int .i64 x.2.2.1]) := by
  intro H enc w base spare held fuel cs x h
  obtain ⟨hl, hf⟩ := struct_cells Try.underlying23 h
  rw [cells23] at hl
  match cs, hl with
  | [c0, c1, c2], _ =>
    obtain ⟨m0, x0, g0⟩ := hf 0 _ rfl
    have h0 : DataW.trod enc Try.prog w base spare held m0 3 ((([c0, c1, c2] : List Value).drop 0).take (Try.prog.cellsOf 3)) = some x0 := g0
    rw [cells3] at h0
    obtain ⟨a0, e0⟩ := flat_i64 Try.underlying3 h0
    obtain ⟨m1, x1, g1⟩ := hf 1 _ rfl
    have h1 : DataW.trod enc Try.prog w base spare held m1 3 ((([c0, c1, c2] : List Value).drop 1).take (Try.prog.cellsOf 3)) = some x1 := g1
    rw [cells3] at h1
    obtain ⟨a1, e1⟩ := flat_i64 Try.underlying3 h1
    obtain ⟨m2, x2, g2⟩ := hf 2 _ rfl
    have h2 : DataW.trod enc Try.prog w base spare held m2 3 ((([c0, c1, c2] : List Value).drop 2).take (Try.prog.cellsOf 3)) = some x2 := g2
    rw [cells3] at h2
    obtain ⟨a2, e2⟩ := flat_i64 Try.underlying3 h2
    simp at e0 e1 e2
    subst e0 e1 e2
    exact ⟨(a0, a1, a2), rfl⟩
theorem flat58 : Flat Try.prog 58 (fun x : B8 × B8 => [.int .u8 (x.1.1 : Int), .int .u8 (x.2.1 : Int)]) := by
  intro H enc w base spare held fuel cs x h
  obtain ⟨hl, hf⟩ := struct_cells Try.underlying58 h
  rw [cells58] at hl
  match cs, hl with
  | [c0, c1], _ =>
    obtain ⟨m0, x0, g0⟩ := hf 0 _ rfl
    have h0 : DataW.trod enc Try.prog w base spare held m0 5 ((([c0, c1] : List Value).drop 0).take (Try.prog.cellsOf 5)) = some x0 := g0
    rw [cells5] at h0
    obtain ⟨a0, e0⟩ := flat_u8 Try.underlying5 h0
    obtain ⟨m1, x1, g1⟩ := hf 1 _ rfl
    have h1 : DataW.trod enc Try.prog w base spare held m1 5 ((([c0, c1] : List Value).drop 1).take (Try.prog.cellsOf 5)) = some x1 := g1
    rw [cells5] at h1
    obtain ⟨a1, e1⟩ := flat_u8 Try.underlying5 h1
    simp at e0 e1
    subst e0 e1
    exact ⟨(a0, a1), rfl⟩
def Arg40 (w : World) (v : Value) : Prop := ∃ (A : Option Addr) (c : Nat) (cs : List Int), v = .slice A (List.length cs) c ∧ Reads w w.heap.size 1 A cs.length (i64s cs) ∧ cs.length ≤ c ∧ c ≤ maxLen
theorem arg40 (hv : Value.okWide Try.prog w r b0 40 v) (h : DataW.Trod enc Try.prog w base spare held 40 v d p) : Arg40 w v := by
  obtain ⟨A, n, c, xs, rfl, h1, h2, h3, h4⟩ := flat_slice (flat_i64 Try.underlying3) cells3 (by omega) (fun a => rfl) Try.underlying40 hv h
  rw [i64_flat] at h4
  have hl : (xs.map (·.1)).length = n := by rw [List.length_map]; exact h1
  exact ⟨A, c, xs.map (·.1), by rw [hl], by rw [hl]; exact h4, by rw [hl]; exact h2, h3⟩
def Arg26 (w : World) (v : Value) : Prop := ∃ (mi ma ra : Int) (dn : Bool) (id nx : Int) (A : Option Addr) (m c : Nat) (l : List Ev), v = .agg (lkC mi ma ra dn id nx A m c) ∧ Evs w A m l ∧ m ≤ c ∧ c ≤ maxLen
theorem arg26 (hv : Value.okWide Try.prog w r b0 26 v) (h : DataW.Trod enc Try.prog w base spare held 26 v d p) : Arg26 w v := by
  obtain ⟨cs, rfl, hl, hf⟩ := struct_fields Try.underlying26 hv h
  rw [cells26] at hl
  match cs, hl with
  | [c0, c1, c2, c3, c4, c5, c6], _ =>
    obtain ⟨m0, x0, g0⟩ := hf 0 _ rfl
    have h0 : DataW.trod enc Try.prog w base spare held m0 23 ((([c0, c1, c2, c3, c4, c5, c6] : List Value).drop 0).take (Try.prog.cellsOf 23)) = some x0 := g0
    obtain ⟨m1, x1, g1⟩ := hf 1 _ rfl
    have h1 : DataW.trod enc Try.prog w base spare held m1 4 ((([c0, c1, c2, c3, c4, c5, c6] : List Value).drop 3).take (Try.prog.cellsOf 4)) = some x1 := g1
    obtain ⟨m2, x2, g2⟩ := hf 2 _ rfl
    have h2 : DataW.trod enc Try.prog w base spare held m2 3 ((([c0, c1, c2, c3, c4, c5, c6] : List Value).drop 4).take (Try.prog.cellsOf 3)) = some x2 := g2
    obtain ⟨m3, x3, g3⟩ := hf 3 _ rfl
    have h3 : DataW.trod enc Try.prog w base spare held m3 3 ((([c0, c1, c2, c3, c4, c5, c6] : List Value).drop 5).take (Try.prog.cellsOf 3)) = some x3 := g3
    obtain ⟨m4, x4, g4⟩ := hf 4 _ rfl
    have h4 : DataW.trod enc Try.prog w base spare held m4 24 ((([c0, c1, c2, c3, c4, c5, c6] : List Value).drop 6).take (Try.prog.cellsOf 24)) = some x4 := g4
    rw [cells23] at h0
    rw [cells4] at h1
    rw [cells3] at h2 h3
    rw [cells24] at h4
    obtain ⟨⟨a0, a1, a2⟩, e0⟩ := flat23 h0
    obtain ⟨b1, e1⟩ := flat_bool Try.underlying4 h1
    obtain ⟨a3, e2⟩ := flat_i64 Try.underlying3 h2
    obtain ⟨a4, e3⟩ := flat_i64 Try.underlying3 h3
    obtain ⟨A, n, c, xs, e4, hn, hc, hm, hr, hq⟩ := deep_slice_cells deep69 cells69 (by omega) encEv_len Try.underlying24 h4
    simp at e0 e1 e2 e3 e4
    obtain ⟨e00, e01, e02⟩ := e0
    subst e00 e01 e02 e1 e2 e3 e4
    exact ⟨a0.1, a1.1, a2.1, b1, a3.1, a4.1, A, n, c, xs, rfl, ⟨hr, fun e he => (hq e he).1⟩, hc, hm⟩
def Arg39 (w : World) (v : Value) : Prop := ∃ (now : Int) (A : Option Addr) (c : Nat) (p : List Nat), v = .agg #[.int .i64 now, .slice A (List.length p) c] ∧ Reads w w.heap.size 1 A p.length (u8s p) ∧ p.length ≤ c ∧ c ≤ maxLen
theorem arg39 (hv : Value.okWide Try.prog w r b0 39 v) (h : DataW.Trod enc Try.prog w base spare held 39 v d p) : Arg39 w v := by
  obtain ⟨cs, rfl, hl, hf⟩ := struct_fields Try.underlying39 hv h
  rw [cells39] at hl
  match cs, hl with
  | [c0, c1], _ =>
    obtain ⟨m0, x0, g0⟩ := hf 0 _ rfl
    have h0 : DataW.trod enc Try.prog w base spare held m0 3 ((([c0, c1] : List Value).drop 0).take (Try.prog.cellsOf 3)) = some x0 := g0
    obtain ⟨m1, x1, g1⟩ := hf 1 _ rfl
    have h1 : DataW.trod enc Try.prog w base spare held m1 37 ((([c0, c1] : List Value).drop 1).take (Try.prog.cellsOf 37)) = some x1 := g1
    rw [cells3] at h0
    rw [cells37] at h1
    obtain ⟨a0, e0⟩ := flat_i64 Try.underlying3 h0
    obtain ⟨A, n, c, xs, e1, hn, hc, hm, hr⟩ := flat_slice_cells (flat_u8 Try.underlying5) cells5 (by omega) (fun a => rfl) Try.underlying37 h1
    simp at e0 e1
    subst e0 e1
    rw [b8_flat] at hr
    have hpl : (xs.map (·.1)).length = n := by rw [List.length_map, hn]
    exact ⟨a0.1, A, c, xs.map (·.1), by rw [hpl], by rw [hpl]; exact hr, by rw [hpl]; exact hc, hm⟩
end
end Go.Proofs.Ytjaoppopfeonhaa
