/- The nested argument of the law RecordFinds: records, each with its payload elsewhere. No condition. -/
import Derived.Test.YtbiiahbhgjjhgaaArgLibN
import Derived.Test.YtbiiahbhgjjhgaaArgs
namespace Go.Proofs.Ytbiiahbhgjjhgaa
open Go.RowKit Go.ChangeShapes Go.WideShapes Go.Deep
section
variable {H : Type} {enc : TypeId × Value → H} {w : World} {r : Reach} {b0 base : Nat} {spare : Nat → Bool} {held : Bool} {v : Value} {d : DataW H} {p : List MemPlace}
/-- a record of an argument -/
structure Ra where
  k : Int
  q : Int
  A : Option Addr
  c : Nat
  p : List Nat
def encRa (r : Ra) : List Value := [.int .i64 r.k, .int .i64 r.q, .slice r.A r.p.length r.c]
theorem encRa_len (r : Ra) : (encRa r).length = 3 := rfl
def RaQ (w : World) (r : Ra) : Prop := Reads w w.heap.size 1 r.A r.p.length (u8s r.p) ∧ r.p.length ≤ r.c ∧ r.c ≤ maxLen ∧ AllB r.p
theorem deep27 : DeepE Try.prog 27 encRa RaQ := by
  intro H enc w base spare held fuel cs x h
  obtain ⟨hl, hf⟩ := struct_cells Try.underlying27 h
  rw [cells27] at hl
  match cs, hl with
  | [c0, c1, c2], _ =>
    obtain ⟨m0, x0, g0⟩ := hf 0 _ rfl
    have h0 : DataW.trod enc Try.prog w base spare held m0 3 ((([c0, c1, c2] : List Value).drop 0).take (Try.prog.cellsOf 3)) = some x0 := g0
    obtain ⟨m1, x1, g1⟩ := hf 1 _ rfl
    have h1 : DataW.trod enc Try.prog w base spare held m1 3 ((([c0, c1, c2] : List Value).drop 1).take (Try.prog.cellsOf 3)) = some x1 := g1
    obtain ⟨m2, x2, g2⟩ := hf 2 _ rfl
    have h2 : DataW.trod enc Try.prog w base spare held m2 25 ((([c0, c1, c2] : List Value).drop 2).take (Try.prog.cellsOf 25)) = some x2 := g2
    rw [cells3] at h0 h1
    rw [cells25] at h2
    obtain ⟨a0, e0⟩ := flat_i64 Try.underlying3 h0
    obtain ⟨a1, e1⟩ := flat_i64 Try.underlying3 h1
    obtain ⟨A, n, c, xs, e2, hn, hc, hm, hr⟩ := flat_slice_cells (flat_u8 Try.underlying5) cells5 (by omega) (fun a => rfl) Try.underlying25 h2
    simp at e0 e1 e2
    subst e0 e1 e2
    rw [b8_flat] at hr
    have hpl : (xs.map (·.1)).length = n := by rw [List.length_map, hn]
    exact ⟨⟨a0.1, a1.1, A, c, xs.map (·.1)⟩, by simp only [encRa]; rw [hpl], by dsimp only; rw [hpl]; exact hr, by dsimp only; omega, hm, b8_all _⟩
def Arg50 (w : World) (v : Value) : Prop := ∃ (A : Option Addr) (n c : Nat) (l : List Ra), v = .slice A n c ∧ Reads w w.heap.size 3 A n (l.flatMap encRa) ∧ n ≤ c ∧ c ≤ maxLen ∧ ∀ r ∈ l, RaQ w r
theorem arg50 (hv : Value.okWide Try.prog w r b0 50 v) (h : DataW.Trod enc Try.prog w base spare held 50 v d p) : Arg50 w v := by
  obtain ⟨A, n, c, xs, rfl, _, h2, h3, h4, h5⟩ := deep_slice deep27 cells27 (by omega) encRa_len Try.underlying50 hv h
  exact ⟨A, n, c, xs, rfl, h4, h2, h3, h5⟩
end
end Go.Proofs.Ytbiiahbhgjjhgaa
