/- Lists of numbers as arguments. No condition. -/
import Derived.Test.YtanmndhdhlmjgaaArgsB
import Derived.Test.YtanmndhdhlmjgaaVf
namespace Go.Proofs.Ytanmndhdhlmjgaa
open Go.RowKit Go.ChangeShapes Go.WideShapes Go.Deep
def encI (n : Int) : List Value := [.int .i64 n]
def IR (_ : World) (_ : Nat) (n : Int) : Prop := -9223372036854775808 ≤ n ∧ n ≤ 9223372036854775807
theorem ir_ab {T : List TypeId} : Abides IR T := fun _ _ _ _ _ h => h
theorem encI_len (n : Int) : (encI n).length = 1 := rfl
section
set_option maxRecDepth 100000
variable {H : Type} {enc : TypeId × Value → H} {w : World} {r : Reach} {b0 base : Nat} {spare : Nat → Bool} {held : Bool} {v : Value} {d : DataW H} {p : List MemPlace}
theorem encI_flat (l : List { x : Int // -9223372036854775808 ≤ x ∧ x ≤ 9223372036854775807 }) : (l.flatMap fun x => [Value.int .i64 x.1]) = (l.map (·.1)).flatMap encI := by
  induction l with
  | nil => rfl
  | cons x l ih => rw [List.flatMap_cons, ih]; rfl
def Arg66 (w : World) (v : Value) : Prop := ∃ ns, Vec encI IR 3 1 w w.heap.size v ns
theorem arg66 (hv : Value.okWide Try.prog w r b0 66 v) (h : DataW.Trod enc Try.prog w base spare held 66 v d p) : Arg66 w v := by
  obtain ⟨A, n, c, xs, rfl, h1, h2, h3, h4⟩ := flat_slice (flat_i64 Try.underlying3) cells3 (by omega) (fun a => rfl) Try.underlying66 hv h
  rw [encI_flat] at h4
  have hl : (xs.map (·.1)).length = n := by rw [List.length_map]; exact h1
  refine ⟨xs.map (·.1), ⟨A, c, by rw [hl], by rw [hl]; exact h2, h3, by rw [hl]; exact Rd.of_args h4 (Nat.le_refl _)⟩, fun e he => ?_⟩
  obtain ⟨x, -, rfl⟩ := List.mem_map.1 he
  exact x.2
end
end Go.Proofs.Ytanmndhdhlmjgaa
