/- A post turned at a panic. No condition. -/
import Derived.Test.YthkajcioeemilaaLib
namespace Go.Proofs.Ythkajcioeemilaa
open Go.RowKit
/-- Q, but Pc at a panic -/
def PanQ (Q : Exit → Act → World → Prop) (Pc : List PanicEntry → Act → World → Prop) : Exit → Act → World → Prop
  | .panic ch, a, w => Pc ch a w
  | e, a, w => Q e a w
theorem wp_pan {P : Program} {c : Code} {Q : Exit → Act → World → Prop} {Pc : List PanicEntry → Act → World → Prop} {a : Act} {w : World} (hp : ∀ ch a w, Pc ch a w → Q (.panic ch) a w) (h : c.wp P (PanQ Q Pc) a w) : c.wp P Q a w :=
  Code.wp_mono (fun e a w h => by cases e <;> first | exact h | exact hp _ _ _ h) h
theorem panQ_normal {Q : Exit → Act → World → Prop} {Pc : List PanicEntry → Act → World → Prop} {a : Act} {w : World} (h : Q .normal a w) : PanQ Q Pc .normal a w := h
end Go.Proofs.Ythkajcioeemilaa
