/- Stores into the block of a transmission. No condition. -/
import Derived.Test.YtanmndhdhlmjgaaRa
namespace Go.Proofs.Ytanmndhdhlmjgaa
open Go.RowKit
theorem set73s_blk {W : World} {X : Nat} {c0 c1 c2 c3 c4 c5 c6 c7 c8 c9 c10 c11 c12 c13 c14 c15 c16 : Value} (h : Blk W X 73 #[c0, c1, c2, c3, c4, c5, c6, c7, c8, c9, c10, c11, c12, c13, c14, c15, c16]) (v0 v1 v2 v3 v4 v5 v6 v7 : Value) : Blk ((((((((W.setCell ⟨X, 0, none⟩ v0).setCell ⟨X, 1, none⟩ v1).setCell ⟨X, 2, none⟩ v2).setCell ⟨X, 3, none⟩ v3).setCell ⟨X, 4, none⟩ v4).setCell ⟨X, 5, none⟩ v5).setCell ⟨X, 6, none⟩ v6).setCell ⟨X, 7, none⟩ v7) X 73 #[v0, v1, v2, v3, v4, v5, v6, v7, c8, c9, c10, c11, c12, c13, c14, c15, c16] := by
  have hB := ((((((((h.set_ 0 v0).set_ 1 v1).set_ 2 v2).set_ 3 v3).set_ 4 v4).set_ 5 v5).set_ 6 v6).set_ 7 v7)
  simp only [List.setIfInBounds_toArray, List.set_cons_zero, List.set_cons_succ] at hB
  exact hB
theorem set73s_turn {W : World} {X base : Nat} {cs : Array Value} (h : Blk W X 73 cs) (hg : base ≤ X) (v0 v1 v2 v3 v4 v5 v6 v7 : Value) : Turn base [73] W ((((((((W.setCell ⟨X, 0, none⟩ v0).setCell ⟨X, 1, none⟩ v1).setCell ⟨X, 2, none⟩ v2).setCell ⟨X, 3, none⟩ v3).setCell ⟨X, 4, none⟩ v4).setCell ⟨X, 5, none⟩ v5).setCell ⟨X, 6, none⟩ v6).setCell ⟨X, 7, none⟩ v7) :=
  (((((((((Turn.refl base [73] W).set h (by simp) hg 0 v0).set (h.set_ 0 v0) (by simp) hg 1 v1).set ((h.set_ 0 v0).set_ 1 v1) (by simp) hg 2 v2).set (((h.set_ 0 v0).set_ 1 v1).set_ 2 v2) (by simp) hg 3 v3).set ((((h.set_ 0 v0).set_ 1 v1).set_ 2 v2).set_ 3 v3) (by simp) hg 4 v4).set (((((h.set_ 0 v0).set_ 1 v1).set_ 2 v2).set_ 3 v3).set_ 4 v4) (by simp) hg 5 v5).set ((((((h.set_ 0 v0).set_ 1 v1).set_ 2 v2).set_ 3 v3).set_ 4 v4).set_ 5 v5) (by simp) hg 6 v6).set (((((((h.set_ 0 v0).set_ 1 v1).set_ 2 v2).set_ 3 v3).set_ 4 v4).set_ 5 v5).set_ 6 v6) (by simp) hg 7 v7)
theorem set73r_blk {W : World} {X : Nat} {c0 c1 c2 c3 c4 c5 c6 c7 c8 c9 c10 c11 c12 c13 c14 c15 c16 : Value} (h : Blk W X 73 #[c0, c1, c2, c3, c4, c5, c6, c7, c8, c9, c10, c11, c12, c13, c14, c15, c16]) (v0 v1 v2 v3 : Value) : Blk ((((W.setCell ⟨X, 8, none⟩ v0).setCell ⟨X, 9, none⟩ v1).setCell ⟨X, 10, none⟩ v2).setCell ⟨X, 11, none⟩ v3) X 73 #[c0, c1, c2, c3, c4, c5, c6, c7, v0, v1, v2, v3, c12, c13, c14, c15, c16] := by
  have hB := ((((h.set_ 8 v0).set_ 9 v1).set_ 10 v2).set_ 11 v3)
  simp only [List.setIfInBounds_toArray, List.set_cons_zero, List.set_cons_succ] at hB
  exact hB
theorem set73r_turn {W : World} {X base : Nat} {cs : Array Value} (h : Blk W X 73 cs) (hg : base ≤ X) (v0 v1 v2 v3 : Value) : Turn base [73] W ((((W.setCell ⟨X, 8, none⟩ v0).setCell ⟨X, 9, none⟩ v1).setCell ⟨X, 10, none⟩ v2).setCell ⟨X, 11, none⟩ v3) :=
  (((((Turn.refl base [73] W).set h (by simp) hg 8 v0).set (h.set_ 8 v0) (by simp) hg 9 v1).set ((h.set_ 8 v0).set_ 9 v1) (by simp) hg 10 v2).set (((h.set_ 8 v0).set_ 9 v1).set_ 10 v2) (by simp) hg 11 v3)
theorem set73_turn {W : World} {X base : Nat} {cs : Array Value} (h : Blk W X 73 cs) (hg : base ≤ X) (k : Nat) (v : Value) : Turn base [73] W (W.setCell ⟨X, k, none⟩ v) := (Turn.refl base [73] W).set h (by simp) hg k v
theorem RowsI.t73 {W W' : World} {base : Nat} {m : RunM} {u : RVal} (h : RowsI W base m u) (hT : Turn base [73] W W') : RowsI W' base m u := h.turn hT (by simp) (by simp) (by simp) (by simp) (by simp) (by simp)
end Go.Proofs.Ytanmndhdhlmjgaa
