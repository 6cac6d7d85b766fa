/- Lists of elements of a fixed number of cells, read in memory. No condition. -/
import Derived.Test.YthkajcioeemilaaLib
namespace Go.Proofs.Ythkajcioeemilaa
open Go.RowKit
theorem flatMap_len {α : Type} {E : α → List Value} {sz : Nat} (hE : ∀ a, (E a).length = sz) (l : List α) : (l.flatMap E).length = l.length * sz := by
  induction l with
  | nil => simp
  | cons a l ih => rw [List.flatMap_cons, List.length_append, ih, hE, List.length_cons, Nat.succ_mul]; omega
theorem flatMap_at {α : Type} {E : α → List Value} {sz : Nat} (hE : ∀ a, (E a).length = sz) (l : List α) (k j : Nat) (hk : k < l.length) (hj : j < sz) : (l.flatMap E)[k * sz + j]? = (E l[k])[j]? := by
  induction l generalizing k with
  | nil => simp at hk
  | cons a l ih =>
    rw [List.flatMap_cons]
    cases k with
    | zero => rw [List.getElem?_append_left (by rw [hE]; omega)]; simp
    | succ k =>
      rw [List.getElem?_append_right (by rw [hE, Nat.succ_mul]; omega), hE, show (k + 1) * sz + j - sz = k * sz + j by rw [Nat.succ_mul]; omega, ih k (by simpa using hk)]
      simp
theorem flatMap_set {α : Type} {E : α → List Value} {sz : Nat} (hE : ∀ a, (E a).length = sz) (l : List α) (k : Nat) (h : k < l.length) (b : α) (j : Nat) (u : Value) (hj : j < sz) (hb : (E l[k]).set j u = E b) : (l.flatMap E).set (k * sz + j) u = (l.set k b).flatMap E := by
  induction l generalizing k with
  | nil => simp at h
  | cons a l ih =>
    rw [List.flatMap_cons]
    cases k with
    | zero =>
      rw [List.set_append, if_pos (by rw [hE]; omega), List.set_cons_zero, List.flatMap_cons, ← hb]
      simp
    | succ k =>
      rw [List.set_append, if_neg (by rw [hE, Nat.succ_mul]; omega), hE, show (k + 1) * sz + j - sz = k * sz + j by rw [Nat.succ_mul]; omega, ih k (by simpa using h) (by simpa using hb), List.set_cons_succ, List.flatMap_cons]
section
variable {w : World} {A : Option Addr} {n sz : Nat} {α : Type} {E : α → List Value} {l : List α}
theorem Reads.count (h : Reads w w.heap.size sz A n (l.flatMap E)) (hE : ∀ a, (E a).length = sz) (hsz : 0 < sz) : l.length = n := by
  have := h.1
  rw [flatMap_len hE] at this
  exact Nat.eq_of_mul_eq_mul_right hsz this
theorem Reads.elems (h : Reads w w.heap.size sz A n (l.flatMap E)) (hE : ∀ a, (E a).length = sz) (hsz : 0 < sz) (hn : 0 < n) : ∃ b off, A = some ⟨b, off, none⟩ ∧ b < w.heap.size ∧
    ∀ k, (hk : k < l.length) → ∀ j u, (E l[k])[j]? = some u → w.cell? ⟨b, off + (k * sz + j), none⟩ = some u := by
  obtain ⟨b, off, e, hb, hc⟩ := Reads.plain h hn hsz
  refine ⟨b, off, e, hb, fun k hk j u hu => ?_⟩
  have hj : j < sz := by rw [← hE l[k]]; exact (List.getElem?_eq_some_iff.1 hu).1
  exact hc _ _ (by rw [flatMap_at hE l k j hk hj]; exact hu)
theorem Reads.elems3 {E : α → List Value} {l : List α} (h : Reads w w.heap.size 3 A n (l.flatMap E)) (hE : ∀ a, (E a).length = 3) (hn : 0 < n) : ∃ b off, A = some ⟨b, off, none⟩ ∧ b < w.heap.size ∧
    ∀ k, (hk : k < l.length) → ∀ u v x, E l[k] = [u, v, x] → w.cell? ⟨b, off + k * 3, none⟩ = some u ∧ w.cell? ⟨b, off + k * 3 + 1, none⟩ = some v ∧ w.cell? ⟨b, off + k * 3 + 2, none⟩ = some x := by
  obtain ⟨b, off, e, hb, hc⟩ := h.elems hE (by omega) hn
  refine ⟨b, off, e, hb, fun k hk u v x he => ⟨?_, ?_, ?_⟩⟩
  · exact hc k hk 0 u (by rw [he]; rfl)
  · rw [Nat.add_assoc]; exact hc k hk 1 v (by rw [he]; rfl)
  · rw [Nat.add_assoc]; exact hc k hk 2 x (by rw [he]; rfl)
end
end Go.Proofs.Ythkajcioeemilaa
