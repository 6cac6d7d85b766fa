/- Arguments opened in general: flat types (integers, bools, arrays and structs of these) and slices of flat types. No condition. -/
import Derived.Test.YthkajcioeemilaaLib
import Derived.ProofKit
import Derived.OpenShut
import Derived.ChangeOld
import Derived.Deep.Slices
import Derived.Deep.Fields
import Derived.ChangeSame
import Derived.Lib.SmallJoins
namespace Go.Proofs.Ythkajcioeemilaa
open Go.RowKit Go.ChangeShapes Go.WideShapes Go.Deep
section
variable {P : Program} {H : Type} {enc : TypeId × Value → H} {w : World} {r : Reach} {b0 base : Nat} {spare : Nat → Bool} {held : Bool}
/-- the cells of type e are always the encoding of something -/
def Flat (P : Program) (e : TypeId) {α : Type} (E : α → List Value) : Prop :=
  ∀ {H : Type} {enc : TypeId × Value → H} {w : World} {base : Nat} {spare : Nat → Bool} {held : Bool} {fuel : Nat} {cs : List Value} {x : DataW H × List MemPlace},
    DataW.trod enc P w base spare held fuel e cs = some x → ∃ a, cs = E a
theorem chunks {α : Type} {E : α → List Value} {sz : Nat} : ∀ (n : Nat) (cs : List Value), cs.length = n * sz → (∀ i, i < n → ∃ a, (cs.drop (i * sz)).take sz = E a) → ∃ xs : List α, xs.length = n ∧ cs = xs.flatMap E
  | 0, cs, hl, _ => ⟨[], rfl, by simpa using hl⟩
  | n + 1, cs, hl, h => by
    obtain ⟨a, ha⟩ := h 0 (by omega)
    have hl2 : (cs.drop sz).length = n * sz := by rw [List.length_drop, hl, Nat.succ_mul]; omega
    obtain ⟨xs, hx, hc⟩ := chunks n (cs.drop sz) hl2 (fun i hi => by
      obtain ⟨b, hb⟩ := h (i + 1) (by omega)
      refine ⟨b, ?_⟩
      rw [List.drop_drop, show sz + i * sz = (i + 1) * sz by rw [Nat.succ_mul, Nat.add_comm]]
      exact hb)
    refine ⟨a :: xs, by simp [hx], ?_⟩
    rw [List.flatMap_cons, ← hc, ← ha]
    simp
theorem flat_array {α : Type} {E : α → List Value} {sz n : Nat} {t e : TypeId} (hE : Flat P e E) (hC : P.cellsOf e = sz) (hT : P.cellsOf t = n * sz) (ht : P.underlying t = some (.array n e)) :
    Flat P t (fun xs : { l : List α // l.length = n } => xs.1.flatMap E) := by
  intro H enc w base spare held fuel cs x h
  obtain ⟨xs, m, _, _, hl, _, hi⟩ := DataW.trod_array ht h
  obtain ⟨ys, hy, hc⟩ := chunks (E := E) (sz := sz) n cs (by rw [hl, hT]) (fun i hin => by
    have := hi i hin
    rw [hC] at this
    obtain ⟨y, hxy⟩ : ∃ y, xs[i]? = some y := ⟨xs[i], List.getElem?_eq_getElem (by omega)⟩
    rw [hxy] at this
    exact hE this)
  exact ⟨⟨ys, hy⟩, hc⟩
theorem flat_slice_cells {α : Type} {E : α → List Value} {sz : Nat} {t e : TypeId} {cs : List Value} {x : DataW H × List MemPlace} {fuel : Nat} (hE : Flat P e E) (hC : P.cellsOf e = sz) (hsz : 0 < sz) (hlen : ∀ a, (E a).length = sz) (ht : P.underlying t = some (.slice e))
    (hf : DataW.trod enc P w base spare held fuel t cs = some x) :
    ∃ (A : Option Addr) (n cap : Nat) (xs : List α), cs = [.slice A n cap] ∧ xs.length = n ∧ n ≤ cap ∧ cap ≤ maxLen ∧ Reads w w.heap.size sz A n (xs.flatMap E) := by
  rcases open_slice ht hf with ⟨hcs, _⟩ | ⟨a, len0, cap0, m, n, D, Pl, hcs, _, hl, hm, hmm, _, hi⟩
  · exact ⟨none, 0, 0, [], hcs, rfl, Nat.le_refl _, by unfold maxLen; omega, Reads.none_⟩
  · subst hcs
    have hml : len0 ≤ m := by rw [hmm]; split <;> omega
    rw [hC] at hi
    have hel : ∀ i, ∃ (y : α ⊕ Unit), i < len0 → ∃ z, y = .inl z ∧ ∀ j u, (E z)[j]? = some u → w.cell? ((a.add (i * sz)).add j) = some u := by
      intro i
      by_cases him : i < len0
      · obtain ⟨cs', hc, htr⟩ := hi i (by omega)
        obtain ⟨z, rfl⟩ := hE htr
        obtain ⟨_, hcl, hat⟩ := World.cells?_some hc
        refine ⟨.inl z, fun _ => ⟨z, rfl, fun j u hu => ?_⟩⟩
        have hj : j < sz := by rw [← hlen z]; exact (List.getElem?_eq_some_iff.1 hu).1
        rw [hat j hj, hu]
      · exact ⟨.inr (), fun hx => absurd hx him⟩
    have hf : ∃ f : Nat → α ⊕ Unit, ∀ i, i < len0 → ∃ z, f i = .inl z ∧ ∀ j u, (E z)[j]? = some u → w.cell? ((a.add (i * sz)).add j) = some u :=
      ⟨fun i => (hel i).choose, fun i hi => (hel i).choose_spec hi⟩
    obtain ⟨f, hf⟩ := hf
    have hxs : ∀ k, k ≤ len0 → ∃ xs : List α, xs.length = k ∧ ∀ i z, xs[i]? = some z → f i = .inl z := by
      intro k
      induction k with
      | zero => exact fun _ => ⟨[], rfl, by simp⟩
      | succ k ih =>
        intro hk
        obtain ⟨xs, hx, hz⟩ := ih (by omega)
        obtain ⟨z, hz1, _⟩ := hf k (by omega)
        refine ⟨xs ++ [z], by simp [hx], fun i y hy => ?_⟩
        rcases Nat.lt_or_ge i xs.length with hlt | hge
        · rw [List.getElem?_append_left hlt] at hy; exact hz i y hy
        · rw [List.getElem?_append_right hge] at hy
          have : i - xs.length = 0 := by
            rcases Nat.eq_zero_or_pos (i - xs.length) with h0 | h0
            · exact h0
            · rw [List.getElem?_eq_none (by simp; omega)] at hy; cases hy
          rw [this] at hy
          simp at hy
          subst hy
          have : i = k := by omega
          rw [this]; exact hz1
    obtain ⟨xs, hx, hz⟩ := hxs len0 (Nat.le_refl _)
    have hcell : ∀ i z, xs[i]? = some z → ∀ j u, (E z)[j]? = some u → w.cell? (a.add (i * sz + j)) = some u := by
      intro i z hiz j u hu
      have hil : i < len0 := by rw [← hx]; exact (List.getElem?_eq_some_iff.1 hiz).1
      obtain ⟨z', h1, h2⟩ := hf i hil
      rw [hz i z hiz] at h1
      cases h1
      rw [← add_of_add]
      exact h2 j u hu
    have hflen : ∀ ys : List α, (ys.flatMap E).length = ys.length * sz := by
      intro ys
      induction ys with
      | nil => simp
      | cons y ys ih => rw [List.flatMap_cons, List.length_append, hlen, ih, List.length_cons, Nat.succ_mul]; omega
    have hfget : ∀ (ys : List α) (q : Nat) (u : Value), (ys.flatMap E)[q]? = some u → ∃ y, ys[q / sz]? = some y ∧ (E y)[q % sz]? = some u := by
      intro ys
      induction ys with
      | nil => intro q u hq; simp at hq
      | cons y ys ih =>
        intro q u hq
        rw [List.flatMap_cons] at hq
        rcases Nat.lt_or_ge q sz with hlt | hge
        · rw [List.getElem?_append_left (by rw [hlen]; exact hlt)] at hq
          exact ⟨y, by rw [Nat.div_eq_of_lt hlt]; rfl, by rw [Nat.mod_eq_of_lt hlt]; exact hq⟩
        · rw [List.getElem?_append_right (by rw [hlen]; exact hge), hlen] at hq
          obtain ⟨y', h1, h2⟩ := ih (q - sz) u hq
          have e1 : q / sz = (q - sz) / sz + 1 := by rw [Nat.div_eq_sub_div hsz hge]
          have e2 : q % sz = (q - sz) % sz := by rw [Nat.mod_eq_sub_mod hge]
          exact ⟨y', by rw [e1]; simpa using h1, by rw [e2]; exact h2⟩
    refine ⟨some a, len0, cap0, xs, rfl, hx, hl, hm, by rw [hflen, hx], fun hn => ⟨a, rfl, ?_, fun q u hq => ?_⟩⟩
    · have h0 : xs[0]? = some (xs[0]'(by omega)) := List.getElem?_eq_getElem (by omega)
      have h1 : (E (xs[0]'(by omega)))[0]? = some ((E (xs[0]'(by omega)))[0]'(by rw [hlen]; exact hsz)) := List.getElem?_eq_getElem (by rw [hlen]; exact hsz)
      have := block_lt_of_cell (hcell 0 _ h0 0 _ h1)
      rwa [block_of_add] at this
    · obtain ⟨y, h1, h2⟩ := hfget xs q u hq
      have := hcell (q / sz) y h1 (q % sz) u h2
      rwa [Nat.mul_comm, Nat.div_add_mod] at this
theorem flat_slice {α : Type} {E : α → List Value} {sz : Nat} {t e : TypeId} {v : Value} {d : DataW H} {p : List MemPlace} (hE : Flat P e E) (hC : P.cellsOf e = sz) (hsz : 0 < sz) (hlen : ∀ a, (E a).length = sz) (ht : P.underlying t = some (.slice e))
    (hv : Value.okWide P w r b0 t v) (h : DataW.Trod enc P w base spare held t v d p) :
    ∃ (A : Option Addr) (n cap : Nat) (xs : List α), v = .slice A n cap ∧ xs.length = n ∧ n ≤ cap ∧ cap ≤ maxLen ∧ Reads w w.heap.size sz A n (xs.flatMap E) := by
  obtain ⟨a0, len0, cap0, rfl⟩ := okWide_slice ht hv
  obtain ⟨fuel, hf⟩ := h
  obtain ⟨A, n, cap, xs, hcs, h1, h2, h3, h4⟩ := flat_slice_cells hE hC hsz hlen ht hf
  simp [Value.cells] at hcs
  obtain ⟨rfl, rfl, rfl⟩ := hcs
  exact ⟨_, _, _, xs, rfl, h1, h2, h3, h4⟩
theorem flat_u8 {e : TypeId} (ht : P.underlying e = some (.int .u8)) : Flat P e (fun x : { n : Nat // n < 256 } => [.int .u8 (x.1 : Int)]) := by
  intro H enc w base spare held fuel cs x h
  obtain ⟨n, rfl, _, hw⟩ := DataW.trod_int ht h
  have hb := bounds_u8 hw
  exact ⟨⟨n.toNat, by omega⟩, by simp [Int.toNat_of_nonneg hb.1]⟩
theorem flat_u16 {e : TypeId} (ht : P.underlying e = some (.int .u16)) : Flat P e (fun x : { n : Nat // n < 65536 } => [.int .u16 (x.1 : Int)]) := by
  intro H enc w base spare held fuel cs x h
  obtain ⟨n, rfl, _, hw⟩ := DataW.trod_int ht h
  have hb := bounds_u16 hw
  exact ⟨⟨n.toNat, by omega⟩, by simp [Int.toNat_of_nonneg hb.1]⟩
theorem flat_u64 {e : TypeId} (ht : P.underlying e = some (.int .u64)) : Flat P e (fun x : { n : Nat // n < 18446744073709551616 } => [.int .u64 (x.1 : Int)]) := by
  intro H enc w base spare held fuel cs x h
  obtain ⟨n, rfl, _, hw⟩ := DataW.trod_int ht h
  have hb := bounds_u64 hw
  exact ⟨⟨n.toNat, by omega⟩, by simp [Int.toNat_of_nonneg hb.1]⟩
theorem flat_i64 {e : TypeId} (ht : P.underlying e = some (.int .i64)) : Flat P e (fun x : { n : Int // -9223372036854775808 ≤ n ∧ n ≤ 9223372036854775807 } => [.int .i64 x.1]) := by
  intro H enc w base spare held fuel cs x h
  obtain ⟨n, rfl, _, hw⟩ := DataW.trod_int ht h
  have hb := bounds_i64 hw
  exact ⟨⟨n, hb⟩, rfl⟩
theorem flat_bool {e : TypeId} (ht : P.underlying e = some .bool) : Flat P e (fun b : Bool => [.bool b]) := by
  intro H enc w base spare held fuel cs x h
  obtain ⟨b, rfl, _⟩ := DataW.trod_bool ht h
  exact ⟨b, rfl⟩
theorem okWide_arr {t e : TypeId} {n : Nat} {v : Value} (ht : P.underlying t = some (.array n e)) (h : Value.okWide P w r b0 t v) : ∃ cs, v = .agg cs ∧ cs.size = P.cellsOf t := by
  simp only [Value.okWide, ht] at h
  obtain ⟨cs, h1, h2, _⟩ := h
  exact ⟨cs, h1, h2⟩
theorem flat_arr_val {α : Type} {E : α → List Value} {t e : TypeId} {n : Nat} {v : Value} {d : DataW H} {p : List MemPlace} (hE : Flat P t E) (ht : P.underlying t = some (.array n e))
    (hv : Value.okWide P w r b0 t v) (h : DataW.Trod enc P w base spare held t v d p) : ∃ a, v = .agg (E a).toArray := by
  obtain ⟨cs, rfl, _⟩ := okWide_arr ht hv
  obtain ⟨fuel, hf⟩ := h
  obtain ⟨a, ha⟩ := hE hf
  refine ⟨a, ?_⟩
  rw [← ha]
  simp [Value.cells]
theorem flat_struct_val {α : Type} {E : α → List Value} {t : TypeId} {fs : Array Field} {v : Value} {d : DataW H} {p : List MemPlace} (hE : Flat P t E) (ht : P.underlying t = some (.struct fs))
    (hv : Value.okWide P w r b0 t v) (h : DataW.Trod enc P w base spare held t v d p) : ∃ a, v = .agg (E a).toArray := by
  obtain ⟨cs, rfl, _⟩ := okWide_struct ht hv
  obtain ⟨fuel, hf⟩ := h
  obtain ⟨a, ha⟩ := hE hf
  refine ⟨a, ?_⟩
  rw [← ha]
  simp [Value.cells]
/-- a struct by value, its fields' cells each with their own reading -/
theorem struct_fields {t : TypeId} {fs : Array Field} {v : Value} {d : DataW H} {p : List MemPlace} (ht : P.underlying t = some (.struct fs))
    (hv : Value.okWide P w r b0 t v) (h : DataW.Trod enc P w base spare held t v d p) : ∃ cs : List Value, v = .agg cs.toArray ∧ cs.length = P.cellsOf t ∧
      ∀ (i : Nat) (f : Field), fs[i]? = some f → ∃ (m : Nat) (x : DataW H × List MemPlace), DataW.trod enc P w base spare held m f.type ((cs.drop f.offset).take (P.cellsOf f.type)) = some x := by
  obtain ⟨cs, rfl, _⟩ := okWide_struct ht hv
  obtain ⟨fuel, hf⟩ := h
  obtain ⟨xs, m, _, _, hl, hlen, hi⟩ := DataW.trod_struct ht hf
  refine ⟨cs.toList, by simp, by simpa [Value.cells] using hl, fun i f hfi => ?_⟩
  have hil : i < fs.size := (Array.getElem?_eq_some_iff.1 hfi).1
  have := hi i f hfi
  rw [List.getElem?_eq_getElem (by omega)] at this
  exact ⟨m, _, by simpa [Value.cells] using this⟩
end
end Go.Proofs.Ythkajcioeemilaa
