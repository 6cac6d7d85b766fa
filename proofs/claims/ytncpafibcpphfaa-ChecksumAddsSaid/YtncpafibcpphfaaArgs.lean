/- What the statements' arguments are, as values: read off the form's own reading. No condition. -/
import Derived.Test.YtncpafibcpphfaaLib
import Derived.Test.YtncpafibcpphfaaRows
import Derived.ProofKit
import Derived.OpenShut
import Derived.ChangeOld
import Derived.Deep.Slices
import Derived.Deep.Fields
import Derived.ChangeSame
import Derived.Lib.SmallJoins
namespace Go.Proofs.Ytncpafibcpphfaa
open Go.RowKit Go.ChangeShapes Go.WideShapes
section
variable {H : Type} {enc : TypeId × Value → H} {w : World} {r : Reach} {b0 base : Nat} {spare : Nat → Bool} {held : Bool} {v : Value} {d : DataW H} {p : List MemPlace}
def Arg22 (_ : World) (v : Value) : Prop := ∃ a : Nat, v = .int .u32 a ∧ a < 4294967296
theorem arg22 (hv : Value.okWide Try.prog w r b0 22 v) (h : DataW.Trod enc Try.prog w base spare held 22 v d p) : Arg22 w v := by
  obtain ⟨a, rfl, _, _, w0⟩ := open_int Try.underlying22 hv h
  have hb := bounds_u32 w0
  obtain ⟨n, rfl⟩ := Int.eq_ofNat_of_zero_le hb.1
  exact ⟨n, rfl, by omega⟩
def Arg3 (_ : World) (v : Value) : Prop := ∃ a : Int, v = .int .i64 a ∧ -9223372036854775808 ≤ a ∧ a ≤ 9223372036854775807
theorem arg3 (hv : Value.okWide Try.prog w r b0 3 v) (h : DataW.Trod enc Try.prog w base spare held 3 v d p) : Arg3 w v := by
  obtain ⟨a, rfl, _, _, w0⟩ := open_int Try.underlying3 hv h
  have hb := bounds_i64 w0
  exact ⟨a, rfl, hb.1, hb.2⟩
def Arg5 (_ : World) (v : Value) : Prop := ∃ a : Nat, v = .int .u8 a ∧ a < 256
theorem arg5 (hv : Value.okWide Try.prog w r b0 5 v) (h : DataW.Trod enc Try.prog w base spare held 5 v d p) : Arg5 w v := by
  obtain ⟨a, rfl, _, _, w0⟩ := open_int Try.underlying5 hv h
  have hb := bounds_u8 w0
  obtain ⟨n, rfl⟩ := Int.eq_ofNat_of_zero_le hb.1
  exact ⟨n, rfl, by omega⟩
def Arg30 (_ : World) (v : Value) : Prop := ∃ a : Nat, v = .int .u16 a ∧ a < 65536
theorem arg30 (hv : Value.okWide Try.prog w r b0 30 v) (h : DataW.Trod enc Try.prog w base spare held 30 v d p) : Arg30 w v := by
  obtain ⟨a, rfl, _, _, w0⟩ := open_int Try.underlying30 hv h
  have hb := bounds_u16 w0
  obtain ⟨n, rfl⟩ := Int.eq_ofNat_of_zero_le hb.1
  exact ⟨n, rfl, by omega⟩
def Arg34 (_ : World) (v : Value) : Prop := ∃ a : Nat, v = .int .u64 a ∧ a < 18446744073709551616
theorem arg34 (hv : Value.okWide Try.prog w r b0 34 v) (h : DataW.Trod enc Try.prog w base spare held 34 v d p) : Arg34 w v := by
  obtain ⟨a, rfl, _, _, w0⟩ := open_int Try.underlying34 hv h
  have hb := bounds_u64 w0
  obtain ⟨n, rfl⟩ := Int.eq_ofNat_of_zero_le hb.1
  exact ⟨n, rfl, by omega⟩

theorem u8s_toNat {l : List Int} (h : ∀ n ∈ l, 0 ≤ n) : u8s (l.map Int.toNat) = l.map fun n => .int .u8 n := by
  unfold u8s
  rw [List.map_map]
  apply List.map_congr_left
  intro n hn
  have := h n hn
  simp [Int.toNat_of_nonneg this]
theorem reads_ints (k : IntKind) {x : Addr} {zs : List Int} {len : Nat} (hcell : ∀ i, i < zs.length → w.cell? (x.add i) = some (.int k (zs.getD i 0))) (hl : len ≤ zs.length) :
    Reads w w.heap.size 1 (some x) len ((zs.take len).map fun n => .int k n) := by
  refine ⟨by simp; omega, fun hn => ⟨x, rfl, ?_, fun j u hu => ?_⟩⟩
  · have := block_lt_of_cell (hcell 0 (by omega))
    rwa [block_of_add] at this
  · have hj : j < len := by
      have := (List.getElem?_eq_some_iff.1 hu).1
      simp at this; omega
    rw [hcell j (by omega)]
    have e : (zs.take len)[j]? = some (zs.getD j 0) := by
      rw [List.getElem?_take_of_lt hj, List.getD_eq_getElem?_getD, List.getElem?_eq_getElem (by omega)]; rfl
    rw [List.getElem?_map, e] at hu
    exact hu
def Arg26 (w : World) (v : Value) : Prop := ∃ (A : Option Addr) (n cap : Nat) (l : List Nat), v = .slice A n cap ∧ Reads w w.heap.size 1 A n (u8s l) ∧ (∀ x ∈ l, x < 256) ∧ n ≤ cap ∧ cap ≤ maxLen
theorem arg26 (hv : Value.okWide Try.prog w r b0 26 v) (h : DataW.Trod enc Try.prog w base spare held 26 v d p) : Arg26 w v := by
  obtain ⟨a0, len0, cap0, rfl⟩ := okWide_slice Try.underlying26 hv
  obtain ⟨fuel, hf⟩ := h
  rcases open_ints Try.underlying26 Try.underlying5 (by kernel_rfl) hf with ⟨hcs, _⟩ | ⟨x, l, c, zs, hcs, _, hl, hm, hz, _, hcell, hwz⟩
  · simp [Value.cells] at hcs
    obtain ⟨rfl, rfl, rfl⟩ := hcs
    exact ⟨_, 0, 0, [], rfl, Reads.none_, by simp, by omega, by omega⟩
  · simp [Value.cells] at hcs
    obtain ⟨rfl, rfl, rfl⟩ := hcs
    have hzl : len0 ≤ zs.length := by rw [hz]; split <;> omega
    refine ⟨_, len0, cap0, (zs.take len0).map Int.toNat, rfl, ?_, ?_, hl, hm⟩
    · rw [u8s_toNat (fun n hn => (bounds_u8 (hwz n (List.mem_of_mem_take hn))).1)]
      exact reads_ints .u8 hcell hzl
    · intro y hy
      obtain ⟨n, hn, rfl⟩ := List.mem_map.1 hy
      have := bounds_u8 (hwz n (List.mem_of_mem_take hn))
      omega
end
end Go.Proofs.Ytncpafibcpphfaa
