/- begins: the iterator's contract, the function. No condition. -/
import Derived.Test.YtnhemndpnjhbfaaWh
namespace Go.Proofs.Ytnhemndpnjhbfaa
open Go.RowKit Go.Shelf
theorem begins1_stops (n : Nat) (hn : 1 ≤ n) (A : Option Addr) (B1 g off cap n₀ : Nat) (l : List Span) (w : World)
    (hB1 : B1 < w.heap.size) (hg : 0 < l.length → A = some ⟨g, off, none⟩ ∧ g < n₀) (hn₀ : n₀ ≤ w.heap.size) (hl : l.length ≤ 1000)
    (h1 : Blk w B1 39 #[.slice A l.length cap])
    (hc : ∀ i, i < l.length → w.cell? ⟨g, off + i * 3, none⟩ = some (.int .i64 (atS l i).e) ∧ w.cell? ⟨g, off + i * 3 + 1, none⟩ = some (.int .i64 (atS l i).f) ∧ w.cell? ⟨g, off + i * 3 + 2, none⟩ = some (.int .i64 (atS l i).t)) :
    SeqStopsO Fence.wide n Try.prog 57 #[.pointer (some ⟨B1, 0, none⟩)] (fun x : Nat => #[spanV (prevS l x), spanV (atS l x)]) (BKeep n₀ B1) (fun ys => ys = List.range l.length) (fun pre => ∃ k, k < l.length ∧ pre = List.range (k + 1)) w := fun lf J Jx W hW hJ _ hY h0 =>
  begins1_in n hn A lf B1 g off cap n₀ l J Jx W hJ hY (Nat.lt_of_lt_of_le hB1 hW.size) hg (Nat.le_trans hn₀ hW.size) hl (h1.below hW hB1)
    (fun i hi => by
      obtain ⟨a, b, c⟩ := hc i hi
      have hgw : g < w.heap.size := Nat.lt_of_lt_of_le (hg (by omega)).2 hn₀
      exact ⟨(hW.cell (p := ⟨g, off + i * 3, none⟩) hgw).trans a, (hW.cell (p := ⟨g, off + i * 3 + 1, none⟩) hgw).trans b, (hW.cell (p := ⟨g, off + i * 3 + 2, none⟩) hgw).trans c⟩) h0
theorem enters57 : ∀ (args : Array Value) (w : World), (callFunc 57 args).run Try.prog w = .ok (.enter 57 args) w := enters_of Try.func57 (by kernel_rfl) rfl
theorem begins_any (A : Option Addr) (n c : Nat) (w : World) :
    Calls Try.prog 45 #[.slice A n c] w fun e w' => e = .returned (.func (.func 57) #[] #[.pointer (some ⟨w.heap.size, 0, none⟩)]) ∧ Below w.heap.size w w' ∧ Blk w' w.heap.size 39 #[.slice A n c] := by
  go_enter Try.func45, Try.ntmps45
  go_wp2
  go_ret
  exact ⟨rfl, (Below.refl _ w).alloc (Nat.le_refl _) _, Blk.new w 39 #[.slice A n c]⟩
end Go.Proofs.Ytnhemndpnjhbfaa
