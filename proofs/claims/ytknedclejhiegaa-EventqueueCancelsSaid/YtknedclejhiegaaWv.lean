/- The walks of numbers and added. Conditions: at most 1000 numbers; times that are possible. -/
import Derived.Test.YtknedclejhiegaaWu
namespace Go.Proofs.Ytknedclejhiegaa
open Go.RowKit
def intsV (l : List Int) : List Value := l.map fun x => .int .i64 x
theorem intsV_len (l : List Int) : (intsV l).length = l.length := by simp [intsV]
theorem intsV_at {w : World} {B : Nat} {A : Option Addr} {n k : Nat} {l : List Int} (h : Reads w B 1 A n (intsV l)) (hk : k < n) : ∃ (b off : Nat) (x : Int), A = some ⟨b, off, none⟩ ∧ b < B ∧ l[k]? = some x ∧ w.cell? ⟨b, off + k, none⟩ = some (.int .i64 x) := by
  obtain ⟨b, off, hA, hb, hc⟩ := h.plain (by omega) (by omega)
  have hl : k < l.length := by have := h.1; rw [intsV_len] at this; omega
  refine ⟨b, off, l[k], hA, hb, List.getElem?_eq_getElem hl, hc k _ ?_⟩
  unfold intsV
  rw [List.getElem?_map, List.getElem?_eq_getElem hl]
  rfl
set_option maxRecDepth 100000 in
set_option maxHeartbeats 2000000 in
theorem numbers_true (A B : Option Addr) (m c c' : Nat) (l : List Ev) (ws : List Int) (w : World) (hR : Evs w A m l) (hW : Reads w w.heap.size 1 B m (intsV ws)) (hm : m ≤ 10000) (he : (l.map Ev.em).map Em.n = ws) :
    Calls Try.prog 29 #[.slice A m c, .slice B m c'] w fun e w' => e = .returned (.bool true) ∧ Below w.heap.size w w' := by
  have hlen := hR.count
  have HX := Lib.hid (And.intro hR (And.intro hW (And.intro hlen he)))
  clear hR hW hlen he
  go_enter Try.func29, Try.ntmps29
  go_wp2_with fail
  go_loopw [5] (fun u5 W => ∃ k : Nat, k ≤ m ∧ u5 = .int .i64 (k : Nat) ∧ Below w.heap.size w W) (fun u5 _ => m + 1 - (intOf u5).toNat)
  case atStart => exact ⟨0, by omega, rfl, Below.refl _ _⟩
  case round =>
    obtain ⟨k, hk, rfl, hb⟩ := hrel
    by_cases hlt : k < m
    · obtain ⟨b, off, rfl, hbb, hc⟩ := HX.out.1.cells (by omega)
      obtain ⟨b', off', x, rfl, hbb', hx, e0⟩ := intsV_at HX.out.2.1 hlt
      have hkl : k < l.length := by have := HX.out.2.2.1; omega
      obtain ⟨_, d1, _, _, _⟩ := hc k _ (List.getElem?_eq_getElem hkl)
      have hxe : l[k].n = x := by
        rw [← HX.out.2.2.2, List.getElem?_map, List.getElem?_map, List.getElem?_eq_getElem hkl] at hx
        injection hx
      rw [hxe] at d1
      replace d1 := (hb.cell (p := ⟨b, off + k * 5 + 1, none⟩) hbb).trans d1
      replace e0 := (hb.cell (p := ⟨b', off' + k, none⟩) hbb').trans e0
      have HB := Lib.hid hb
      clear hb hc hx hxe
      have hk1 : (k : Int) < m := by omega
      have hk0 : (0 : Int) ≤ k := by omega
      go_upto_region 6 with fail
      go_quiet (fail)
      go_wp2_with fail
      go_roundw
      case rel => exact ⟨k + 1, by omega, by go_num, below_drewN HB.out _⟩
      case measure => simp [intOf]; omega
    · have hk1 : ¬ (k : Int) < m := by omega
      go_wp2_with fail
      go_ret
      exact ⟨rfl, hb⟩
theorem Add_nil (A : Option Addr) (m c : Nat) (l : List Ev) (nx tm kd : Int) (w : World) (hR : Evs w A m l) (hm : m ≤ 4000) (hmc : m ≤ c) (hp : ∀ e ∈ l, e.p.length ≤ 100000) :
    Calls Try.prog 14 #[.agg #[.slice A m c, .int .i64 nx], .int .i64 tm, .int .i64 kd, .int .i64 0, .slice none 0 0] w (AddR w (addQ (l.map Ev.em) nx tm kd 0 [])) :=
  Add_any A none m c 0 l nx tm kd 0 [] w hR hm hmc hp Reads.none_ (by simp)
/-- what added answers -/
structure AddedR (w : World) (ts : List Int) (e : Ending) (w' : World) : Prop where
  bel : Below w.heap.size w w'
  val : ∃ v, e = .returned (.tuple #[v, .bool true]) ∧ QVal w' (addM ts ts.length) (ts.length : Nat) v
theorem QVal.cells {W : World} {l : List Em} {nx : Int} {v : Value} (h : QVal W l nx v) : ∃ A n c, v = .agg #[.slice A n c, .int .i64 nx] := by
  obtain ⟨A, c, es, h1, _⟩ := h.val
  exact ⟨A, _, c, h1⟩
/-- the state of the loop -/
structure AdI2 (w : World) (ts : List Int) (i : Nat) (W : World) : Prop where
  z : Blk W w.heap.size 24 #[.slice none 0 0, .int .i64 0]
  q : ∃ A n c, Blk W (w.heap.size + 1) 24 #[.slice A n c, .int .i64 (i : Nat)] ∧ QVal W (addM ts i) (i : Nat) (.agg #[.slice A n c, .int .i64 (i : Nat)])
  bel : Below w.heap.size w W
end Go.Proofs.Ytknedclejhiegaa
