/- Words for events in memory; the walks of wrong, compare, the closures, IndexFunc, ContainsFunc, Clone, copied, events, Copy. Conditions: sizes, as named. -/
import Derived.Test.YtknedclejhiegaaRows
import Derived.Test.YtknedclejhiegaaMath
import Derived.Test.YtknedclejhiegaaLibC
import Derived.Test.YtknedclejhiegaaLibE
namespace Go.Proofs.Ytknedclejhiegaa
open Go.RowKit
/-- an event in memory -/
structure Ev where
  t : Int
  n : Int
  k : Int
  o : Int
  A : Option Addr
  c : Nat
  p : List Nat
def evC (t n k o : Int) (A : Option Addr) (m c : Nat) : Array Value := #[.int .i64 t, .int .i64 n, .int .i64 k, .int .i64 o, .slice A m c]
def encEv (e : Ev) : List Value := [.int .i64 e.t, .int .i64 e.n, .int .i64 e.k, .int .i64 e.o, .slice e.A e.p.length e.c]
theorem encEv_len (e : Ev) : (encEv e).length = 5 := rfl
def Ev.em (e : Ev) : Em := ⟨e.t, e.n, e.k, e.o, e.p⟩
def EvR (w : World) (e : Ev) : Prop := Reads w w.heap.size 1 e.A e.p.length (u8s e.p)
theorem EvR.up {w w' : World} {e : Ev} (h : EvR w e) (hb : Below w.heap.size w w') : EvR w' e := Reads.up h hb
/-- a slice of events -/
structure Evs (w : World) (A : Option Addr) (n : Nat) (l : List Ev) : Prop where
  rd : Reads w w.heap.size 5 A n (l.flatMap encEv)
  ev : ∀ e ∈ l, EvR w e
theorem Evs.up {w w' : World} {A : Option Addr} {n : Nat} {l : List Ev} (h : Evs w A n l) (hb : Below w.heap.size w w') : Evs w' A n l := ⟨h.rd.up hb, fun e he => (h.ev e he).up hb⟩
theorem Evs.count {w : World} {A : Option Addr} {n : Nat} {l : List Ev} (h : Evs w A n l) : l.length = n := h.rd.count encEv_len (by omega)
theorem bcell {W w1 : World} (hb : Below W.heap.size W w1) : (∀ b o, b < W.heap.size → w1.cell? ⟨b, o, none⟩ = W.cell? ⟨b, o, none⟩) ∧ (∀ b o, b < W.heap.size → w1.frozen? ⟨b, o, none⟩ = W.frozen? ⟨b, o, none⟩) :=
  ⟨fun b o h => hb.cell (p := ⟨b, o, none⟩) h, fun b o h => hb.frozen (p := ⟨b, o, none⟩) h⟩
theorem info32b : (Try.prog.info? 32).map (fun i => (i.zero, i.size, i.bytes)) = some (some (.agg #[.int .i64 0, .int .i64 0, .int .i64 0, .int .i64 0, .slice none 0 0]), 5, 56) := by kernel_rfl
theorem info5b : (Try.prog.info? 5).map (fun i => (i.zero, i.size, i.bytes)) = some (some (.int .u8 0), 1, 1) := by kernel_rfl
theorem info3b : (Try.prog.info? 3).map (fun i => (i.zero, i.size, i.bytes)) = some (some (.int .i64 0), 1, 8) := by kernel_rfl
theorem u8s_len (l : List Nat) : (u8s l).length = l.length := by simp [u8s]
theorem u8s_one (l : List Nat) : ∀ u ∈ u8s l, u.oneCell' = true := by
  intro u hu
  obtain ⟨x, _, rfl⟩ := List.mem_map.1 hu
  rfl
theorem encEv_one (l : List Ev) : ∀ u ∈ l.flatMap encEv, u.oneCell' = true := by
  intro u hu
  obtain ⟨e, _, he⟩ := List.mem_flatMap.1 hu
  simp only [encEv, List.mem_cons, List.not_mem_nil, or_false] at he
  rcases he with rfl | rfl | rfl | rfl | rfl <;> rfl
theorem Evs.cells {w : World} {A : Option Addr} {n : Nat} {l : List Ev} (h : Evs w A n l) (hn : 0 < n) : ∃ b off, A = some ⟨b, off, none⟩ ∧ b < w.heap.size ∧ ∀ (k : Nat) (e : Ev), l[k]? = some e →
    w.cell? ⟨b, off + k * 5, none⟩ = some (.int .i64 e.t) ∧ w.cell? ⟨b, off + k * 5 + 1, none⟩ = some (.int .i64 e.n) ∧ w.cell? ⟨b, off + k * 5 + 2, none⟩ = some (.int .i64 e.k) ∧ w.cell? ⟨b, off + k * 5 + 3, none⟩ = some (.int .i64 e.o) ∧ w.cell? ⟨b, off + k * 5 + 4, none⟩ = some (.slice e.A e.p.length e.c) := by
  obtain ⟨b, off, hA, hb, hc⟩ := h.rd.elems encEv_len (by omega) hn
  refine ⟨b, off, hA, hb, fun k e hk => ?_⟩
  obtain ⟨hk1, rfl⟩ := List.getElem?_eq_some_iff.1 hk
  refine ⟨hc k hk1 0 _ rfl, ?_, ?_, ?_, ?_⟩
  · rw [Nat.add_assoc]; exact hc k hk1 1 _ rfl
  · rw [Nat.add_assoc]; exact hc k hk1 2 _ rfl
  · rw [Nat.add_assoc]; exact hc k hk1 3 _ rfl
  · rw [Nat.add_assoc]; exact hc k hk1 4 _ rfl
theorem ret_int {a b : Int} (h : a = b) : Ending.returned (.int .i64 a) = .returned (.int .i64 b) := by rw [h]
set_option maxHeartbeats 1000000 in
theorem wrong_any (t n k o : Int) (A : Option Addr) (c : Nat) (p : List Nat) (nx : Int) (w : World) :
    Calls Try.prog 31 #[.agg (evC t n k o A p.length c), .int .i64 nx] w fun e w' => e = .returned (.int .i64 (wrongE ⟨t, n, k, o, p⟩ nx : Nat)) ∧ Below w.heap.size w w' := by
  unfold evC
  have hb : Below w.heap.size w (w.alloc (.cells #[.int .i64 t, .int .i64 n, .int .i64 k, .int .i64 o, .slice A p.length c] 32)) := (Below.refl _ _).alloc (Nat.le_refl _) _
  have HB := Lib.hid hb
  clear hb
  have close : ∀ (x : Nat), wrongE ⟨t, n, k, o, p⟩ nx = x → Ending.returned (.int .i64 (x : Nat)) = .returned (.int .i64 (wrongE ⟨t, n, k, o, p⟩ nx : Nat)) := fun x h => by rw [h]
  have HC := Lib.hid close
  clear close
  by_cases h1 : t < 0
  · go_enter Try.func31, Try.ntmps31
    go_wp2
    go_ret
    exact ⟨HC.out 24 (by unfold wrongE; rw [if_pos (by dsimp only; omega)]), HB.out⟩
  by_cases h2 : 1073741824 < t
  · go_enter Try.func31, Try.ntmps31
    go_wp2
    go_ret
    exact ⟨HC.out 24 (by unfold wrongE; rw [if_pos (by dsimp only; omega)]), HB.out⟩
  by_cases h3 : k < 0
  · go_enter Try.func31, Try.ntmps31
    go_wp2
    go_ret
    exact ⟨HC.out 2 (by unfold wrongE; rw [if_neg (by dsimp only; omega), if_pos (by dsimp only; omega)]), HB.out⟩
  by_cases h4 : o < 0
  · go_enter Try.func31, Try.ntmps31
    go_wp2
    go_ret
    exact ⟨HC.out 2 (by unfold wrongE; rw [if_neg (by dsimp only; omega), if_pos (by dsimp only; omega)]), HB.out⟩
  by_cases h5 : n < 0
  · go_enter Try.func31, Try.ntmps31
    go_wp2
    go_ret
    exact ⟨HC.out 2 (by unfold wrongE; rw [if_neg (by dsimp only; omega), if_pos (by dsimp only; omega)]), HB.out⟩
  by_cases h6 : nx ≤ n
  · go_enter Try.func31, Try.ntmps31
    go_wp2
    go_ret
    exact ⟨HC.out 2 (by unfold wrongE; rw [if_neg (by dsimp only; omega), if_pos (by dsimp only; omega)]), HB.out⟩
  by_cases h7 : 4096 < p.length
  · have h7' : (4096 : Int) < p.length := by omega
    go_enter Try.func31, Try.ntmps31
    go_wp2
    go_ret
    exact ⟨HC.out 5 (by unfold wrongE; rw [if_neg (by dsimp only; omega), if_neg (by dsimp only; omega), if_pos h7]), HB.out⟩
  · have h7' : ¬ (4096 : Int) < p.length := by omega
    go_enter Try.func31, Try.ntmps31
    go_wp2
    go_ret
    exact ⟨HC.out 0 (by unfold wrongE; rw [if_neg (by dsimp only; omega), if_neg (by dsimp only; omega), if_neg h7]), HB.out⟩
theorem nan_any (x : Int) (w : World) : Calls Try.prog 49 #[.int .i64 x] w fun e w' => e = .returned (.bool false) ∧ w = w' := by
  go_enter Try.func49, Try.ntmps49
  go_wp2
  go_ret
  exact ⟨by simp, rfl⟩
def cmpI (x y : Int) : Int := if x < y then -1 else if y < x then 1 else 0
theorem cmp_any (x y : Int) (w : World) : Calls Try.prog 45 #[.int .i64 x, .int .i64 y] w fun e w' => e = .returned (.int .i64 (cmpI x y)) ∧ w = w' := by
  rcases Int.lt_trichotomy x y with h | h | h
  · go_enter Try.func45, Try.ntmps45
    go_wp2_with fail
    refine (nan_any _ _).mono ?_
    rintro e w1 ⟨rfl, rfl⟩
    go_wp2_with fail
    refine (nan_any _ _).mono ?_
    rintro e w1 ⟨rfl, rfl⟩
    go_wp2_with fail
    go_ret
    exact ⟨ret_int (by unfold cmpI; rw [if_pos h]), rfl⟩
  · subst h
    go_enter Try.func45, Try.ntmps45
    go_wp2_with fail
    refine (nan_any _ _).mono ?_
    rintro e w1 ⟨rfl, rfl⟩
    go_wp2_with fail
    refine (nan_any _ _).mono ?_
    rintro e w1 ⟨rfl, rfl⟩
    go_wp2_with fail
    go_ret
    exact ⟨ret_int (by unfold cmpI; simp), rfl⟩
  · have h' : ¬ x < y := by omega
    go_enter Try.func45, Try.ntmps45
    go_wp2_with fail
    refine (nan_any _ _).mono ?_
    rintro e w1 ⟨rfl, rfl⟩
    go_wp2_with fail
    refine (nan_any _ _).mono ?_
    rintro e w1 ⟨rfl, rfl⟩
    go_wp2_with fail
    go_ret
    exact ⟨ret_int (by unfold cmpI; rw [if_neg (by omega : ¬ x < y), if_pos h]), rfl⟩
end Go.Proofs.Ytknedclejhiegaa
