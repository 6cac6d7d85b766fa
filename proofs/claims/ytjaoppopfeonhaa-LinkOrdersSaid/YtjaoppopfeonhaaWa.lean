/- Words for flights in memory; the walks of between, config, Compare, Or. No condition. -/
import Derived.Test.YtjaoppopfeonhaaRows
import Derived.Test.YtjaoppopfeonhaaMath
import Derived.Test.YtjaoppopfeonhaaLibC
import Derived.Test.YtjaoppopfeonhaaLibE
namespace Go.Proofs.Ytjaoppopfeonhaa
open Go.RowKit
/-- an event in memory -/
structure Ev where
  t : Int
  n : Int
  A : Option Addr
  c : Nat
  p : List Nat
def evC (t n : Int) (A : Option Addr) (m c : Nat) : Array Value := #[.int .i64 t, .int .i64 n, .slice A m c]
def encEv (e : Ev) : List Value := [.int .i64 e.t, .int .i64 e.n, .slice e.A e.p.length e.c]
theorem encEv_len (e : Ev) : (encEv e).length = 3 := rfl
def Ev.em (e : Ev) : Em := ⟨e.t, e.n, e.p⟩
def EvR (w : World) (e : Ev) : Prop := Reads w w.heap.size 1 e.A e.p.length (u8s e.p)
theorem EvR.up {w w' : World} {e : Ev} (h : EvR w e) (hb : Below w.heap.size w w') : EvR w' e := Reads.up h hb
/-- a slice of events -/
structure Evs (w : World) (A : Option Addr) (n : Nat) (l : List Ev) : Prop where
  rd : Reads w w.heap.size 3 A n (l.flatMap encEv)
  ev : ∀ e ∈ l, EvR w e
theorem Evs.up {w w' : World} {A : Option Addr} {n : Nat} {l : List Ev} (h : Evs w A n l) (hb : Below w.heap.size w w') : Evs w' A n l := ⟨h.rd.up hb, fun e he => (h.ev e he).up hb⟩
theorem Evs.count {w : World} {A : Option Addr} {n : Nat} {l : List Ev} (h : Evs w A n l) : l.length = n := h.rd.count encEv_len (by omega)
theorem bcell {W w1 : World} (hb : Below W.heap.size W w1) : (∀ b o, b < W.heap.size → w1.cell? ⟨b, o, none⟩ = W.cell? ⟨b, o, none⟩) ∧ (∀ b o, b < W.heap.size → w1.frozen? ⟨b, o, none⟩ = W.frozen? ⟨b, o, none⟩) :=
  ⟨fun b o h => hb.cell (p := ⟨b, o, none⟩) h, fun b o h => hb.frozen (p := ⟨b, o, none⟩) h⟩
theorem info69b : (Try.prog.info? 69).map (fun i => (i.zero, i.size, i.bytes)) = some (some (.agg #[.int .i64 0, .int .i64 0, .slice none 0 0]), 3, 40) := by kernel_rfl
theorem info5b : (Try.prog.info? 5).map (fun i => (i.zero, i.size, i.bytes)) = some (some (.int .u8 0), 1, 1) := by kernel_rfl
theorem info3b : (Try.prog.info? 3).map (fun i => (i.zero, i.size, i.bytes)) = some (some (.int .i64 0), 1, 8) := by kernel_rfl
theorem u8s_len (l : List Nat) : (u8s l).length = l.length := by simp [u8s]
theorem u8s_one (l : List Nat) : ∀ u ∈ u8s l, u.oneCell' = true := by
  intro u hu
  obtain ⟨x, _, rfl⟩ := List.mem_map.1 hu
  rfl
theorem encEv_one (l : List Ev) : ∀ u ∈ l.flatMap encEv, u.oneCell' = true := by
  intro u hu
  obtain ⟨e, _, he⟩ := List.mem_flatMap.1 hu
  simp only [encEv, List.mem_cons, List.not_mem_nil, or_false] at he
  rcases he with rfl | rfl | rfl <;> rfl
theorem Evs.cells {w : World} {A : Option Addr} {n : Nat} {l : List Ev} (h : Evs w A n l) (hn : 0 < n) : ∃ b off, A = some ⟨b, off, none⟩ ∧ b < w.heap.size ∧ ∀ (k : Nat) (e : Ev), l[k]? = some e →
    w.cell? ⟨b, off + k * 3, none⟩ = some (.int .i64 e.t) ∧ w.cell? ⟨b, off + k * 3 + 1, none⟩ = some (.int .i64 e.n) ∧ w.cell? ⟨b, off + k * 3 + 2, none⟩ = some (.slice e.A e.p.length e.c) := by
  obtain ⟨b, off, hA, hb, hc⟩ := h.rd.elems encEv_len (by omega) hn
  refine ⟨b, off, hA, hb, fun k e hk => ?_⟩
  obtain ⟨hk1, rfl⟩ := List.getElem?_eq_some_iff.1 hk
  refine ⟨hc k hk1 0 _ rfl, ?_, ?_⟩
  · rw [Nat.add_assoc]; exact hc k hk1 1 _ rfl
  · rw [Nat.add_assoc]; exact hc k hk1 2 _ rfl
theorem ret_int {a b : Int} (h : a = b) : Ending.returned (.int .i64 a) = .returned (.int .i64 b) := by rw [h]
theorem betw_any (x lo hi : Int) {b : Bool} (hb : decide (lo ≤ x ∧ x ≤ hi) = b) (w : World) : Calls Try.prog 35 #[.int .i64 x, .int .i64 lo, .int .i64 hi] w fun e w' => e = .returned (.bool b) ∧ w' = w := by
  subst hb
  by_cases h1 : lo ≤ x
  · by_cases h2 : x ≤ hi
    · go_enter Try.func35, Try.ntmps35
      go_wp2
      go_ret
      exact ⟨by simp [h1, h2], rfl⟩
    · go_enter Try.func35, Try.ntmps35
      go_wp2
      go_ret
      exact ⟨by simp [h2], rfl⟩
  · go_enter Try.func35, Try.ntmps35
    go_wp2
    go_ret
    exact ⟨by simp; omega, rfl⟩
theorem config_any (mi ma ra : Int) (w : World) : Calls Try.prog 33 #[.agg #[.int .i64 mi, .int .i64 ma, .int .i64 ra]] w fun e w' => e = .returned (.int .i64 (cfgE mi ma ra : Nat)) ∧ Below w.heap.size w w' := by
  have hb : Below w.heap.size w (w.alloc (.cells #[.int .i64 mi, .int .i64 ma, .int .i64 ra] 23)) := (Below.refl _ _).alloc (Nat.le_refl _) _
  have HB := Lib.hid hb
  clear hb
  by_cases h1 : 0 ≤ ma ∧ ma ≤ 1073741824
  · have H1 := Lib.hid h1
    clear h1
    by_cases h2 : 0 ≤ mi ∧ mi ≤ ma
    · have H2 := Lib.hid h2
      clear h2
      by_cases h3 : 0 ≤ ra ∧ ra ≤ 65536
      · have H3 := Lib.hid h3
        clear h3
        have HC : Hid (cfgE mi ma ra = 0) := by show _ = _; unfold cfgE; rw [if_neg (by have := H1.out; have := H2.out; have := H3.out; omega)]
        generalize cfgE mi ma ra = r at *
        have hc := HC.out
        subst hc
        go_enter Try.func33, Try.ntmps33
        go_wp2_with fail
        refine (betw_any _ _ _ (decide_eq_true H1.out) _).mono ?_
        rintro e w1 ⟨rfl, rfl⟩
        go_wp2_with fail
        refine (betw_any _ _ _ (decide_eq_true H2.out) _).mono ?_
        rintro e w1 ⟨rfl, rfl⟩
        go_wp2_with fail
        refine (betw_any _ _ _ (decide_eq_true H3.out) _).mono ?_
        rintro e w1 ⟨rfl, rfl⟩
        go_wp2_with fail
        go_ret
        exact ⟨rfl, HB.out⟩
      · have H3 := Lib.hid h3
        clear h3
        have HC : Hid (cfgE mi ma ra = 2) := by show _ = _; unfold cfgE; rw [if_pos (by have := H1.out; have := H2.out; have := H3.out; omega)]
        generalize cfgE mi ma ra = r at *
        have hc := HC.out
        subst hc
        go_enter Try.func33, Try.ntmps33
        go_wp2_with fail
        refine (betw_any _ _ _ (decide_eq_true H1.out) _).mono ?_
        rintro e w1 ⟨rfl, rfl⟩
        go_wp2_with fail
        refine (betw_any _ _ _ (decide_eq_true H2.out) _).mono ?_
        rintro e w1 ⟨rfl, rfl⟩
        go_wp2_with fail
        refine (betw_any _ _ _ (decide_eq_false H3.out) _).mono ?_
        rintro e w1 ⟨rfl, rfl⟩
        go_wp2_with fail
        go_ret
        exact ⟨rfl, HB.out⟩
    · have H2 := Lib.hid h2
      clear h2
      have HC : Hid (cfgE mi ma ra = 2) := by show _ = _; unfold cfgE; rw [if_pos (by have := H1.out; have := H2.out; omega)]
      generalize cfgE mi ma ra = r at *
      have hc := HC.out
      subst hc
      go_enter Try.func33, Try.ntmps33
      go_wp2_with fail
      refine (betw_any _ _ _ (decide_eq_true H1.out) _).mono ?_
      rintro e w1 ⟨rfl, rfl⟩
      go_wp2_with fail
      refine (betw_any _ _ _ (decide_eq_false H2.out) _).mono ?_
      rintro e w1 ⟨rfl, rfl⟩
      go_wp2_with fail
      go_ret
      exact ⟨rfl, HB.out⟩
  · have H1 := Lib.hid h1
    clear h1
    have HC : Hid (cfgE mi ma ra = 2) := by show _ = _; unfold cfgE; rw [if_pos (by have := H1.out; omega)]
    generalize cfgE mi ma ra = r at *
    have hc := HC.out
    subst hc
    go_enter Try.func33, Try.ntmps33
    go_wp2_with fail
    refine (betw_any _ _ _ (decide_eq_false H1.out) _).mono ?_
    rintro e w1 ⟨rfl, rfl⟩
    go_wp2_with fail
    go_ret
    exact ⟨rfl, HB.out⟩
theorem refconfig_any (mi ma ra : Int) (w : World) : Calls Try.prog 34 #[.agg #[.int .i64 mi, .int .i64 ma, .int .i64 ra]] w fun e w' => e = .returned (.int .i64 (cfgE mi ma ra : Nat)) ∧ Below w.heap.size w w' := by
  have hb : Below w.heap.size w (w.alloc (.cells #[.int .i64 mi, .int .i64 ma, .int .i64 ra] 23)) := (Below.refl _ _).alloc (Nat.le_refl _) _
  have HB := Lib.hid hb
  clear hb
  obtain ⟨r, hr⟩ : ∃ r, cfgE mi ma ra = r := ⟨_, rfl⟩
  rw [hr]
  unfold cfgE at hr
  have HR := Lib.hid hr
  clear hr
  by_cases h1 : mi < 0
  · have HC := HR.out
    rw [if_pos (by omega)] at HC
    subst HC
    clear HR
    go_enter Try.func34, Try.ntmps34
    go_wp2
    go_ret
    exact ⟨rfl, HB.out⟩
  by_cases h2 : ma < mi
  · have HC := HR.out
    rw [if_pos (by omega)] at HC
    subst HC
    clear HR
    go_enter Try.func34, Try.ntmps34
    go_wp2
    go_ret
    exact ⟨rfl, HB.out⟩
  by_cases h3 : 1073741824 < ma
  · have HC := HR.out
    rw [if_pos (by omega)] at HC
    subst HC
    clear HR
    go_enter Try.func34, Try.ntmps34
    go_wp2
    go_ret
    exact ⟨rfl, HB.out⟩
  by_cases h4 : ra < 0
  · have HC := HR.out
    rw [if_pos (by omega)] at HC
    subst HC
    clear HR
    go_enter Try.func34, Try.ntmps34
    go_wp2
    go_ret
    exact ⟨rfl, HB.out⟩
  by_cases h5 : 65536 < ra
  · have HC := HR.out
    rw [if_pos (by omega)] at HC
    subst HC
    clear HR
    go_enter Try.func34, Try.ntmps34
    go_wp2
    go_ret
    exact ⟨rfl, HB.out⟩
  · have HC := HR.out
    rw [if_neg (by omega)] at HC
    subst HC
    clear HR
    go_enter Try.func34, Try.ntmps34
    go_wp2
    go_ret
    exact ⟨rfl, HB.out⟩
theorem nan_any (x : Int) (w : World) : Calls Try.prog 50 #[.int .i64 x] w fun e w' => e = .returned (.bool false) ∧ w = w' := by
  go_enter Try.func50, Try.ntmps50
  go_wp2
  go_ret
  exact ⟨by simp, rfl⟩
def cmpI (x y : Int) : Int := if x < y then -1 else if y < x then 1 else 0
theorem cmp_any (x y : Int) (w : World) : Calls Try.prog 48 #[.int .i64 x, .int .i64 y] w fun e w' => e = .returned (.int .i64 (cmpI x y)) ∧ w = w' := by
  rcases Int.lt_trichotomy x y with h | h | h
  · go_enter Try.func48, Try.ntmps48
    go_wp2_with fail
    refine (nan_any _ _).mono ?_
    rintro e w1 ⟨rfl, rfl⟩
    go_wp2_with fail
    refine (nan_any _ _).mono ?_
    rintro e w1 ⟨rfl, rfl⟩
    go_wp2_with fail
    go_ret
    exact ⟨ret_int (by unfold cmpI; rw [if_pos h]), rfl⟩
  · subst h
    go_enter Try.func48, Try.ntmps48
    go_wp2_with fail
    refine (nan_any _ _).mono ?_
    rintro e w1 ⟨rfl, rfl⟩
    go_wp2_with fail
    refine (nan_any _ _).mono ?_
    rintro e w1 ⟨rfl, rfl⟩
    go_wp2_with fail
    go_ret
    exact ⟨ret_int (by unfold cmpI; simp), rfl⟩
  · have h' : ¬ x < y := by omega
    go_enter Try.func48, Try.ntmps48
    go_wp2_with fail
    refine (nan_any _ _).mono ?_
    rintro e w1 ⟨rfl, rfl⟩
    go_wp2_with fail
    refine (nan_any _ _).mono ?_
    rintro e w1 ⟨rfl, rfl⟩
    go_wp2_with fail
    go_ret
    exact ⟨ret_int (by unfold cmpI; rw [if_neg (by omega : ¬ x < y), if_pos h]), rfl⟩
def orI (x y : Int) : Int := if x = 0 then y else x
theorem cmp_still (x y : Int) (w : World) : Calls Try.prog 48 #[.int .i64 x, .int .i64 y] w fun e w' => e = .returned (.int .i64 (cmpI x y)) ∧ w' = w := (cmp_any x y w).mono fun _ _ ⟨a, b⟩ => ⟨a, b.symm⟩
theorem or_left {x : Int} (y : Int) (h : ¬ x = 0) : orI x y = x := by unfold orI; rw [if_neg h]
set_option maxHeartbeats 1000000 in
theorem Or_two (g : Nat) (x y : Int) (w : World) (h0 : w.cell? ⟨g, 0, none⟩ = some (.int .i64 x)) (h1 : w.cell? ⟨g, 1, none⟩ = some (.int .i64 y)) :
    Calls Try.prog 47 #[.slice (some ⟨g, 0, none⟩) 2 2] w fun e w' => e = .returned (.int .i64 (orI x y)) ∧ w = w' := by
  by_cases hx : x = 0
  · subst hx
    by_cases hy : y = 0
    · subst hy
      go_enter Try.func47, Try.ntmps47
      go_wp2_with fail
      go_loop [8] (fun i => ∃ k : Nat, k ≤ 2 ∧ i = .int .i64 k) (fun i => 2 - (intOf i).toNat)
      case atStart => exact ⟨0, by omega, rfl⟩
      case round =>
        obtain ⟨k, hk, rfl⟩ := hrel
        rcases (by omega : k = 0 ∨ k = 1 ∨ k = 2) with rfl | rfl | rfl
        · go_wp2_with fail
          go_round
          case rel => exact ⟨1, by omega, rfl⟩
          case measure => simp [intOf]
        · go_wp2_with fail
          go_round
          case rel => exact ⟨2, by omega, rfl⟩
          case measure => simp [intOf]
        · go_wp2_with fail
          go_ret
          exact ⟨by simp [orI], rfl⟩
    · have hy1 : (y != 0) = true := by simpa using hy
      go_enter Try.func47, Try.ntmps47
      go_wp2_with fail
      go_loop [8] (fun i => ∃ k : Nat, k ≤ 1 ∧ i = .int .i64 k) (fun i => 2 - (intOf i).toNat)
      case atStart => exact ⟨0, by omega, rfl⟩
      case round =>
        obtain ⟨k, hk, rfl⟩ := hrel
        rcases (by omega : k = 0 ∨ k = 1) with rfl | rfl
        · go_wp2_with fail
          go_round
          case rel => exact ⟨1, by omega, rfl⟩
          case measure => simp [intOf]
        · go_wp2_with fail
          go_ret
          exact ⟨by simp [orI], rfl⟩
  · have hx1 : (x != 0) = true := by simpa using hx
    have HO := Lib.hid (or_left y hx)
    go_enter Try.func47, Try.ntmps47
    go_wp2_with fail
    go_loop [8] (fun i => i = .int .i64 0) (fun i => 2 - (intOf i).toNat)
    case atStart => rfl
    case round =>
      subst hrel
      go_wp2_with fail
      go_ret
      exact ⟨ret_int HO.out.symm, rfl⟩
end Go.Proofs.Ytjaoppopfeonhaa
