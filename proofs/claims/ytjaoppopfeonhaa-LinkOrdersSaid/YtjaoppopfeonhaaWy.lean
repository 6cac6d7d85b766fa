/- The walk of fit; what runs are, as values. No condition. -/
import Derived.Test.YtjaoppopfeonhaaWx
import Derived.Test.YtjaoppopfeonhaaArgs
namespace Go.Proofs.Ytjaoppopfeonhaa
open Go.RowKit Go.ChangeShapes Go.WideShapes Go.Deep
def fitB (mi ma ra : Int) (ns nc : Nat) : Bool := decide (0 ≤ mi ∧ mi ≤ ma ∧ ma ≤ 100 ∧ 0 ≤ ra ∧ ra ≤ 100 ∧ ns ≤ 20 ∧ nc ≤ 100)
set_option linter.unusedSimpArgs false in
set_option maxRecDepth 100000 in
set_option maxHeartbeats 2000000 in
theorem fit_any (mi ma ra : Int) (As Ac : Option Addr) (ns cs nc cc : Nat) (w : World) :
    Calls Try.prog 21 #[.agg #[.int .i64 mi, .int .i64 ma, .int .i64 ra, .slice As ns cs, .slice Ac nc cc]] w fun e w' => e = .returned (.bool (fitB mi ma ra ns nc)) ∧ Below w.heap.size w w' := by
  have hb : Below w.heap.size w ((w.alloc (.cells #[.int .i64 mi, .int .i64 ma, .int .i64 ra, .slice As ns cs, .slice Ac nc cc] 49)).alloc (.cells #[.int .i64 mi, .int .i64 ma, .int .i64 ra] 23)) := ((Below.refl _ _).alloc (Nat.le_refl _) _).alloc (by simp) _
  have HB := Lib.hid hb
  clear hb
  obtain ⟨f, hf⟩ : ∃ f, fitB mi ma ra ns nc = f := ⟨_, rfl⟩
  rw [hf]
  unfold fitB at hf
  have HF := Lib.hid hf
  clear hf
  by_cases h1 : 0 ≤ mi
  rotate_left 1
  · have hv : f = false := by rw [← HF.out, decide_eq_false]; omega
    clear HF
    subst hv
    go_enter Try.func21, Try.ntmps21
    go_wp2
    go_ret
    exact ⟨by simp, HB.out⟩
  by_cases h2 : mi ≤ ma
  rotate_left 1
  · have hv : f = false := by rw [← HF.out, decide_eq_false]; omega
    clear HF
    subst hv
    go_enter Try.func21, Try.ntmps21
    go_wp2
    go_ret
    exact ⟨by simp, HB.out⟩
  by_cases h3 : ma ≤ 100
  rotate_left 1
  · have hv : f = false := by rw [← HF.out, decide_eq_false]; omega
    clear HF
    subst hv
    go_enter Try.func21, Try.ntmps21
    go_wp2
    go_ret
    exact ⟨by simp, HB.out⟩
  by_cases h4 : 0 ≤ ra
  rotate_left 1
  · have hv : f = false := by rw [← HF.out, decide_eq_false]; omega
    clear HF
    subst hv
    go_enter Try.func21, Try.ntmps21
    go_wp2
    go_ret
    exact ⟨by simp, HB.out⟩
  by_cases h5 : ra ≤ 100
  rotate_left 1
  · have hv : f = false := by rw [← HF.out, decide_eq_false]; omega
    clear HF
    subst hv
    go_enter Try.func21, Try.ntmps21
    go_wp2
    go_ret
    exact ⟨by simp, HB.out⟩
  by_cases h6 : (ns : Int) ≤ 20
  rotate_left 1
  · have hv : f = false := by rw [← HF.out, decide_eq_false]; omega
    clear HF
    subst hv
    go_enter Try.func21, Try.ntmps21
    go_wp2
    go_ret
    exact ⟨by simp, HB.out⟩
  by_cases h7 : (nc : Int) ≤ 100
  rotate_left 1
  · have hv : f = false := by rw [← HF.out, decide_eq_false]; omega
    clear HF
    subst hv
    go_enter Try.func21, Try.ntmps21
    go_wp2
    go_ret
    exact ⟨by simp, HB.out⟩
  have hv : f = true := by rw [← HF.out, decide_eq_true]; omega
  clear HF
  subst hv
  go_enter Try.func21, Try.ntmps21
  go_wp2
  go_ret
  exact ⟨by simp, HB.out⟩
/-- a step of a run -/
structure Sp where
  s : Nat
  t : Nat
def encSp (x : Sp) : List Value := [.int .u8 (x.s : Int), .int .u8 (x.t : Int)]
section
variable {H : Type} {enc : TypeId × Value → H} {w : World} {r : Reach} {b0 base : Nat} {spare : Nat → Bool} {held : Bool} {v : Value} {d : DataW H} {p : List MemPlace}
def Arg49 (w : World) (v : Value) : Prop := ∃ (mi ma ra : Int) (As : Option Addr) (ns c1 : Nat) (st : List Sp) (Ac : Option Addr) (cc : Nat) (cs : List Int), v = .agg #[.int .i64 mi, .int .i64 ma, .int .i64 ra, .slice As ns c1, .slice Ac (List.length cs) cc] ∧ Reads w w.heap.size 2 As ns (st.flatMap encSp) ∧ (∀ x ∈ st, x.s < 256 ∧ x.t < 256) ∧ ns ≤ c1 ∧ c1 ≤ maxLen ∧ Reads w w.heap.size 1 Ac cs.length (i64s cs) ∧ cs.length ≤ cc ∧ cc ≤ maxLen
theorem sps_of (xs : List (B8 × B8)) : (xs.flatMap fun x => [Value.int .u8 (x.1.1 : Int), .int .u8 (x.2.1 : Int)]) = (xs.map fun x => Sp.mk x.1.1 x.2.1).flatMap encSp := by
  rw [List.flatMap_map]; rfl
theorem arg49 (hv : Value.okWide Try.prog w r b0 49 v) (h : DataW.Trod enc Try.prog w base spare held 49 v d p) : Arg49 w v := by
  obtain ⟨cs, rfl, hl, hf⟩ := struct_fields Try.underlying49 hv h
  rw [cells49] at hl
  match cs, hl with
  | [c0, c1, c2, c3, c4], _ =>
    obtain ⟨m0, x0, g0⟩ := hf 0 _ rfl
    have h0 : DataW.trod enc Try.prog w base spare held m0 23 ((([c0, c1, c2, c3, c4] : List Value).drop 0).take (Try.prog.cellsOf 23)) = some x0 := g0
    obtain ⟨m1, x1, g1⟩ := hf 1 _ rfl
    have h1 : DataW.trod enc Try.prog w base spare held m1 47 ((([c0, c1, c2, c3, c4] : List Value).drop 3).take (Try.prog.cellsOf 47)) = some x1 := g1
    obtain ⟨m2, x2, g2⟩ := hf 2 _ rfl
    have h2 : DataW.trod enc Try.prog w base spare held m2 40 ((([c0, c1, c2, c3, c4] : List Value).drop 4).take (Try.prog.cellsOf 40)) = some x2 := g2
    rw [cells23] at h0
    rw [cells47] at h1
    rw [cells40] at h2
    obtain ⟨⟨a0, a1, a2⟩, e0⟩ := flat23 h0
    obtain ⟨A, n, c, xs, e1, hn, hc, hm, hr⟩ := flat_slice_cells flat58 cells58 (by omega) (fun a => rfl) Try.underlying47 h1
    obtain ⟨A', n', c', ys, e2, hn', hc', hm', hr'⟩ := flat_slice_cells (flat_i64 Try.underlying3) cells3 (by omega) (fun a => rfl) Try.underlying40 h2
    simp at e0 e1 e2
    obtain ⟨e00, e01, e02⟩ := e0
    subst e00 e01 e02 e1 e2
    rw [sps_of] at hr
    rw [i64_flat] at hr'
    have hl' : (ys.map (·.1)).length = n' := by rw [List.length_map, hn']
    refine ⟨a0.1, a1.1, a2.1, A, n, c, _, A', c', ys.map (·.1), by rw [hl'], hr, fun x hx => ?_, hc, hm, by rw [hl']; exact hr', by rw [hl']; exact hc', hm'⟩
    obtain ⟨y, _, rfl⟩ := List.mem_map.1 hx
    exact ⟨y.1.2, y.2.2⟩
def Arg59 (_ : World) (v : Value) : Prop := ∃ a : Nat, v = .int .u16 a ∧ a < 65536
theorem arg59 (hv : Value.okWide Try.prog w r b0 59 v) (h : DataW.Trod enc Try.prog w base spare held 59 v d p) : Arg59 w v := by
  obtain ⟨a, rfl, _, _, w0⟩ := open_int Try.underlying59 hv h
  have hb := bounds_u16 w0
  exact ⟨a.toNat, by simp [Int.toNat_of_nonneg hb.1], by omega⟩
end
end Go.Proofs.Ytjaoppopfeonhaa
