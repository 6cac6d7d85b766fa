/- The walk of Ancestor. No condition. -/
import Derived.Test.YthkajcioeemilaaWa
import Derived.BigRegion
namespace Go.Proofs.Ythkajcioeemilaa
open Go.RowKit
/-- the last cycle that two lineages have in common, and its epoch -/
def ancF : List Sp → List Sp → Int → Int → Int × Int
  | x :: a, y :: b, c, e => if x.e = y.e then (if x.t = y.t then ancF a b x.t x.e else (min x.t y.t, x.e)) else (c, e)
  | [], _, c, e => (c, e)
  | _ :: _, [], c, e => (c, e)
def ancL (a b : List Sp) : Int × Int := ancF a b 0 0
theorem ancF_right (a : List Sp) (c e : Int) : ancF a [] c e = (c, e) := by cases a <;> rfl
theorem min_run (a b n : Int) (h : n = min a b) : ∀ ts t w', (Builtin.min_ ts t #[.int .i64 a, .int .i64 b]).run Try.prog w' = .ok (.int .i64 n) w' := by
  intro ts t w'
  subst h
  simp [Builtin.min_, Builtin.min2]
  omega
set_option linter.unusedSimpArgs false in
set_option maxRecDepth 100000 in
set_option maxHeartbeats 8000000 in
theorem Ancestor_ok (w : World) (A B : Option Addr) (c d : Nat) (a b : List Sp) (hA : Reads w w.heap.size 3 A a.length (a.flatMap encSp)) (hB : Reads w w.heap.size 3 B b.length (b.flatMap encSp)) (ha : a.length ≤ 1000) (hb : b.length ≤ 1000) (ca : CorF 0 0 a) (cb : CorF 0 0 b) :
    Calls Try.prog 16 #[.slice A a.length c, .slice B b.length d] w fun x w' => x = .returned (.tuple #[.int .i64 (ancL a b).1, .int .i64 (ancL a b).2]) ∧ Below w.heap.size w w' := by
  have HX := Lib.hid (And.intro hA (And.intro hB (And.intro ca cb)))
  clear hA hB ca cb
  obtain ⟨n, hn⟩ : ∃ n : Int, n = min (a.length : Int) (b.length : Int) := ⟨_, rfl⟩
  have hmin := min_run _ _ _ hn
  have hnn : n ≤ a.length ∧ n ≤ b.length ∧ (n = a.length ∨ n = b.length) := by omega
  clear hn
  go_enter Try.func16, Try.ntmps16
  go_wp2_with fail
  refine (correct_ok w A c a HX.out.1 ha HX.out.2.2.1).mono ?_
  rintro z w1 ⟨rfl, hb1⟩
  go_wp2_with fail
  refine (correct_ok w1 B d b (HX.out.2.1.up hb1) hb HX.out.2.2.2).mono ?_
  rintro z w2 ⟨rfl, hb2⟩
  have HB2 := Lib.hid (hb1.trans (hb2.mono hb1.size))
  clear hb1 hb2
  go_wp2_with fail
  go_loopw [6, 7, 8] (fun u6 u7 u8 W => ∃ (k : Nat) (cy ep : Int), k ≤ a.length ∧ k ≤ b.length ∧ u8 = .int .i64 (k : Nat) ∧ u6 = .int .i64 cy ∧ u7 = .int .i64 ep ∧ ancF (a.drop k) (b.drop k) cy ep = ancL a b ∧ Below w.heap.size w W) (fun _ _ u8 _ => a.length + 1 - (intOf u8).toNat)
  case atStart => exact ⟨0, 0, 0, Nat.zero_le _, Nat.zero_le _, rfl, rfl, rfl, rfl, HB2.out⟩
  case round =>
    obtain ⟨k, cy, ep, hk, hk', rfl, rfl, rfl, han, hbel⟩ := hrel
    have HR := Lib.hid (And.intro han hbel)
    clear han hbel
    by_cases hlt : (k : Int) < n
    · have k1 : k < a.length := by omega
      have k2 : k < b.length := by omega
      have k1' : (k : Int) < a.length := by omega
      have k2' : (k : Int) < b.length := by omega
      obtain ⟨b1, o1, rfl, hb1, hc1⟩ := (HX.out.1.up HR.out.2).elems (E := encSp) (fun _ => rfl) (by omega) (by omega)
      obtain ⟨b2, o2, rfl, hb2, hc2⟩ := (HX.out.2.1.up HR.out.2).elems (E := encSp) (fun _ => rfl) (by omega) (by omega)
      have x0 := hc1 k k1 0 _ rfl
      have x2 := hc1 k k1 2 _ rfl
      have y0 := hc2 k k2 0 _ rfl
      have y2 := hc2 k k2 2 _ rfl
      clear hc1 hc2
      have HA := HR.out.1
      rw [List.drop_eq_getElem_cons k1, List.drop_eq_getElem_cons k2] at HA
      generalize a[k] = x at *
      generalize b[k] = y at *
      obtain ⟨xe, xf, xt⟩ := x
      obtain ⟨ye, yf, yt⟩ := y
      unfold ancF at HA
      dsimp only at x0 x2 y0 y2 HA
      rw [Nat.add_zero] at x0 y0
      simp only [← Nat.add_assoc] at x2 y2
      obtain ⟨m, hm⟩ : ∃ m : Int, m = min xt yt := ⟨_, rfl⟩
      have hmin2 := min_run _ _ _ hm
      by_cases he : xe = ye
      · subst he
        rw [if_pos rfl] at HA
        by_cases ht : xt = yt
        · subst ht
          rw [if_pos rfl] at HA
          obtain rfl : m = xt := by omega
          have HA := Lib.hid HA
          clear hm
          go_wp2_with fail
          go_region
          go_wp2_with fail
          go_region
          go_wp2_with fail
          go_region
          go_wp2_with fail
          go_roundw
          case rel => exact ⟨k + 1, m, xe, by omega, by omega, by go_num, rfl, rfl, HA.out, HR.out.2.drew.drew.drew⟩
          case measure => simp [intOf]; omega
        · rw [if_neg ht] at HA
          have HA := Lib.hid HA
          have HM := Lib.hid hm
          clear hm
          go_wp2_with fail
          go_region
          go_wp2_with fail
          go_region
          go_wp2_with fail
          go_region
          go_wp2_with fail
          refine bodyPost_ret (results_tmp2 rfl _ _ _) rfl ⟨?_, HR.out.2.drew.drew.drew⟩
          simp [← HA.out, ← HM.out]
      · rw [if_neg he] at HA
        have HA := Lib.hid HA
        clear hm
        go_wp2_with fail
        go_region
        go_wp2_with fail
        exact bodyPost_ret (results_tmp2 rfl _ _ _) rfl ⟨by simp [← HA.out], HR.out.2.drew⟩
    · have HA : ancL a b = (cy, ep) := by
        rw [← HR.out.1]
        by_cases k1 : k < a.length
        · rw [show b.drop k = [] from List.drop_eq_nil_of_le (by omega), ancF_right]
        · rw [show a.drop k = [] from List.drop_eq_nil_of_le (by omega)]
          rfl
      have HA := Lib.hid HA
      have hd : decide ((k : Int) < n) = false := decide_eq_false hlt
      go_wp2_with fail
      go_region
      go_wp2_with fail
      exact bodyPost_ret (results_tmp2 rfl _ _ _) rfl ⟨by simp [HA.out], HR.out.2.drew⟩
end Go.Proofs.Ythkajcioeemilaa
