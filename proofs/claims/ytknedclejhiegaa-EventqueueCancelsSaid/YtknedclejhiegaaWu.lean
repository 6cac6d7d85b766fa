/- The walks of few, numbers and added. Conditions: as named. -/
import Derived.Test.YtknedclejhiegaaWo
import Derived.Test.YtknedclejhiegaaMathB
import Derived.Test.YtknedclejhiegaaArgLibN
namespace Go.Proofs.Ytknedclejhiegaa
open Go.RowKit
/-- a queue's own two cells hold no event and no byte -/
theorem Evs.row_q {W : World} {X : Nat} {A a : Option Addr} {n b c : Nat} {k : Int} {l : List Ev} (h : Evs W A n l) (hb : Blk W X 24 #[.slice a b c, .int .i64 k]) (cs : Array Value) : Evs (W.setRow X cs) A n l := by
  refine h.row (fun ad h0 hA e => ?_) (fun e he ad h0 hA e9 => ?_) cs
  · obtain ⟨b1, off, hA1, _, hc⟩ := h.cells h0
    rw [hA] at hA1
    injection hA1 with hA1
    subst hA1
    have hl := h.count
    obtain ⟨c0, c1, c2, c3, c4⟩ := hc 0 _ (List.getElem?_eq_getElem (by omega))
    dsimp only at e
    subst e
    rw [hb.cell] at c4
    simp at c4
  · obtain ⟨b1, off, hA1, _, hc⟩ := Reads.plain (h.ev e he) h0 (by omega)
    rw [hA] at hA1
    injection hA1 with hA1
    subst hA1
    dsimp only at e9
    subst e9
    have h1 : (u8s e.p)[0]? = some (.int .u8 ((e.p[0]'h0 : Nat) : Int)) := by
      unfold u8s
      rw [List.getElem?_map, List.getElem?_eq_getElem h0]
      rfl
    have h2 := hc 0 _ h1
    rw [hb.cell] at h2
    rcases (by omega : off + 0 = 0 ∨ off + 0 = 1 ∨ 2 ≤ off + 0) with h3 | h3 | h3
    · rw [h3] at h2; simp at h2
    · rw [h3] at h2; simp at h2
    · rw [Array.getElem?_eq_none (by simp; omega)] at h2; cases h2
theorem QVal.row_q {W : World} {X : Nat} {a : Option Addr} {b c : Nat} {k nx : Int} {l : List Em} {v : Value} (h : QVal W l nx v) (hb : Blk W X 24 #[.slice a b c, .int .i64 k]) (cs : Array Value) : QVal (W.setRow X cs) l nx v := by
  obtain ⟨A, c, es, h1, h2, h3⟩ := h.val
  exact ⟨A, c, es, h1, h2.row_q hb cs, h3⟩
def fewB (l : List Em) : Bool := (l.take 100).all (fun e => decide (e.p.length ≤ 5000)) && decide (l.length ≤ 60)
theorem fewB_true {l : List Em} (h : fewB l = true) : l.length ≤ 60 ∧ ∀ e ∈ l, e.p.length ≤ 5000 := by
  unfold fewB at h
  rw [Bool.and_eq_true, decide_eq_true_eq, List.all_eq_true] at h
  obtain ⟨h1, h2⟩ := h
  refine ⟨h2, fun e he => ?_⟩
  have := h1 e (by rw [List.take_of_length_le (by omega)]; exact he)
  simpa using this
set_option maxRecDepth 100000 in
set_option maxHeartbeats 2000000 in
theorem few_any (A : Option Addr) (m c : Nat) (l : List Ev) (nx : Int) (w : World) (hR : Evs w A m l) (hm : m ≤ maxLen) :
    Calls Try.prog 11 #[.agg #[.slice A m c, .int .i64 nx]] w fun e w' => e = .returned (.bool (fewB (l.map Ev.em))) ∧ Below w.heap.size w w' := by
  have hlen := hR.count
  have hb0 : Below w.heap.size w (w.alloc (.cells #[.slice A m c, .int .i64 nx] 24)) := (Below.refl _ _).alloc (Nat.le_refl _) _
  have g0 := Blk.new w 24 #[.slice A m c, .int .i64 nx]
  have q0 : (w.alloc (.cells #[.slice A m c, .int .i64 nx] 24)).cell? ⟨w.heap.size, 0, none⟩ = some (.slice A m c) := g0.cell 0
  have HX := Lib.hid (And.intro (hR.up hb0) (And.intro hlen hb0))
  unfold maxLen at hm
  clear hR hlen hb0 g0
  go_enter Try.func11, Try.ntmps11
  go_wp2_with fail
  generalize (w.alloc (.cells #[.slice A m c, .int .i64 nx] 24)) = V at *
  go_loop [3] (fun u3 => ∃ k : Nat, k ≤ m ∧ k ≤ 100 ∧ u3 = .int .i64 (k : Nat) ∧ (∀ e ∈ (l.map Ev.em).take k, e.p.length ≤ 5000)) (fun u3 => m + 1 - (intOf u3).toNat)
  case atStart => exact ⟨0, by omega, by omega, rfl, by simp⟩
  case round =>
    obtain ⟨k, hk, hk1, rfl, hall⟩ := hrel
    have HA := Lib.hid hall
    clear hall
    by_cases hlt : k < m ∧ k < 100
    · obtain ⟨hlt, hlt1⟩ := hlt
      have hkl : k < l.length := by have := HX.out.2.1; omega
      have a1 : (k : Int) < m := by omega
      have a2 : (k : Int) < 100 := by omega
      obtain ⟨b, off, rfl, _, hc⟩ := HX.out.1.cells (by omega)
      obtain ⟨_, _, _, _, d4⟩ := hc k _ (List.getElem?_eq_getElem hkl)
      have HS : Hid ((l.map Ev.em).take (k + 1) = (l.map Ev.em).take k ++ [l[k].em]) := by
        show _ = _
        rw [List.take_add_one, List.getElem?_map, List.getElem?_eq_getElem hkl]
        rfl
      clear hc
      generalize hlk : l[k] = ev at *
      obtain ⟨xt, xn, xk, xo, xA, xc, xp⟩ := ev
      dsimp only at d4
      dsimp only [Ev.em] at HS
      clear hlk
      by_cases hp : 5000 < xp.length
      · have hp' : (5000 : Int) < xp.length := by omega
        have HF : Hid (fewB (l.map Ev.em) = false) := by
          show _ = _
          rw [Bool.eq_false_iff]
          intro h
          have h1 := h
          unfold fewB at h1
          rw [Bool.and_eq_true, List.all_eq_true] at h1
          have h2 := h1.1 ⟨xt, xn, xk, xo, xp⟩ (by
            have h3 : (⟨xt, xn, xk, xo, xp⟩ : Em) ∈ (l.map Ev.em).take (k + 1) := by rw [HS.out]; simp
            exact List.mem_of_mem_take (i := k + 1) (by rw [List.take_take, show min (k + 1) 100 = k + 1 by omega]; exact h3))
          simp at h2
          omega
        go_wp2_with fail
        go_ret
        exact ⟨by rw [HF.out]; rfl, HX.out.2.2⟩
      · have hp' : ¬ (5000 : Int) < xp.length := by omega
        go_wp2_with fail
        go_round
        case rel =>
          refine ⟨k + 1, by omega, by omega, by go_num, fun e he => ?_⟩
          rw [HS.out] at he
          rcases List.mem_append.1 he with he | he
          · exact HA.out e he
          · rw [List.mem_singleton] at he
            rw [he]
            dsimp only
            omega
        case measure => simp [intOf]; omega
    · have HF : Hid (fewB (l.map Ev.em) = decide ((m : Int) ≤ 60)) := by
        show _ = _
        have hl : (l.map Ev.em).length = m := by rw [List.length_map]; exact HX.out.2.1
        have h1 : ((l.map Ev.em).take 100).all (fun e => decide (e.p.length ≤ 5000)) = true := by
          rw [List.all_eq_true]
          intro e he
          have h2 : (l.map Ev.em).take 100 = (l.map Ev.em).take k := by
            rcases (by omega : k = m ∨ k = 100) with rfl | rfl
            · rw [List.take_of_length_le (i := k) (by omega), List.take_of_length_le (by omega)]
            · rfl
          rw [h2] at he
          exact decide_eq_true (HA.out e he)
        unfold fewB
        rw [h1, Bool.true_and, hl]
        exact decide_eq_decide.2 (by omega)
      rcases (by omega : ¬ k < m ∨ (k < m ∧ k = 100)) with h | ⟨h, rfl⟩
      · have a1 : ¬ (k : Int) < m := by omega
        clear hlt
        go_wp2_with fail
        go_ret
        exact ⟨by rw [HF.out]; rfl, HX.out.2.2⟩
      · have a1 : (100 : Int) < m := by omega
        have a3 : ¬ (m : Int) ≤ 60 := by omega
        clear hlt
        go_wp2_with fail
        go_ret
        exact ⟨by rw [HF.out, decide_eq_false (by omega : ¬ (m : Int) ≤ 60)]; rfl, HX.out.2.2⟩
end Go.Proofs.Ytknedclejhiegaa
