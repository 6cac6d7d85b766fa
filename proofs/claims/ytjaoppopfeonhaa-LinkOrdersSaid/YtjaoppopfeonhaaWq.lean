/- The walks of few and awake. No condition. -/
import Derived.Test.YtjaoppopfeonhaaWp
namespace Go.Proofs.Ytjaoppopfeonhaa
open Go.RowKit
def fewB (l : List Em) : Bool := (l.take 100).all (fun e => decide (e.p.length ≤ 100)) && decide (l.length ≤ 40)
theorem fewB_true {l : List Em} (h : fewB l = true) : l.length ≤ 40 ∧ ∀ e ∈ l, e.p.length ≤ 100 := by
  unfold fewB at h
  rw [Bool.and_eq_true, decide_eq_true_eq, List.all_eq_true] at h
  obtain ⟨h1, h2⟩ := h
  refine ⟨h2, fun e he => ?_⟩
  have := h1 e (by rw [List.take_of_length_le (by omega)]; exact he)
  simpa using this
set_option maxRecDepth 100000 in
set_option maxHeartbeats 2000000 in
theorem few_any (A : Option Addr) (m c : Nat) (mi ma ra : Int) (dn : Bool) (id nx : Int) (l : List Ev) (w : World) (hR : Evs w A m l) (hm : m ≤ maxLen) :
    Calls Try.prog 11 #[.agg #[.int .i64 mi, .int .i64 ma, .int .i64 ra, .bool dn, .int .i64 id, .int .i64 nx, .slice A m c]] w fun e w' => e = .returned (.bool (fewB (l.map Ev.em))) ∧ Below w.heap.size w w' := by
  have hlen := hR.count
  have hb0 : Below w.heap.size w (w.alloc (.cells #[.int .i64 mi, .int .i64 ma, .int .i64 ra, .bool dn, .int .i64 id, .int .i64 nx, .slice A m c] 26)) := (Below.refl _ _).alloc (Nat.le_refl _) _
  have g0 := Blk.new w 26 #[.int .i64 mi, .int .i64 ma, .int .i64 ra, .bool dn, .int .i64 id, .int .i64 nx, .slice A m c]
  have q0 : (w.alloc (.cells #[.int .i64 mi, .int .i64 ma, .int .i64 ra, .bool dn, .int .i64 id, .int .i64 nx, .slice A m c] 26)).cell? ⟨w.heap.size, 6, none⟩ = some (.slice A m c) := g0.cell 6
  have HX := Lib.hid (And.intro (hR.up hb0) (And.intro hlen hb0))
  unfold maxLen at hm
  clear hR hlen hb0 g0
  go_enter Try.func11, Try.ntmps11
  go_wp2_with fail
  generalize (w.alloc (.cells #[.int .i64 mi, .int .i64 ma, .int .i64 ra, .bool dn, .int .i64 id, .int .i64 nx, .slice A m c] 26)) = V at *
  go_loop [3] (fun u3 => ∃ k : Nat, k ≤ m ∧ k ≤ 100 ∧ u3 = .int .i64 (k : Nat) ∧ (∀ e ∈ (l.map Ev.em).take k, e.p.length ≤ 100)) (fun u3 => m + 1 - (intOf u3).toNat)
  case atStart => exact ⟨0, by omega, by omega, rfl, by simp⟩
  case round =>
    obtain ⟨k, hk, hk1, rfl, hall⟩ := hrel
    have HA := Lib.hid hall
    clear hall
    by_cases hlt : k < m ∧ k < 100
    · obtain ⟨hlt, hlt1⟩ := hlt
      have hkl : k < l.length := by have := HX.out.2.1; omega
      have a1 : (k : Int) < m := by omega
      have a2 : (k : Int) < 100 := by omega
      obtain ⟨b, off, rfl, _, hc⟩ := HX.out.1.cells (by omega)
      obtain ⟨_, _, d4⟩ := hc k _ (List.getElem?_eq_getElem hkl)
      have HS : Hid ((l.map Ev.em).take (k + 1) = (l.map Ev.em).take k ++ [l[k].em]) := by
        show _ = _
        rw [List.take_add_one, List.getElem?_map, List.getElem?_eq_getElem hkl]
        rfl
      clear hc
      generalize hlk : l[k] = ev at *
      obtain ⟨xt, xn, xA, xc, xp⟩ := ev
      dsimp only at d4
      dsimp only [Ev.em] at HS
      clear hlk
      by_cases hp : 100 < xp.length
      · have hp' : (100 : Int) < xp.length := by omega
        have HF : Hid (fewB (l.map Ev.em) = false) := by
          show _ = _
          rw [Bool.eq_false_iff]
          intro h
          have h1 := h
          unfold fewB at h1
          rw [Bool.and_eq_true, List.all_eq_true] at h1
          have h2 := h1.1 ⟨xt, xn, xp⟩ (by
            have h3 : (⟨xt, xn, xp⟩ : Em) ∈ (l.map Ev.em).take (k + 1) := by rw [HS.out]; simp
            exact List.mem_of_mem_take (i := k + 1) (by rw [List.take_take, show min (k + 1) 100 = k + 1 by omega]; exact h3))
          simp at h2
          omega
        go_wp2_with fail
        go_ret
        exact ⟨by rw [HF.out]; rfl, HX.out.2.2⟩
      · have hp' : ¬ (100 : Int) < xp.length := by omega
        go_wp2_with fail
        go_round
        case rel =>
          refine ⟨k + 1, by omega, by omega, by go_num, fun e he => ?_⟩
          rw [HS.out] at he
          rcases List.mem_append.1 he with he | he
          · exact HA.out e he
          · rw [List.mem_singleton] at he
            rw [he]
            dsimp only
            omega
        case measure => simp [intOf]; omega
    · have HF : Hid (fewB (l.map Ev.em) = decide ((m : Int) ≤ 40)) := by
        show _ = _
        have hl : (l.map Ev.em).length = m := by rw [List.length_map]; exact HX.out.2.1
        have h1 : ((l.map Ev.em).take 100).all (fun e => decide (e.p.length ≤ 100)) = true := by
          rw [List.all_eq_true]
          intro e he
          have h2 : (l.map Ev.em).take 100 = (l.map Ev.em).take k := by
            rcases (by omega : k = m ∨ k = 100) with rfl | rfl
            · rw [List.take_of_length_le (i := k) (by omega), List.take_of_length_le (by omega)]
            · rfl
          rw [h2] at he
          exact decide_eq_true (HA.out e he)
        unfold fewB
        rw [h1, Bool.true_and, hl]
        exact decide_eq_decide.2 (by omega)
      rcases (by omega : ¬ k < m ∨ (k < m ∧ k = 100)) with h | ⟨h, rfl⟩
      · have a1 : ¬ (k : Int) < m := by omega
        clear hlt
        go_wp2_with fail
        go_ret
        exact ⟨by rw [HF.out]; rfl, HX.out.2.2⟩
      · have a1 : (100 : Int) < m := by omega
        have a3 : ¬ (m : Int) ≤ 40 := by omega
        clear hlt
        go_wp2_with fail
        go_ret
        exact ⟨by rw [HF.out, decide_eq_false (by omega : ¬ (m : Int) ≤ 40)]; rfl, HX.out.2.2⟩

theorem mod1 : sendM ⟨1, 3, 4, false, 0, 0, []⟩ 10 [1, 2, 3, 4, 5, 6] [0, 2] = ⟨⟨1, 3, 4, false, 12, 1, [⟨15, 0, [1, 2, 3, 4, 5, 6]⟩]⟩, [], 0⟩ := by rfl
theorem mod2 : sendM ⟨1, 3, 4, false, 12, 1, [⟨15, 0, [1, 2, 3, 4, 5, 6]⟩]⟩ 10 [7] [2, 0, 1] = ⟨⟨1, 3, 4, false, 13, 3, [⟨14, 1, [7]⟩, ⟨15, 0, [1, 2, 3, 4, 5, 6]⟩, ⟨15, 2, [7]⟩]⟩, [], 0⟩ := by rfl
theorem mod3 : sendM ⟨1, 3, 4, false, 13, 3, [⟨14, 1, [7]⟩, ⟨15, 0, [1, 2, 3, 4, 5, 6]⟩, ⟨15, 2, [7]⟩]⟩ 10 [] [1, 7] = ⟨⟨1, 3, 4, false, 13, 3, [⟨14, 1, [7]⟩, ⟨15, 0, [1, 2, 3, 4, 5, 6]⟩, ⟨15, 2, [7]⟩]⟩, [7], 0⟩ := by rfl
theorem mod4 : delivM ⟨1, 3, 4, false, 13, 3, [⟨14, 1, [7]⟩, ⟨15, 0, [1, 2, 3, 4, 5, 6]⟩, ⟨15, 2, [7]⟩]⟩ 15 = (⟨1, 3, 4, false, 13, 3, []⟩, [[7], [1, 2, 3, 4, 5, 6], [7]]) := by rfl
theorem modN : newC 1 3 4 = lkC 1 3 4 false 0 0 none 0 0 := by rfl
theorem cfgN : cfgE 1 3 4 = 0 := by rfl
theorem i64s_new (w : World) (l : List Int) : Reads (w.alloc (.cells (i64s l).toArray 3)) (w.alloc (.cells (i64s l).toArray 3)).heap.size 1 (some ⟨w.heap.size, 0, none⟩) l.length (i64s l) := by
  have h := (Blk.new w 3 (i64s l).toArray).reads (size := 1) (n := l.length) (by simp [i64s])
  simpa using h
theorem u8s_new (w : World) (l : List Nat) : Reads (w.alloc (.cells (u8s l).toArray 5)) (w.alloc (.cells (u8s l).toArray 5)).heap.size 1 (some ⟨w.heap.size, 0, none⟩) l.length (u8s l) := by
  have h := (Blk.new w 5 (u8s l).toArray).reads (size := 1) (n := l.length) (by simp [u8s])
  simpa using h
end Go.Proofs.Ytjaoppopfeonhaa
