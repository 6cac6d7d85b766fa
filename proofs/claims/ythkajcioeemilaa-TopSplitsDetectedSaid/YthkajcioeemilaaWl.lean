/- The walks of splitbrain.end, Fork, diverged. Conditions: lineages in order; of diverged: two primaries, of two epochs. -/
import Derived.Test.YthkajcioeemilaaWd
namespace Go.Proofs.Ythkajcioeemilaa
open Go.RowKit
set_option linter.unusedSimpArgs false in
set_option maxRecDepth 100000 in
set_option maxHeartbeats 4000000 in
theorem sbend_ok (w : World) (A : Option Addr) (c : Nat) (l : List Sp) (hR : Reads w w.heap.size 3 A l.length (l.flatMap encSp)) (hn : l.length ≤ 1000) (hc : CorF 0 0 l) : Calls Try.prog 15 #[.slice A l.length c] w fun x w' => x = .returned (.tuple #[.int .i64 (hdS l).t, .bool true]) ∧ Below w.heap.size w w' := by
  have han : ancL l l = ((hdS l).t, (hdS l).e) := by
    unfold ancL
    rw [anc_self]
    split
    · rename_i h; subst h; rfl
    · rfl
  have HA := Ancestor_ok w A A c c l l hR hR hn hn hc hc
  rw [han] at HA
  dsimp only at HA
  have hpo : l.length = 0 ∨ 0 < (hdS l).t := by
    rcases Nat.eq_zero_or_pos l.length with h | h
    · exact .inl h
    · exact .inr (hdS_pos hc (Int.le_refl _) (fun e => by rw [e] at h; exact absurd h (by simp))).1
  clear han hR hc
  generalize (hdS l).t = t at *
  generalize (hdS l).e = e at *
  rcases hpo with h0 | h0
  · rw [h0] at HA ⊢
    clear hn h0
    go_enter Try.func15, Try.ntmps15
    go_wp2_with fail
    refine HA.mono ?_
    rintro z w1 ⟨rfl, hb1⟩
    go_wp2_with fail
    exact bodyPost_ret (results_tmp2 rfl _ _ _) rfl ⟨rfl, hb1⟩
  · by_cases hl : l.length = 0
    · rw [hl] at HA ⊢
      clear hn hl
      go_enter Try.func15, Try.ntmps15
      go_wp2_with fail
      refine HA.mono ?_
      rintro z w1 ⟨rfl, hb1⟩
      go_wp2_with fail
      exact bodyPost_ret (results_tmp2 rfl _ _ _) rfl ⟨rfl, hb1⟩
    · have kz : (((l.length : Nat) : Int) == 0) = false := by rw [beq_eq_false_iff_ne]; omega
      generalize l.length = n at *
      go_enter Try.func15, Try.ntmps15
      go_wp2_with fail
      refine HA.mono ?_
      rintro z w1 ⟨rfl, hb1⟩
      go_wp2_with fail
      exact bodyPost_ret (results_tmp2 rfl _ _ _) rfl ⟨rfl, hb1⟩
/-- both have cycles beyond the last one in common -/
def forkB (a b : List Sp) : Bool := decide ((ancL a b).1 < (hdS a).t ∧ (ancL a b).1 < (hdS b).t)
set_option linter.unusedSimpArgs false in
set_option maxRecDepth 100000 in
set_option maxHeartbeats 4000000 in
theorem Fork_ok (w : World) (A B : Option Addr) (c d : Nat) (a b : List Sp) (hA : Reads w w.heap.size 3 A a.length (a.flatMap encSp)) (hB : Reads w w.heap.size 3 B b.length (b.flatMap encSp)) (ha : a.length ≤ 1000) (hb : b.length ≤ 1000) (ca : CorF 0 0 a) (cb : CorF 0 0 b) :
    Calls Try.prog 6 #[.slice A a.length c, .slice B b.length d] w fun x w' => x = .returned (.tuple #[.int .i64 (ancL a b).1, .bool (forkB a b)]) ∧ Below w.heap.size w w' := by
  have HX := Lib.hid (And.intro hA (And.intro hB (And.intro ca cb)))
  have HF : Hid (forkB a b = decide ((ancL a b).1 < (hdS a).t ∧ (ancL a b).1 < (hdS b).t)) := rfl
  clear hA hB ca cb
  have HN := Ancestor_ok (A := A) (B := B) (c := c) (d := d) (a := a) (b := b) (ha := ha) (hb := hb) (ca := HX.out.2.2.1) (cb := HX.out.2.2.2)
  obtain ⟨⟨q, q2⟩, hq⟩ : ∃ p, ancL a b = p := ⟨_, rfl⟩
  simp only [hq] at HF HN ⊢
  clear hq
  have HN := Lib.hid HN
  go_enter Try.func6, Try.ntmps6
  go_wp2_with fail
  refine (sbend_ok w A c a HX.out.1 ha HX.out.2.2.1).mono ?_
  rintro z w1 ⟨rfl, hb1⟩
  go_wp2_with fail
  refine (sbend_ok w1 B d b (HX.out.2.1.up hb1) hb HX.out.2.2.2).mono ?_
  rintro z w2 ⟨rfl, hb2⟩
  have hb2 := hb1.trans (hb2.mono hb1.size)
  clear hb1
  go_wp2_with fail
  refine (HN.out w2 (HX.out.1.up hb2) (HX.out.2.1.up hb2)).mono ?_
  rintro z w3 ⟨rfl, hb3⟩
  have hb3 := hb2.trans (hb3.mono hb2.size)
  clear hb2
  generalize (hdS a).t = ta at *
  generalize (hdS b).t = tb at *
  by_cases h1 : q < ta
  · by_cases h2 : q < tb
    · have HF := Lib.hid (show forkB a b = true by rw [HF.out]; simp [h1, h2])
      go_wp2_with fail
      exact bodyPost_ret (results_tmp2 rfl _ _ _) rfl ⟨by simp [HF.out], hb3⟩
    · have HF := Lib.hid (show forkB a b = false by rw [HF.out]; simp [h2])
      have hd2 : decide (q < tb) = false := decide_eq_false h2
      go_wp2_with fail
      exact bodyPost_ret (results_tmp2 rfl _ _ _) rfl ⟨by simp [HF.out], hb3⟩
  · have HF := Lib.hid (show forkB a b = false by rw [HF.out]; simp [h1])
    have hd1 : decide (q < ta) = false := decide_eq_false h1
    go_wp2_with fail
    exact bodyPost_ret (results_tmp2 rfl _ _ _) rfl ⟨by simp [HF.out], hb3⟩
end Go.Proofs.Ythkajcioeemilaa
