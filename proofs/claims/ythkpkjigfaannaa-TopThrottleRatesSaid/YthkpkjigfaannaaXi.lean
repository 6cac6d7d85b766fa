/- The walks of caseThrottled and of the law TopThrottlePlanned. No condition. -/
import Derived.Test.YthkpkjigfaannaaXb
import Derived.Test.YthkpkjigfaannaaXh
import Derived.Test.YthkpkjigfaannaaArgsB
import Derived.Deep.CutRange
namespace Go.Proofs.Ythkpkjigfaannaa
open Go.RowKit Go.ChangeShapes Go.WideShapes Go.Deep
def Arg58 (w : World) (v : Value) : Prop := ∃ (A : Option Addr) (n c : Nat) (l : List Int), v = .slice A n c ∧ RdI w A n l ∧ n ≤ c ∧ c ≤ maxLen
set_option maxRecDepth 100000 in
theorem arg58 {H : Type} {enc : TypeId × Value → H} {w : World} {r : Reach} {b0 base : Nat} {spare : Nat → Bool} {held : Bool} {v : Value} {d : DataW H} {p : List MemPlace}
    (hv : Value.okWide Try.prog w r b0 58 v) (h : DataW.Trod enc Try.prog w base spare held 58 v d p) : Arg58 w v := by
  obtain ⟨A, n, cap, xs, rfl, _, h2, h3, h4⟩ := flat_slice (flat_i64 Try.underlying3) cells3 (by omega) (fun _ => rfl) Try.underlying58 hv h
  refine ⟨A, n, cap, xs.map Subtype.val, rfl, ?_, h2, h3⟩
  unfold RdI
  rw [List.flatMap_map]
  exact h4
theorem rdI_new (w : World) (l : List Int) : RdI (w.alloc (.cells (l.map (Value.int .i64)).toArray 3)) (some ⟨w.heap.size, 0, none⟩) l.length l := by
  have h := (Blk.new w 3 (l.map (Value.int .i64)).toArray).reads (size := 1) (n := l.length) (by simp)
  unfold RdI
  rw [flat_i']
  exact h
set_option maxRecDepth 100000 in
set_option maxHeartbeats 2000000 in
theorem caseThrottled_any (w : World) : Calls Try.prog 25 #[] w fun e w' => e = .returned (.bool true) ∧ Below w.heap.size w w' := by
  have h6 := fun w9 (hR : RdI w9 (some ⟨w.heap.size, 0, none⟩) 1 [6]) => caserun_any 3 2 (some ⟨w.heap.size, 0, none⟩) 1 1 [6] w9 hR (by omega) (fun x hx => by simp at hx; omega) (by omega) (by omega)
  have h7 := fun p w9 (hR : RdI w9 (some ⟨p, 0, none⟩) 3 [6, 1, 5]) => caserun_any 3 2 (some ⟨p, 0, none⟩) 3 3 [6, 1, 5] w9 hR (by omega) (fun x hx => by simp at hx; omega) (by omega) (by omega)
  obtain ⟨q1, q2⟩ := run_six
  obtain ⟨q3, q4⟩ := run_more
  change (runN [6] 3 2 (4 * 1 + 400)).free = true at q1
  change (runN [6] 3 2 (4 * 1 + 400)).old ≤ 3 at q2
  change (runN [6, 1, 5] 3 2 (4 * 3 + 400)).free = false at q3
  change (runN [6, 1, 5] 3 2 (4 * 3 + 400)).old ≤ 3 at q4
  rw [q1] at h6
  rw [q3] at h7
  generalize (runN [6] 3 2 (4 * 1 + 400)).old = o1 at *
  generalize (runN [6, 1, 5] 3 2 (4 * 3 + 400)).old = o2 at *
  have H6 := Lib.hid h6
  have H7 := Lib.hid h7
  clear h6 h7 q1 q3
  go_enter Try.func25, Try.ntmps25
  go_wp2_with fail
  refine (H6.out _ (rdI_new w [6])).mono ?_
  rintro e w1 ⟨rfl, hb1⟩
  have hb0 : Below w.heap.size w w1 := ((Below.refl _ w).alloc (Nat.le_refl _) _).trans (hb1.mono (by simp))
  clear hb1
  go_wp2_with fail
  refine (H7.out _ _ (rdI_new w1 [6, 1, 5])).mono ?_
  rintro e w2 ⟨rfl, hb2⟩
  have hb3 : Below w.heap.size w w2 := (hb0.alloc hb0.size _).trans (hb2.mono (by rw [World.size_alloc]; exact Nat.le_succ_of_le hb0.size))
  have HB := Lib.hid hb3
  clear hb2 hb0 hb3
  go_wp2_with fail
  go_ret
  exact ⟨rfl, HB.out⟩
set_option maxRecDepth 100000 in
set_option maxHeartbeats 2000000 in
theorem walkTopThrottlePlanned (w : World) (v0 v1 v2 : Value) (h0 : Arg58 w v0) (h1 : Arg5 w v1) (h2 : Arg5 w v2) : Calls Try.prog 8 #[v0, v1, v2] w fun e w' => e = .returned (.bool true) ∧ Below w.heap.size w w' := by
  obtain ⟨A, m, c, ws, rfl, hR, hmc, hcx⟩ := h0
  obtain ⟨a, rfl, ha0, ha1⟩ := h1
  obtain ⟨b, rfl, hb0, hb1⟩ := h2
  have hlen := hR.len
  have HS := Lib.hid (seq_any A m c ws w hR)
  have HT := Lib.hid caseThrottled_any
  go_enter Try.func8, Try.ntmps8
  go_wp2_with fail
  refine HS.out.mono ?_
  rintro e w1 ⟨rfl, rfl⟩
  rcases Bool.eq_false_or_eq_true (seqB m ws) with hx | hx
  · rw [hx]
    unfold seqB at hx
    rw [Bool.and_eq_true, decide_eq_true_eq] at hx
    obtain ⟨hm, hx⟩ := hx
    have hw : ∀ x ∈ ws, 0 ≤ x ∧ x ≤ 60 := by
      intro x hxm
      have h3 : ws.any badS = false := by simpa using hx
      rw [List.any_eq_false] at h3
      have h4 := h3 x hxm
      simp only [badS, decide_eq_true_eq] at h4
      omega
    obtain ⟨o, ho⟩ : ∃ o, a % 30 + 1 = o := ⟨_, rfl⟩
    obtain ⟨r, hr⟩ : ∃ r, b % 20 + 1 = r := ⟨_, rfl⟩
    have ho9 : 1 ≤ o ∧ o ≤ 30 := by omega
    have hr9 : 1 ≤ r ∧ r ≤ 20 := by omega
    clear hx HS
    have hP := fun w9 A1 (h9 : Below w.heap.size w w9) hR1 => Plan_any A A1 m c 1 r ws w9 (hR.up h9) hR1 hmc hm hw (by omega)
    have hC := fun w9 (h9 : Below w.heap.size w w9) => caserun_any o r A m c ws w9 (hR.up h9) hm hw ho9 ⟨hr9.1, by omega⟩
    have hB : boundP ws r m ≤ o → (runN ws o r (4 * m + 400)).free = true ∧ (runN ws o r (4 * m + 400)).old ≤ o := fun h => by
      rw [← hlen] at h ⊢
      exact run_planned (by omega) hw (by omega) (by omega) h
    generalize boundP ws r m = B at *
    generalize (runN ws o r (4 * m + 400)).free = fr at *
    generalize (runN ws o r (4 * m + 400)).old = ol at *
    have HP := Lib.hid hP
    have HC := Lib.hid hC
    have HB := Lib.hid hB
    clear hP hC hB hR hw hlen
    go_upto_region 4 with fail
    go_wp2_with fail
    refine (HP.out _ _ ((Below.refl _ w).alloc (Nat.le_refl _) _) (rdI_new w [r])).mono ?_
    rintro e w2 ⟨⟨_, ⟨a0, n0, c0, a1, n1, c1, a2, n2, c2, a3, n3, c3, rfl⟩, rfl⟩, hb2⟩
    have hb3 : Below w.heap.size w w2 := ((Below.refl _ w).alloc (Nat.le_refl _) _).trans (hb2.mono (by simp))
    have HB3 := Lib.hid hb3
    have hl3 := hb3.size
    clear hb2 hb3 HP
    by_cases hBo : B ≤ o
    · obtain ⟨rfl, hol⟩ := HB.out hBo
      clear HB
      go_wp2_with fail
      refine (HC.out _ (HB3.out.alloc hl3 _)).mono ?_
      rintro e w3 ⟨rfl, hb4⟩
      have hb5 := (HB3.out.alloc hl3 _).trans (hb4.mono (HB3.out.alloc hl3 _).size)
      have HB5 := Lib.hid hb5
      clear hb4 hb5 HC HB3
      go_wp2_with fail
      refine (HT.out _).mono ?_
      rintro e w4 ⟨rfl, hb6⟩
      have hb7 := HB5.out.trans (hb6.mono HB5.out.size)
      have HB7 := Lib.hid hb7
      clear hb6 hb7
      go_wp2_with fail
      go_ret
      exact ⟨rfl, HB7.out⟩
    · clear HB HC
      go_wp2_with fail
      refine (HT.out _).mono ?_
      rintro e w4 ⟨rfl, hb6⟩
      have hb7 := (HB3.out.alloc hl3 _).trans (hb6.mono (HB3.out.alloc hl3 _).size)
      have HB7 := Lib.hid hb7
      clear hb6 hb7
      go_wp2_with fail
      go_ret
      exact ⟨rfl, HB7.out⟩
  · rw [hx]
    clear hx hR
    go_wp2_with fail
    refine (HT.out _).mono ?_
    rintro e w1 ⟨rfl, hb1⟩
    go_wp2_with fail
    go_ret
    exact ⟨rfl, hb1⟩
end Go.Proofs.Ythkpkjigfaannaa
