/- The walk of the law TopThrottleRates. No condition. -/
import Derived.Test.YthkpkjigfaannaaXk
namespace Go.Proofs.Ythkpkjigfaannaa
open Go.RowKit Go.ChangeShapes Go.WideShapes Go.Deep
set_option maxRecDepth 100000 in
set_option maxHeartbeats 2000000 in
theorem walkTopThrottleRates (w : World) (v0 v1 : Value) (h0 : Arg58 w v0) (h1 : Arg5 w v1) : Calls Try.prog 9 #[v0, v1] w fun e w' => e = .returned (.bool true) ∧ Below w.heap.size w w' := by
  obtain ⟨A, m, c, ws, rfl, hR, hmc, hcx⟩ := h0
  obtain ⟨a, rfl, ha0, ha1⟩ := h1
  have hlen := hR.len
  have HS := Lib.hid (seq_any A m c ws w hR)
  have HT := Lib.hid caseThrottled_any
  go_enter Try.func9, Try.ntmps9
  go_wp2_with fail
  refine HS.out.mono ?_
  rintro e w1 ⟨rfl, rfl⟩
  rcases Bool.eq_false_or_eq_true (seqB m ws) with hx | hx
  · rw [hx]
    unfold seqB at hx
    rw [Bool.and_eq_true, decide_eq_true_eq] at hx
    obtain ⟨hm, hx⟩ := hx
    have hw : ∀ x ∈ ws, 0 ≤ x ∧ x ≤ 60 := by
      intro x hxm
      have h3 : ws.any badS = false := by simpa using hx
      rw [List.any_eq_false] at h3
      have h4 := h3 x hxm
      simp only [badS, decide_eq_true_eq] at h4
      omega
    obtain ⟨o, ho⟩ : ∃ o, a % 30 + 1 = o := ⟨_, rfl⟩
    have ho9 : 1 ≤ o ∧ o ≤ 30 := by omega
    clear hx HS
    have HP := Lib.hid (Rate_any A m c o ws w hR hmc hm hw ho9)
    have HC := Lib.hid (fun r hr9 w9 (h9 : Below w.heap.size w w9) => caserun_any o r A m c ws w9 (hR.up h9) hm hw ho9 hr9)
    have HB := Lib.hid (fun (r : Int) (hr : 1 ≤ r ∧ r ≤ 60) (h : boundP ws r m ≤ o) => by
      rw [← hlen] at h
      exact run_planned (ws := ws) (o := o) (r := r) (by omega) hw (by omega) (by omega) h)
    rw [hlen] at HB
    clear hR hw
    go_upto_region 4 with fail
    go_wp2_with fail
    refine HP.out.mono ?_
    rintro e w2 ⟨⟨r, hr, hbr, rfl⟩, hb2⟩
    have hc := HC.out r hr w2 hb2
    obtain ⟨hf, hol⟩ := HB.out r hr hbr
    rw [hf] at hc
    generalize (runN ws o r (4 * m + 400)).old = ol at *
    have HCC := Lib.hid hc
    have HB2 := Lib.hid hb2
    clear hc hf hbr hb2 HC HB HP
    go_wp2_with fail
    refine HCC.out.mono ?_
    rintro e w3 ⟨rfl, hb4⟩
    have hb5 := HB2.out.trans (hb4.mono HB2.out.size)
    have HB5 := Lib.hid hb5
    clear hb4 hb5 HCC HB2
    go_wp2_with fail
    refine (HT.out _).mono ?_
    rintro e w4 ⟨rfl, hb6⟩
    have hb7 := HB5.out.trans (hb6.mono HB5.out.size)
    have HB7 := Lib.hid hb7
    clear hb6 hb7
    go_wp2_with fail
    go_ret
    exact ⟨rfl, HB7.out⟩
  · rw [hx]
    clear hx hR
    go_wp2_with fail
    refine (HT.out _).mono ?_
    rintro e w1 ⟨rfl, hb1⟩
    go_wp2_with fail
    go_ret
    exact ⟨rfl, hb1⟩
end Go.Proofs.Ythkpkjigfaannaa
