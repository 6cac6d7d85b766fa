/- The walk of the law EpochForks. No condition. -/
import Derived.Test.YtnhemndpnjhbfaaLc
namespace Go.Proofs.Ytnhemndpnjhbfaa
open Go.RowKit Go.Shelf
set_option maxRecDepth 100000 in
set_option maxHeartbeats 4000000 in
theorem walkEpochForks (w : World) (v0 v1 v2 : Value) (h0 : Arg57 w v0) (h1 : Arg57 w v1) (h2 : Arg57 w v2) : Calls Try.prog 9 #[v0, v1, v2] w fun e w' => e = .returned (.bool true) ∧ Below w.heap.size w w' := by
  obtain ⟨A0, m0, c0, q, rfl, hQ0, _, hmc0, hcm0⟩ := h0
  obtain ⟨Aa, ma, ca, a, rfl, hQa, _, hmca, hcma⟩ := h1
  obtain ⟨Ab, mb, cb, b, rfl, hQb, _, hmcb, hcmb⟩ := h2
  have hla := fork_law (q.take 20) (a.take 20) (by rw [List.length_take]; omega) (by rw [List.length_take]; omega)
  have hlb := fork_law (q.take 20) (b.take 20) (by rw [List.length_take]; omega) (by rw [List.length_take]; omega)
  have hg0 := grown_any none 0 0 [] A0 m0 c0 q w (RdS.nil _).1 (by omega) (by omega) (by omega) (okS_nil 500 (by omega)) hQ0 hmc0 hcm0
  obtain ⟨L, hL⟩ : ∃ L, growL (q.take 20) [] = L := ⟨_, rfl⟩
  obtain ⟨E, hE⟩ : ∃ E, growE (q.take 20) [] = E := ⟨_, rfl⟩
  rw [hL, hE] at hla hlb hg0
  have hga := fun A n c w9 hR hnc hcm hn => grown_any A n c L Aa ma ca a w9 hR hnc hcm hn hla.1
  have hgb := fun A n c w9 hR hnc hcm hn => grown_any A n c L Ab mb cb b w9 hR hnc hcm hn hla.1
  obtain ⟨X, hX⟩ : ∃ X, growL (a.take 20) L = X := ⟨_, rfl⟩
  obtain ⟨Y, hY⟩ : ∃ Y, growL (b.take 20) L = Y := ⟨_, rfl⟩
  rw [hX] at hla hga
  rw [hY] at hlb hgb
  have HA := Lib.hid hla
  have HB := Lib.hid hlb
  have HG := Lib.hid (And.intro hg0 (And.intro hga hgb))
  have HQ := Lib.hid (And.intro hQa hQb)
  clear hla hlb hg0 hga hgb hX hY hL hE hQ0 hQa hQb
  go_enter Try.func9, Try.ntmps9
  go_wp2_with fail
  refine HG.out.1.mono ?_
  rintro e w1 ⟨⟨A1, n1, c1, A2, n2, c2, rfl, ⟨hR1, h1c, h1m, h1n⟩, hE, h2, h2c⟩, hb1⟩
  obtain ⟨hEl, g, off, hg, hc⟩ := ints_cells hE
  subst hEl
  have HR1 := Lib.hid hR1
  have HC := Lib.hid (And.intro hg hc)
  clear hR1 hg hc hE
  go_wp2_with fail
  refine (HG.out.2.1 A1 n1 c1 w1 HR1.out h1c h1m (by omega) (HQ.out.1.up hb1) hmca hcma).mono ?_
  rintro e w2 ⟨⟨A3, n3, c3, A4, n4, c4, rfl, ⟨hR3, h3c, h3m, h3n⟩, _, h4, h4c⟩, hb2⟩
  have hB2 := hb1.trans (hb2.mono hb1.size)
  have HR3 := Lib.hid hR3
  clear hR3
  go_wp2_with fail
  refine (HG.out.2.2 A1 n1 c1 w2 (HR1.out.up hb2) h1c h1m (by omega) (HQ.out.2.up hB2) hmcb hcmb).mono ?_
  rintro e W ⟨⟨A5, n5, c5, A6, n6, c6, rfl, ⟨hR5, h5c, h5m, h5n⟩, _, h6, h6c⟩, hb3⟩
  have hBW := hB2.trans (hb3.mono hB2.size)
  have hb13 := hb2.trans (hb3.mono hb2.size)
  have HRW := Lib.hid (And.intro (HR1.out.up hb13) (And.intro (HR3.out.up hb3) hR5))
  have hC : Hid ((0 < E.length → A2 = some ⟨g, off, none⟩ ∧ g < W.heap.size) ∧ ∀ i (h : i < E.length), W.cell? ⟨g, off + i, none⟩ = some (.int .i64 E[i])) := by
    refine ⟨fun h => ⟨(HC.out.1 h).1, Nat.lt_of_lt_of_le (HC.out.1 h).2 hb13.size⟩, fun i hi => ?_⟩
    have := (HC.out.1 (by omega)).2
    exact (hb13.cell (p := ⟨g, off + i, none⟩) this).trans (HC.out.2 i hi)
  clear HC HR1 HR3 hR5 hb1 hb2 hb3 hB2 hb13
  go_wp2_with fail
  go_loopw [15] (fun i wr => ∃ k : Nat, k ≤ E.length ∧ i = .int .i64 k ∧ Below W.heap.size W wr) (fun i _ => E.length - (intOf i).toNat)
  case atStart => exact ⟨0, by omega, rfl, Below.refl _ _⟩
  case round =>
    obtain ⟨k, hk, rfl, hbr⟩ := hrel
    by_cases hj : k < E.length
    · have HV := Lib.hid (And.intro (HA.out.2.2.1 k hj) (HB.out.2.2.1 k hj))
      obtain ⟨hA, hgw⟩ := hC.out.1 (by omega)
      have d0 := (hbr.cell (p := ⟨g, off + k, none⟩) hgw).trans (hC.out.2 k hj)
      obtain ⟨x, hx⟩ : ∃ x, E[k] = x := ⟨_, rfl⟩
      rw [hx] at d0 HV
      subst hA
      have c3 : (k : Int) < E.length := by omega
      clear hx
      go_wp2_with fail
      refine (EpochOf_any A3 n3 _ _ X wr (HRW.out.2.1.up hbr) (by omega)).mono ?_
      rintro e w3 ⟨rfl, hb3⟩
      rw [HV.out.1]
      have hbr3 := hbr.trans (hb3.mono hbr.size)
      have d1 := (hb3.cell (p := ⟨g, off + k, none⟩) (Nat.lt_of_lt_of_le hgw hbr.size)).trans d0
      clear d0
      go_wp2_with fail
      refine (EpochOf_any A5 n5 _ _ Y w3 (HRW.out.2.2.up hbr3) (by omega)).mono ?_
      rintro e w4 ⟨rfl, hb4⟩
      rw [HV.out.2]
      have d2 := (hb4.cell (p := ⟨g, off + k, none⟩) (Nat.lt_of_lt_of_le hgw hbr3.size)).trans d1
      have hbr4 := hbr3.trans (hb4.mono hbr3.size)
      clear d1
      go_wp2_with fail
      go_roundw
      case rel => exact ⟨k + 1, by omega, by go_num, hbr4⟩
      case measure => simp [intOf]; omega
    · have c3 : ¬ ((k : Int) < E.length) := by omega
      go_wp2_with fail
      refine (awake_any _).mono ?_
      rintro e x1 ⟨rfl, hb1⟩
      have hz1 := hbr.trans (hb1.mono hbr.size)
      go_wp2_with fail
      refine (Truncate_any A3 n3 _ _ X x1 (HRW.out.2.1.up hz1) (by omega)).mono ?_
      rintro e x2 ⟨⟨A7, n7, c7, rfl, hR7⟩, hb2⟩
      have hz2 := hz1.trans (hb2.mono hz1.size)
      rw [HA.out.2.2.2] at hR7
      have HS := Lib.hid (Same_true A7 A1 n7 n1 c7 c1 L x2 hR7 (HRW.out.1.up hz2) (by have h1 := hR7.len; have h2 := HRW.out.1.len; omega))
      clear hR7
      go_wp2_with fail
      refine HS.out.mono ?_
      rintro e x3 ⟨rfl, hb3⟩
      have hz3 := hz2.trans (hb3.mono hz2.size)
      clear HS
      go_wp2_with fail
      refine (Truncate_any A5 n5 _ _ Y x3 (HRW.out.2.2.up hz3) (by omega)).mono ?_
      rintro e x4 ⟨⟨A8, n8, c8, rfl, hR8⟩, hb4⟩
      have hz4 := hz3.trans (hb4.mono hz3.size)
      rw [HB.out.2.2.2] at hR8
      have HS := Lib.hid (Same_true A8 A1 n8 n1 c8 c1 L x4 hR8 (HRW.out.1.up hz4) (by have h1 := hR8.len; have h2 := HRW.out.1.len; omega))
      clear hR8
      go_wp2_with fail
      refine HS.out.mono ?_
      rintro e x5 ⟨rfl, hb5⟩
      have hz5 := hz4.trans (hb5.mono hz4.size)
      go_wp2_with fail
      go_ret
      exact ⟨rfl, hBW.trans (hz5.mono hBW.size)⟩
end Go.Proofs.Ytnhemndpnjhbfaa
