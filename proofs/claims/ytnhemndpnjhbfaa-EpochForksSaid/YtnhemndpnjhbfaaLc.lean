/- The walk of the law EpochRemembers. No condition. -/
import Derived.Test.YtnhemndpnjhbfaaWy
import Derived.Test.YtnhemndpnjhbfaaMathF
import Derived.Test.YtnhemndpnjhbfaaLa
namespace Go.Proofs.Ytnhemndpnjhbfaa
open Go.RowKit Go.Shelf
/-- a row of integers -/
theorem ints_cells {w : World} {A : Option Addr} {n : Nat} {E : List Int} (h : Reads w w.heap.size 1 A n (E.map encI)) : E.length = n ∧ ∃ g off, (0 < n → A = some ⟨g, off, none⟩ ∧ g < w.heap.size) ∧ ∀ i (h : i < E.length), w.cell? ⟨g, off + i, none⟩ = some (.int .i64 E[i]) := by
  have hl : E.length = n := by have := h.1; simpa using this
  refine ⟨hl, ?_⟩
  by_cases h0 : 0 < n
  · obtain ⟨g, off, e, hg, hc⟩ := h.plain h0 (by omega)
    exact ⟨g, off, fun _ => ⟨e, hg⟩, fun i hi => hc i _ (by rw [List.getElem?_map, List.getElem?_eq_getElem hi]; rfl)⟩
  · exact ⟨0, 0, fun h => absurd h h0, fun i hi => by omega⟩
set_option maxRecDepth 100000 in
set_option maxHeartbeats 2000000 in
theorem walkEpochRemembers (w : World) (v0 : Value) (h0 : Arg57 w v0) : Calls Try.prog 8 #[v0] w fun e w' => e = .returned (.bool true) ∧ Below w.heap.size w w' := by
  obtain ⟨A', m, c', q, rfl, hQ, _, hmc, hcm⟩ := h0
  have HL := Lib.hid (rem_law (q.take 20) (by rw [List.length_take]; omega))
  have HGR := Lib.hid (grown_any none 0 0 [] A' m c' q w (RdS.nil _).1 (by omega) (by omega) (by omega) (okS_nil 500 (by omega)) hQ hmc hcm)
  obtain ⟨L, hL⟩ : ∃ L, growL (q.take 20) [] = L := ⟨_, rfl⟩
  obtain ⟨E, hE⟩ : ∃ E, growE (q.take 20) [] = E := ⟨_, rfl⟩
  rw [hL, hE] at HL HGR
  clear hL hE hQ
  go_enter Try.func8, Try.ntmps8
  go_wp2_with fail
  refine HGR.out.mono ?_
  rintro e w1 ⟨⟨A1, n1, c1, A2, n2, c2, rfl, ⟨hR1, h1c, h1m, h1n⟩, hE, h2, h2c⟩, hb1⟩
  obtain ⟨hEl, g, off, hg, hc⟩ := ints_cells hE
  subst hEl
  have HR1 := Lib.hid hR1
  have HC := Lib.hid (And.intro hg hc)
  clear hR1 hg hc hE
  go_wp2_with fail
  refine (CheckLineage_any A1 n1 c1 L w1 HR1.out (by omega)).mono ?_
  rintro e W ⟨rfl, hb2⟩
  rw [HL.out.1]
  have hBW := hb1.trans (hb2.mono hb1.size)
  have HRW := Lib.hid (HR1.out.up hb2)
  have hC : Hid ((0 < E.length → A2 = some ⟨g, off, none⟩ ∧ g < W.heap.size) ∧ ∀ i (h : i < E.length), W.cell? ⟨g, off + i, none⟩ = some (.int .i64 E[i])) := by
    refine ⟨fun h => ⟨(HC.out.1 h).1, Nat.lt_of_lt_of_le (HC.out.1 h).2 hb2.size⟩, fun i hi => ?_⟩
    have := (HC.out.1 (by omega)).2
    exact (hb2.cell (p := ⟨g, off + i, none⟩) this).trans (HC.out.2 i hi)
  clear HC HR1 hb1 hb2
  go_wp2_with fail
  go_loopw [6] (fun i wr => ∃ k : Nat, k ≤ E.length + 3 ∧ i = .int .i64 ((k : Int) - 1) ∧ Below W.heap.size W wr) (fun i _ => E.length + 5 - (intOf i + 1).toNat)
  case atStart => exact ⟨0, by omega, rfl, Below.refl _ _⟩
  case round =>
    obtain ⟨k, hk, rfl, hbr⟩ := hrel
    by_cases hk2 : k ≤ E.length + 2
    · by_cases hk1 : k = 0 ∨ E.length < k
      · have HV := Lib.hid (HL.out.2.1 k hk1)
        rcases hk1 with rfl | hk1
        · rw [show (((0 : Nat) : Int) - 1) = -1 from rfl]
          go_wp2_with fail
          refine (EpochOf_any A1 n1 c1 _ L wr (HRW.out.up hbr) (by omega)).mono ?_
          rintro e w2 ⟨rfl, hb3⟩
          rw [show epochV L 0 = (0, false) from HV.out]
          go_wp2_with fail
          go_roundw
          case rel => exact ⟨1, by omega, by go_num, hbr.trans (hb3.mono hbr.size)⟩
          case measure => simp [intOf]; try omega
        · have c3 : ¬ ((k : Int) - 1 < 0) := by omega
          have c4 : (E.length : Int) ≤ (k : Int) - 1 := by omega
          have c5 : (k : Int) - 1 ≤ (E.length : Int) + 1 := by omega
          go_wp2_with fail
          refine (EpochOf_any A1 n1 c1 _ L wr (HRW.out.up hbr) (by omega)).mono ?_
          rintro e w2 ⟨rfl, hb3⟩
          have hk9 : (k : Int) - 1 + 1 = k := by omega
          try rw [hk9]
          rw [HV.out]
          clear hk9
          go_wp2_with fail
          go_roundw
          case rel => exact ⟨k + 1, by omega, by go_num, hbr.trans (hb3.mono hbr.size)⟩
          case measure => simp [intOf]; omega
      · obtain ⟨j, rfl⟩ : ∃ j, k = j + 1 := ⟨k - 1, by omega⟩
        have hj : j < E.length := by omega
        have HV := Lib.hid (HL.out.2.2 j hj)
        obtain ⟨hA, hgw⟩ := hC.out.1 (by omega)
        have d0 := (hbr.cell (p := ⟨g, off + j, none⟩) hgw).trans (hC.out.2 j hj)
        obtain ⟨x, hx⟩ : ∃ x, E[j] = x := ⟨_, rfl⟩
        rw [hx] at d0 HV
        subst hA
        rw [show (((j + 1 : Nat) : Int) - 1) = j by omega]
        have c3 : (j : Int) < E.length := by omega
        clear hx
        go_wp2_with fail
        refine (EpochOf_any A1 n1 c1 _ L wr (HRW.out.up hbr) (by omega)).mono ?_
        rintro e w2 ⟨rfl, hb3⟩
        rw [HV.out]
        have d1 := (hb3.cell (p := ⟨g, off + j, none⟩) (Nat.lt_of_lt_of_le hgw hbr.size)).trans d0
        clear d0
        go_wp2_with fail
        go_roundw
        case rel => exact ⟨j + 2, by omega, by go_num, hbr.trans (hb3.mono hbr.size)⟩
        case measure => simp [intOf]; omega
    · have c5 : ¬ ((k : Int) - 1 ≤ (E.length : Int) + 1) := by omega
      go_wp2_with fail
      refine (awake_any _).mono ?_
      rintro e w2 ⟨rfl, hb3⟩
      go_wp2_with fail
      go_ret
      exact ⟨rfl, hBW.trans ((hbr.trans (hb3.mono hbr.size)).mono hBW.size)⟩
end Go.Proofs.Ytnhemndpnjhbfaa
