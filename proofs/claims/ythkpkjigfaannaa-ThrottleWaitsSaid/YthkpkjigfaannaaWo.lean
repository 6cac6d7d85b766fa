/- The walks of the laws' begin and oldest. Condition: at most 1000 entries. -/
import Derived.Test.YthkpkjigfaannaaWn
import Derived.Test.YthkpkjigfaannaaMathD
namespace Go.Proofs.Ythkpkjigfaannaa
open Go.RowKit
set_option maxRecDepth 100000 in
set_option maxHeartbeats 2000000 in
theorem begin_any (a b : Int) (ha : 0 ≤ a ∧ a ≤ 255) (hb : 0 ≤ b ∧ b ≤ 255) (w : World) :
    Calls Try.prog 19 #[.int .u8 a, .int .u8 b] w fun e w' => e = .returned (.tuple #[.agg #[.int .i64 (a % 12 + 1), .int .i64 (b % 6 + 1), .int .i64 0, .int .i64 0, .slice none 0 0], .bool true]) ∧ Below w.heap.size w w' := by
  obtain ⟨o, ho⟩ : ∃ o, a % 12 + 1 = o := ⟨_, rfl⟩
  obtain ⟨r, hr⟩ : ∃ r, b % 6 + 1 = r := ⟨_, rfl⟩
  have hN := fun w9 => New_any o r w9
  have hok : okN o r = true := by simp only [okN, betwB, Bool.and_eq_true, decide_eq_true_eq]; omega
  rw [show newE o r = 0 by rw [newE, hok]; rfl, show newV o r = thV o r 0 0 none 0 0 by rw [newV, hok]; rfl] at hN
  have HN : Hid (∀ w9, Calls Try.prog 12 #[.int .i64 o, .int .i64 r] w9 fun e w' => e = .returned (.tuple #[.agg #[.int .i64 o, .int .i64 r, .int .i64 0, .int .i64 0, .slice none 0 0], .int .i64 0]) ∧ Below w9.heap.size w9 w') := hN
  have HO := Lib.hid (And.intro ho hr)
  rw [ho, hr]
  clear hN hok ho hr
  go_enter Try.func19, Try.ntmps19
  go_wp2_with fail
  rw [HO.out.1, HO.out.2]
  refine (HN.out _).mono ?_
  rintro e w1 ⟨rfl, hb1⟩
  have hk0 : Blk (w.alloc (.cells #[.int .i64 0, .int .i64 0, .int .i64 0, .int .i64 0, .slice none 0 0] 24)) w.heap.size 24 #[.int .i64 0, .int .i64 0, .int .i64 0, .int .i64 0, .slice none 0 0] := Blk.new _ _ _
  have HK := Lib.hid (hk0.below hb1 hk0.lt)
  have HB := Lib.hid (((Below.refl _ w).alloc (Nat.le_refl _) _).trans (hb1.mono (by simp)))
  have hk := HK.out
  obtain ⟨g0, g1, g2, g3, g4, _⟩ := blk5 (Below.refl _ w1) hk hk.lt
  have z0 := hk.frozen 0
  have z1 := hk.frozen 1
  have z2 := hk.frozen 2
  have z3 := hk.frozen 3
  have z4 := hk.frozen 4
  have l1 := hk.lt
  clear hk hk0 hb1
  go_wp2_with fail
  have HB5 := Lib.hid (bel5 (x := .int .i64 o) (y := .int .i64 r) (z := .int .i64 0) (u := .int .i64 0) (v := .slice none 0 0) HB.out (Nat.le_refl _))
  refine bodyPost_ret (results_cell_tmp rfl _ _ _ _ _ _ rfl ((set5 HK.out).alloc _) Try.underlying24 rfl info24) rfl ?_
  exact ⟨rfl, HB5.out.alloc HB5.out.size _⟩
/-- a row of admitted writes -/
theorem oldV_at (L : List Mk) (k : Nat) (conf now : Int) (h : k < L.length) : oldV (L.drop k) conf now = if conf < (atM L k).n then now - (atM L k).t else oldV (L.drop (k + 1)) conf now := by
  have ha : atM L k = L[k] := by simp [atM, h]
  rw [List.drop_eq_getElem_cons h, ha]
  unfold oldV
  simp only [foM]
  by_cases h9 : conf < L[k].n <;> simp [h9]
set_option maxRecDepth 100000 in
set_option maxHeartbeats 2000000 in
theorem oldest_any (A : Option Addr) (n c : Nat) (L : List Mk) (conf now : Int) (w : World) (hR : RdM w A n L) (hn : n ≤ 1000) (hnow : 0 ≤ now ∧ now ≤ 1000000) (hL : ∀ m ∈ L, 0 ≤ m.t ∧ m.t ≤ 1000000) :
    Calls Try.prog 22 #[.slice A n c, .int .i64 conf, .int .i64 now] w fun e w' => e = .returned (.int .i64 (oldV L conf now)) ∧ Below w.heap.size w w' := by
  have HL := Lib.hid hR.len
  obtain ⟨g, off, hg, hc⟩ := hR.cells
  have HG := Lib.hid hg
  have HC := Lib.hid hc
  have HLL := Lib.hid hL
  clear hg hc hR hL
  go_enter Try.func22, Try.ntmps22
  go_wp2_with fail
  go_loopw [11] (fun i wr => ∃ k : Nat, k ≤ n ∧ i = .int .i64 k ∧ oldV L conf now = oldV (L.drop k) conf now ∧ Below w.heap.size w wr) (fun i _ => n - (intOf i).toNat)
  case atStart => exact ⟨0, by omega, rfl, rfl, Below.refl _ _⟩
  case round =>
    obtain ⟨k, hk, rfl, hf, hb⟩ := hrel
    have HF := Lib.hid hf
    clear hf
    by_cases hlt : k < n
    · have hkl : k < L.length := by rw [HL.out]; exact hlt
      obtain ⟨rfl, hgw⟩ := HG.out (by omega)
      obtain ⟨d0, d1⟩ := HC.out k hkl
      replace d0 := (hb.cell (p := ⟨g, off + k * 2, none⟩) hgw).trans d0
      replace d1 := (hb.cell (p := ⟨g, off + k * 2 + 1, none⟩) hgw).trans d1
      have HS := Lib.hid (oldV_at L k conf now hkl)
      have hm := HLL.out (atM L k) (by simp [atM, hkl])
      generalize atM L k = m at *
      obtain ⟨mt, mn⟩ := m
      change wr.cell? ⟨g, off + k * 2, none⟩ = some (.int .i64 mt) at d0
      change wr.cell? ⟨g, off + k * 2 + 1, none⟩ = some (.int .i64 mn) at d1
      obtain ⟨m1, m2⟩ := hm
      change 0 ≤ mt at m1
      change mt ≤ _ at m2
      have ik : (k : Int) < n := by omega
      have HB := Lib.hid (hb.alloc hb.size (.cells #[.int .i64 mt, .int .i64 mn] 49))
      by_cases hx : conf < mn
      · go_wp2_with fail
        go_ret
        exact ⟨ret_int (by rw [HF.out, HS.out, if_pos hx]), HB.out⟩
      · go_wp2_with fail
        go_roundw
        case rel => exact ⟨k + 1, by omega, by go_num, by rw [HF.out, HS.out, if_neg (by show ¬ conf < mn; omega)], HB.out⟩
        case measure => simp [intOf]; omega
    · have h0 : oldV L conf now = 0 := by
        rw [HF.out, List.drop_of_length_le (by rw [HL.out]; omega)]; rfl
      have H0 := Lib.hid h0
      clear h0
      go_wp2_with fail
      go_ret
      exact ⟨ret_int H0.out.symm, hb⟩
end Go.Proofs.Ythkpkjigfaannaa
