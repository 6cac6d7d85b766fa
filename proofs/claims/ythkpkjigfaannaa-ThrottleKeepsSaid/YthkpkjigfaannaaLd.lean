/- The walk of the law ThrottleKeeps. No condition. -/
import Derived.Test.YthkpkjigfaannaaMathF
import Derived.Test.YthkpkjigfaannaaWo
import Derived.Test.YthkpkjigfaannaaWp
namespace Go.Proofs.Ythkpkjigfaannaa
open Go.RowKit
theorem info49k : (Try.prog.info? 49).map (fun i => (i.zero, i.size, i.bytes)) = some (some (.agg #[.int .i64 0, .int .i64 0]), 2, 16) := by kernel_rfl
set_option maxRecDepth 100000 in
set_option maxHeartbeats 4000000 in
theorem walkThrottleKeeps (w : World) (v0 v1 v2 : Value) (h0 : Arg5 w v0) (h1 : Arg5 w v1) (h2 : Arg40 w v2) : Calls Try.prog 5 #[v0, v1, v2] w fun e w' => e = .returned (.bool true) ∧ Below w.heap.size w w' := by
  obtain ⟨a, rfl, ha⟩ := h0
  obtain ⟨b, rfl, hb⟩ := h1
  obtain ⟨A0, m, c0, q, rfl, hQ, hmc, hcm⟩ := h2
  obtain ⟨o, ho⟩ : ∃ o, a % 12 + 1 = o := ⟨_, rfl⟩
  obtain ⟨r, hr⟩ : ∃ r, b % 6 + 1 = r := ⟨_, rfl⟩
  have HBg := Lib.hid (fun w9 => begin_any a b ha hb w9)
  rw [ho, hr] at HBg
  have ho1 : 1 ≤ o ∧ o ≤ 12 := by omega
  have hr1 : 1 ≤ r ∧ r ≤ 6 := by omega
  have hB : 1 ≤ r * o ∧ r * o ≤ 72 := by
    obtain ⟨h1, h2⟩ := hr1
    have : r = 1 ∨ r = 2 ∨ r = 3 ∨ r = 4 ∨ r = 5 ∨ r = 6 := by omega
    rcases this with rfl | rfl | rfl | rfl | rfl | rfl <;> omega
  have HP0 := Lib.hid (KpP.start o r ho1 hr1 (by omega))
  obtain ⟨B, hBe⟩ : ∃ B, r * o = B := ⟨_, rfl⟩
  rw [hBe] at hB
  have HBe := Lib.hid hBe
  have HRO := Lib.hid (And.intro ho1 hr1)
  obtain ⟨hql, gq, off, hgq, hcq⟩ := words_cells hQ
  have HC := Lib.hid (And.intro hgq hcq)
  clear hgq hcq hQ hBe ho hr ha hb ho1 hr1
  by_cases h60 : m > 60
  · have h60' : (m : Int) > 60 := by omega
    go_enter Try.func5, Try.ntmps5
    go_wp2_with fail
    refine (HBg.out _).mono ?_
    rintro e w1 ⟨rfl, hb1⟩
    have HB1 := Lib.hid hb1
    clear hb1
    go_wp2_with fail
    refine (awake_any _).mono ?_
    rintro e w2 ⟨rfl, hb2⟩
    go_wp2_with fail
    go_ret
    exact ⟨rfl, (HB1.out.alloc HB1.out.size _).trans (hb2.mono (by simp; exact Nat.le_succ_of_le HB1.out.size))⟩
  · have h60' : ¬ (m : Int) > 60 := by omega
    go_enter Try.func5, Try.ntmps5
    go_wp2_with fail
    refine (HBg.out _).mono ?_
    rintro e w1 ⟨rfl, hb1⟩
    have hI0 : AcI w w1.heap.size ⟨o, r, 0, 0, []⟩ none 0 0 (.slice none 0 0) [] (w1.alloc (.cells #[.int .i64 o, .int .i64 r, .int .i64 0, .int .i64 0, .slice none 0 0] 24)) :=
      ⟨⟨Blk.new _ _ _, Reads.none_, (fun ad h => by cases h), hb1.alloc hb1.size _, hb1.size⟩, World.ownsRow_nil _ _ 49 2, fun h => absurd h (by omega)⟩
    have HI0 := Lib.hid hI0
    clear hb1 hI0
    go_wp2_with fail
    obtain ⟨W0, hW0⟩ : ∃ W0, w1.alloc (.cells #[.int .i64 o, .int .i64 r, .int .i64 0, .int .i64 0, .slice none 0 0] 24) = W0 := ⟨_, rfl⟩
    rw [hW0] at HI0 ⊢
    generalize w1.heap.size = g at *
    clear hW0
    go_loopw [9, 10, 11, 12, 40] (fun t9 t10 t11 t12 t40 wr => ∃ (k : Nat) (T : Th) (A : Option Addr) (n c : Nat) (L : List Mk) (now total conf : Int), k ≤ m ∧ t40 = .int .i64 k ∧ t9 = .int .i64 now ∧ t10 = .int .i64 total ∧ t11 = .int .i64 conf ∧ AcI w g T A n c t12 L wr ∧ KpP o r T L now total conf (4 * k)) (fun _ _ _ _ i _ => m - (intOf i).toNat)
    case atStart => exact ⟨0, _, none, 0, 0, [], 0, 0, 0, by omega, rfl, rfl, rfl, rfl, HI0.out, HP0.out⟩
    case round =>
      obtain ⟨k, T, A, n, c, L, now, total, conf, hk, rfl, rfl, rfl, rfl, hI, hP⟩ := hrel
      by_cases hkm : k < m
      · obtain ⟨hA0, hgw⟩ := HC.out.1 (by omega)
        have d0 := (hI.aw.bel.cell (p := ⟨gq, off + k, none⟩) hgw).trans (HC.out.2 k (by omega))
        have hkl : k < q.length := by omega
        obtain ⟨x, hx⟩ : ∃ x, q[k]'hkl = x := ⟨_, rfl⟩
        rw [hx] at d0
        obtain ⟨x0, x1⟩ := x
        dsimp only at d0
        obtain ⟨x, hx0⟩ : ∃ x : Int, (x0 : Int) = x := ⟨_, rfl⟩
        have x2 : 0 ≤ x ∧ x ≤ 65535 := by omega
        obtain ⟨x2, x3⟩ := x2
        rw [hx0] at d0
        clear hx0 hx
        obtain ⟨VA, Vc, rfl, _, _, _⟩ := own_slice hI.row
        have HP := Lib.hid hP
        have HI := Lib.hid hI
        have ik : (k : Int) < m := by omega
        have k60 : k ≤ 60 := by omega
        subst hA0
        obtain ⟨Q, hQ⟩ : ∃ z, x % 4 = z := ⟨_, rfl⟩
        obtain ⟨ex, hex⟩ : ∃ z, x / 4 % 3 = z := ⟨_, rfl⟩
        have hQ1 : 0 ≤ Q ∧ Q ≤ 3 := by omega
        have hex1 : 0 ≤ ex ∧ ex ≤ 2 := by omega
        obtain ⟨hQ1, hQ2⟩ := hQ1
        obtain ⟨hex1, hex2⟩ := hex1
        have hpn := hP.ac.n0
        have hpc := hP.ac.c0
        obtain ⟨pn0, pn1⟩ := hpn
        obtain ⟨pc0, pc1, pc2⟩ := hpc
        clear hI hP
        go_wp2_with fail
        go_loopw [9, 11, 47] (fun t9 t11 t47 wr => ∃ (j : Nat) (T : Th) (A : Option Addr) (n c : Nat) (now conf : Int), (j : Int) ≤ Q ∧ t47 = .int .i64 j ∧ t9 = .int .i64 now ∧ t11 = .int .i64 conf ∧ AcI w g T A n c (.slice VA L.length Vc) L wr ∧ KpP o r T L now total conf (4 * k + j)) (fun _ _ i _ => (Q - intOf i).toNat)
        case atStart => exact ⟨0, T, A, n, c, now, conf, by omega, rfl, rfl, rfl, HI.out, HP.out⟩
        case round =>
          clear HI HP d0
          clear pn0 pn1 pc0 pc1 pc2
          obtain ⟨j, T, A, n, c, now, conf, hj, rfl, rfl, rfl, hI, hP⟩ := hrel
          obtain ⟨pn0, pn1⟩ := hP.ac.n0
          obtain ⟨pc0, pc1, pc2⟩ := hP.ac.c0
          obtain ⟨o', r', tt, tb, tl⟩ := T
          obtain rfl : o = o' := hP.ac.fo.symm
          obtain rfl : r = r' := hP.ac.fr.symm
          have nl : n ≤ 1000 := by have h1 := hI.aw.rd.len; have h2 := hP.ac.lens; dsimp only at h1 h2; omega
          have HP := Lib.hid hP
          have HI := Lib.hid hI
          clear hI hP
          by_cases hjQ : (j : Int) < Q
          · have hi9 : 4 * k + j ≤ 900 := by omega
            obtain ⟨now', hn'⟩ : ∃ z, now + 1 = z := ⟨_, rfl⟩
            obtain ⟨cf, hcf⟩ : ∃ z, conf + r + ex = z := ⟨_, rfl⟩
            have hr1 := HRO.out.2.1
            have ho1 := HRO.out.1.1
            have hr6 := HRO.out.2.2
            by_cases hmn : total ≤ cf
            · obtain ⟨l', hPr, hP'⟩ := HP.out.tick hi9 (now' := now') (conf' := total) hn'.symm (by omega) hr1
              obtain ⟨tb', htb⟩ : ∃ z, total - total = z := ⟨_, rfl⟩
              rw [htb] at hPr hP'
              have hC1 := Progress_fresh ⟨o, r, tt, tb, tl⟩ now' total A n c wr HI.out.aw.rd nl
              rw [hPr] at hC1
              have HC1 := Lib.hid hC1
              replace HP := Lib.hid hP'
              have HTB := Lib.hid htb
              clear hC1 hPr hP' htb
              obtain ⟨⟨f0, f1, f2, f3, f4⟩, z0, z1, z2, z3, z4, lg⟩ := HI.out.aw.cells
              change wr.cell? ⟨g, 0, none⟩ = some (.int .i64 o) at f0
              change wr.cell? ⟨g, 1, none⟩ = some (.int .i64 r) at f1
              change wr.cell? ⟨g, 2, none⟩ = some (.int .i64 tt) at f2
              change wr.cell? ⟨g, 3, none⟩ = some (.int .i64 tb) at f3
              go_wp2_with fail
              refine HC1.out.mono ?_
              rintro e V1 ⟨⟨_, rfl, A1, n1, c1, rfl, hR1, _, _, hf1⟩, hb1⟩
              have HS := Lib.hid ((HI.out.put hb1 hR1 hf1 (T' := ⟨o, r, now', tb', l'⟩) (c' := c1)).new (.cells #[.int .i64 o, .int .i64 r, .int .i64 now', .int .i64 tb', .slice A1 n1 c1] 24))
              have hK1 := HI.out.keep hb1
              clear f0 f1 f2 f3 f4 z0 z1 z2 z3 z4 lg
              replace HI := Lib.hid hK1
              clear hR1 hf1 hb1 hK1
              obtain ⟨⟨f0, f1, f2, f3, f4⟩, z0, z1, z2, z3, z4, lg⟩ := HI.out.aw.cells
              change V1.cell? ⟨g, 0, none⟩ = some (.int .i64 o) at f0
              change V1.cell? ⟨g, 1, none⟩ = some (.int .i64 r) at f1
              change V1.cell? ⟨g, 2, none⟩ = some (.int .i64 tt) at f2
              change V1.cell? ⟨g, 3, none⟩ = some (.int .i64 tb) at f3
              go_wp2_with fail
              clear f0 f1 f2 f3 f4 z0 z1 z2 z3 z4 lg HI
              obtain ⟨W, hW⟩ : ∃ W, (((((V1.setCell ⟨g, 0, none⟩ (.int .i64 o)).setCell ⟨g, 1, none⟩ (.int .i64 r)).setCell ⟨g, 2, none⟩ (.int .i64 now')).setCell ⟨g, 3, none⟩ (.int .i64 tb')).setCell ⟨g, 4, none⟩ (.slice A1 n1 c1)).alloc (.cells #[.int .i64 o, .int .i64 r, .int .i64 now', .int .i64 tb', .slice A1 n1 c1] 24) = W := ⟨_, rfl⟩
              rw [hW] at HS ⊢
              have HI := Lib.hid HS.out
              clear HS hW
              have hnl : n1 ≤ 1000 := by have h1 := HI.out.aw.rd.len; have h2 := HP.out.ac.lens; have h3 : (l').length ≤ 4 * k + j + 1 := h2; have h4 : (l').length = n1 := h1; omega
              have hvl : L.length ≤ 1000 := by have h1 := HP.out.ac.len; omega
              obtain ⟨hag, hago⟩ := HP.out.age ho1 hr1
              obtain ⟨ag, hag9⟩ : ∃ z, oldV L total now' = z := ⟨_, rfl⟩
              have HAg := Lib.hid (fun w9 (hb9 : Below W.heap.size W w9) => Age_any ⟨o, r, now', tb', l'⟩ now' A1 n1 c1 w9 (HI.out.aw.rd.up hb9) hnl (by omega))
              have HOl := Lib.hid (fun w9 (hb9 : Below W.heap.size W w9) => oldest_any VA L.length Vc L total now' w9 (Reads.of_own (HI.out.keep hb9).row) hvl (by omega) HP.out.ac.tm)
              rw [hag9] at hag hago HOl
              rw [hag] at HAg
              have HKB := Lib.hid HI.out.aw.blk
              clear hag hag9
              have hago' : ¬ (o < ag) := by omega
              have hagd : decide (o < ag) = false := decide_eq_false hago'
              obtain ⟨⟨f0, f1, f2, f3, f4⟩, z0, z1, z2, z3, z4, lg⟩ := HI.out.aw.cells
              change W.cell? ⟨g, 0, none⟩ = some (.int .i64 o) at f0
              change W.cell? ⟨g, 1, none⟩ = some (.int .i64 r) at f1
              change W.cell? ⟨g, 2, none⟩ = some (.int .i64 now') at f2
              change W.cell? ⟨g, 3, none⟩ = some (.int .i64 tb') at f3
              go_region_held3 (fun w' => w'.cell? ⟨g, 0, none⟩ = some (.int .i64 o) ∧ w'.cell? ⟨g, 1, none⟩ = some (.int .i64 r) ∧ w'.cell? ⟨g, 2, none⟩ = some (.int .i64 now') ∧ w'.cell? ⟨g, 3, none⟩ = some (.int .i64 tb') ∧ w'.cell? ⟨g, 4, none⟩ = some (.slice A1 n1 c1) ∧ Below W.heap.size W w')
                (first
                  | exact blk5 ((Below.refl _ W).drew) HKB.out lg
                  | (go_split_ands; refine blk5 (below_step ?_ hb') HKB.out lg; assumption)
                  | (go_split_ands; refine ⟨?_, ?_, ?_, ?_, ?_, ?_⟩ <;> assumption))
                (first
                  | (go_at_call 21; refine (HAg.out _ ?_).mono ?_; (go_split_ands; assumption); rintro e w' ⟨rfl, hb'⟩)
                  | (go_at_call 22; refine (HOl.out _ ?_).mono ?_; (go_split_ands; assumption); rintro e w' ⟨rfl, hb'⟩))
              rename_i hS
              replace HI := Lib.hid (HI.out.keep hS.2.2.2.2.2)
              clear f0 f1 f2 f3 f4 z0 z1 z2 z3 z4 lg HKB HAg HOl hS hago hago' hagd
              go_wp2_with fail
              go_roundw
              case rel => exact ⟨j + 1, ⟨o, r, now', tb', l'⟩, A1, n1, c1, now', total, by omega, by go_num, rfl, rfl, HI.out, HP.out⟩
              case measure => simp [intOf]; omega

            · obtain ⟨l', hPr, hP'⟩ := HP.out.tick hi9 (now' := now') (conf' := cf) hn'.symm (by omega) hr1
              obtain ⟨tb', htb⟩ : ∃ z, total - cf = z := ⟨_, rfl⟩
              rw [htb] at hPr hP'
              have hC1 := Progress_fresh ⟨o, r, tt, tb, tl⟩ now' cf A n c wr HI.out.aw.rd nl
              rw [hPr] at hC1
              have HC1 := Lib.hid hC1
              replace HP := Lib.hid hP'
              have HTB := Lib.hid htb
              clear hC1 hPr hP' htb
              obtain ⟨⟨f0, f1, f2, f3, f4⟩, z0, z1, z2, z3, z4, lg⟩ := HI.out.aw.cells
              change wr.cell? ⟨g, 0, none⟩ = some (.int .i64 o) at f0
              change wr.cell? ⟨g, 1, none⟩ = some (.int .i64 r) at f1
              change wr.cell? ⟨g, 2, none⟩ = some (.int .i64 tt) at f2
              change wr.cell? ⟨g, 3, none⟩ = some (.int .i64 tb) at f3
              go_wp2_with fail
              refine HC1.out.mono ?_
              rintro e V1 ⟨⟨_, rfl, A1, n1, c1, rfl, hR1, _, _, hf1⟩, hb1⟩
              have HS := Lib.hid ((HI.out.put hb1 hR1 hf1 (T' := ⟨o, r, now', tb', l'⟩) (c' := c1)).new (.cells #[.int .i64 o, .int .i64 r, .int .i64 now', .int .i64 tb', .slice A1 n1 c1] 24))
              have hK1 := HI.out.keep hb1
              clear f0 f1 f2 f3 f4 z0 z1 z2 z3 z4 lg
              replace HI := Lib.hid hK1
              clear hR1 hf1 hb1 hK1
              obtain ⟨⟨f0, f1, f2, f3, f4⟩, z0, z1, z2, z3, z4, lg⟩ := HI.out.aw.cells
              change V1.cell? ⟨g, 0, none⟩ = some (.int .i64 o) at f0
              change V1.cell? ⟨g, 1, none⟩ = some (.int .i64 r) at f1
              change V1.cell? ⟨g, 2, none⟩ = some (.int .i64 tt) at f2
              change V1.cell? ⟨g, 3, none⟩ = some (.int .i64 tb) at f3
              go_wp2_with fail
              clear f0 f1 f2 f3 f4 z0 z1 z2 z3 z4 lg HI
              obtain ⟨W, hW⟩ : ∃ W, (((((V1.setCell ⟨g, 0, none⟩ (.int .i64 o)).setCell ⟨g, 1, none⟩ (.int .i64 r)).setCell ⟨g, 2, none⟩ (.int .i64 now')).setCell ⟨g, 3, none⟩ (.int .i64 tb')).setCell ⟨g, 4, none⟩ (.slice A1 n1 c1)).alloc (.cells #[.int .i64 o, .int .i64 r, .int .i64 now', .int .i64 tb', .slice A1 n1 c1] 24) = W := ⟨_, rfl⟩
              rw [hW] at HS ⊢
              have HI := Lib.hid HS.out
              clear HS hW
              have hnl : n1 ≤ 1000 := by have h1 := HI.out.aw.rd.len; have h2 := HP.out.ac.lens; have h3 : (l').length ≤ 4 * k + j + 1 := h2; have h4 : (l').length = n1 := h1; omega
              have hvl : L.length ≤ 1000 := by have h1 := HP.out.ac.len; omega
              obtain ⟨hag, hago⟩ := HP.out.age ho1 hr1
              obtain ⟨ag, hag9⟩ : ∃ z, oldV L cf now' = z := ⟨_, rfl⟩
              have HAg := Lib.hid (fun w9 (hb9 : Below W.heap.size W w9) => Age_any ⟨o, r, now', tb', l'⟩ now' A1 n1 c1 w9 (HI.out.aw.rd.up hb9) hnl (by omega))
              have HOl := Lib.hid (fun w9 (hb9 : Below W.heap.size W w9) => oldest_any VA L.length Vc L cf now' w9 (Reads.of_own (HI.out.keep hb9).row) hvl (by omega) HP.out.ac.tm)
              rw [hag9] at hag hago HOl
              rw [hag] at HAg
              have HKB := Lib.hid HI.out.aw.blk
              clear hag hag9
              have hago' : ¬ (o < ag) := by omega
              have hagd : decide (o < ag) = false := decide_eq_false hago'
              obtain ⟨⟨f0, f1, f2, f3, f4⟩, z0, z1, z2, z3, z4, lg⟩ := HI.out.aw.cells
              change W.cell? ⟨g, 0, none⟩ = some (.int .i64 o) at f0
              change W.cell? ⟨g, 1, none⟩ = some (.int .i64 r) at f1
              change W.cell? ⟨g, 2, none⟩ = some (.int .i64 now') at f2
              change W.cell? ⟨g, 3, none⟩ = some (.int .i64 tb') at f3
              go_region_held3 (fun w' => w'.cell? ⟨g, 0, none⟩ = some (.int .i64 o) ∧ w'.cell? ⟨g, 1, none⟩ = some (.int .i64 r) ∧ w'.cell? ⟨g, 2, none⟩ = some (.int .i64 now') ∧ w'.cell? ⟨g, 3, none⟩ = some (.int .i64 tb') ∧ w'.cell? ⟨g, 4, none⟩ = some (.slice A1 n1 c1) ∧ Below W.heap.size W w')
                (first
                  | exact blk5 ((Below.refl _ W).drew) HKB.out lg
                  | (go_split_ands; refine blk5 (below_step ?_ hb') HKB.out lg; assumption)
                  | (go_split_ands; refine ⟨?_, ?_, ?_, ?_, ?_, ?_⟩ <;> assumption))
                (first
                  | (go_at_call 21; refine (HAg.out _ ?_).mono ?_; (go_split_ands; assumption); rintro e w' ⟨rfl, hb'⟩)
                  | (go_at_call 22; refine (HOl.out _ ?_).mono ?_; (go_split_ands; assumption); rintro e w' ⟨rfl, hb'⟩))
              rename_i hS
              replace HI := Lib.hid (HI.out.keep hS.2.2.2.2.2)
              clear f0 f1 f2 f3 f4 z0 z1 z2 z3 z4 lg HKB HAg HOl hS hago hago' hagd
              go_wp2_with fail
              go_roundw
              case rel => exact ⟨j + 1, ⟨o, r, now', tb', l'⟩, A1, n1, c1, now', cf, by omega, by go_num, rfl, rfl, HI.out, HP.out⟩
              case measure => simp [intOf]; omega

          · obtain ⟨N, hN⟩ : ∃ z, x / 12 % 20 + 1 = z := ⟨_, rfl⟩
            have hN9 : 1 ≤ N ∧ N ≤ 128 := by omega
            obtain ⟨hN1, hN2⟩ := hN9
            have hi9 : 4 * k + j ≤ 900 := by omega
            have hBo : r * o = B := HBe.out
            have hr1 := HRO.out.2.1
            by_cases hNB : N ≤ B
            · by_cases hadm : total - conf + N ≤ B
              · obtain ⟨l', hPr, hP'⟩ := HP.out.adm hi9 (k := N) ⟨hN1, hN2⟩ (by omega)
                obtain ⟨tb', htb⟩ : ∃ z, total - conf + N = z := ⟨_, rfl⟩
                obtain ⟨tot', htt⟩ : ∃ z, total + N = z := ⟨_, rfl⟩
                obtain ⟨LL, hLL⟩ : ∃ z, L ++ [⟨now, tot'⟩] = z := ⟨_, rfl⟩
                have HLL := Lib.hid hLL
                have hll : L.length ≤ 300 := by have h9 := HP.out.ac.len; omega
                rw [htb] at hPr hP' hadm
                rw [htt, hLL] at hP'
                clear hLL
                have hC1 := Write_fresh ⟨o, r, tt, tb, tl⟩ now N A n c wr HI.out.aw.rd nl
                rw [hPr] at hC1
                have HC1 := Lib.hid hC1
                replace HP := Lib.hid hP'
                clear hC1 hPr hP'
                obtain ⟨⟨f0, f1, f2, f3, f4⟩, z0, z1, z2, z3, z4, lg⟩ := HI.out.aw.cells
                change wr.cell? ⟨g, 0, none⟩ = some (.int .i64 o) at f0
                change wr.cell? ⟨g, 1, none⟩ = some (.int .i64 r) at f1
                change wr.cell? ⟨g, 2, none⟩ = some (.int .i64 tt) at f2
                change wr.cell? ⟨g, 3, none⟩ = some (.int .i64 tb) at f3
                go_wp2_with fail
                refine HC1.out.mono ?_
                rintro e V1 ⟨⟨_, rfl, A1, n1, c1, rfl, hR1, _, _, hf1⟩, hb1⟩
                have HS := Lib.hid ((HI.out.put hb1 hR1 hf1 (T' := ⟨o, r, now, tb', l'⟩) (c' := c1)).new (.cells #[.int .i64 o, .int .i64 r, .int .i64 now, .int .i64 tb', .slice A1 n1 c1] 24))
                have hK1 := HI.out.keep hb1
                clear f0 f1 f2 f3 f4 z0 z1 z2 z3 z4 lg
                replace HI := Lib.hid hK1
                clear hR1 hf1 hb1 hK1
                obtain ⟨⟨f0, f1, f2, f3, f4⟩, z0, z1, z2, z3, z4, lg⟩ := HI.out.aw.cells
                change V1.cell? ⟨g, 0, none⟩ = some (.int .i64 o) at f0
                change V1.cell? ⟨g, 1, none⟩ = some (.int .i64 r) at f1
                change V1.cell? ⟨g, 2, none⟩ = some (.int .i64 tt) at f2
                change V1.cell? ⟨g, 3, none⟩ = some (.int .i64 tb) at f3
                obtain ⟨i0, hi0, hz0, hz1, hz2⟩ := info_parts info49k
                have HF := Lib.hid (And.intro hi0 (And.intro hz0 (And.intro hz1 hz2)))
                clear hi0 hz0 hz1 hz2
                obtain ⟨W, hW⟩ : ∃ W, (((((V1.setCell ⟨g, 0, none⟩ (.int .i64 o)).setCell ⟨g, 1, none⟩ (.int .i64 r)).setCell ⟨g, 2, none⟩ (.int .i64 now)).setCell ⟨g, 3, none⟩ (.int .i64 tb')).setCell ⟨g, 4, none⟩ (.slice A1 n1 c1)).alloc (.cells #[.int .i64 o, .int .i64 r, .int .i64 now, .int .i64 tb', .slice A1 n1 c1] 24) = W := ⟨_, rfl⟩
                have HWs : Hid (W.heap.size = V1.heap.size + 1) := by rw [← hW]; exact Lib.hid (by simp)
                rw [hW] at HS
                have HWE := Lib.hid hW
                clear hW
                go_wp2_with (at_builtin; rw [HWE.out]; go_must (refine wpList_append_elemG W rfl (.tmp 121) (.tmp 125) _ rfl (g + 1) 49 i0 _ 2 16 Try.underlying43 HF.out.1 HF.out.2.1 HF.out.2.2.1 HF.out.2.2.2 rfl (by omega) _ L.length (L.flatMap encM) #[.int .i64 now, .int .i64 tot'] rfl rfl (by rw [HWs.out]; rfl) HS.out.row (one2 _ _) (by simp only [maxLen]; omega) (by omega) HS.out.aw.blk.lt ?_; intro v2 w2 h2 h3 h4; have h9 := HS.out.grow (m := ⟨now, tot'⟩) h2 h3 h4; rw [HLL.out] at h9; have HS2 := Lib.hid h9; clear h9 h2 h3 h4; obtain ⟨VA2, Vc2, rfl, _, _, _⟩ := own_slice HS2.out.row; obtain ⟨⟨e0, e1, e2, e3, e4⟩, y0, y1, y2, y3, y4, lg2⟩ := HS2.out.aw.cells; change w2.cell? ⟨g, 0, none⟩ = some (.int .i64 o) at e0; change w2.cell? ⟨g, 1, none⟩ = some (.int .i64 r) at e1; change w2.cell? ⟨g, 2, none⟩ = some (.int .i64 now) at e2; change w2.cell? ⟨g, 3, none⟩ = some (.int .i64 tb') at e3))
                clear f0 f1 f2 f3 f4 z0 z1 z2 z3 z4 lg HI HS
                have HI := HS2
                clear HS2 e0 e1 e2 e3 e4 y0 y1 y2 y3 y4 lg2
                have hnl : n1 ≤ 1000 := by have h1 := HI.out.aw.rd.len; have h2 := HP.out.ac.lens; have h3 : (l').length ≤ 4 * k + j + 1 := h2; have h4 : (l').length = n1 := h1; omega
                have hbk := HP.out.ac.back0
                have hBk := HP.out.bk
                have HBa := Lib.hid (fun w9 (hb9 : Below w2.heap.size w2 w9) => Backlog_any ⟨o, r, now, tb', l'⟩ A1 n1 c1 w9 (HI.out.aw.rd.up hb9) hnl)
                rw [hbk] at HBa
                obtain ⟨bk, hbk9⟩ : ∃ z, tot' - conf = z := ⟨_, rfl⟩
                rw [hbk9] at HBa hBk
                have hbkz : IntKind.i64.wrap bk = bk := IntWalk.i64_in _ (by omega)
                have hbky : (bk != IntKind.i64.wrap bk) = false := by rw [hbkz]; simp
                have hbk' : ¬ (B < bk) := by omega
                have hbkd : decide (B < bk) = false := decide_eq_false hbk'
                have hbkw : IntKind.i64.wrap B = B := IntWalk.i64_in _ (by omega)
                have hbkr : decide (IntKind.i64.wrap B < bk) = false := by rw [hbkw]; exact hbkd
                clear hbk
                have HKB := Lib.hid HI.out.aw.blk
                obtain ⟨⟨f0, f1, f2, f3, f4⟩, z0, z1, z2, z3, z4, lg⟩ := HI.out.aw.cells
                change w2.cell? ⟨g, 0, none⟩ = some (.int .i64 o) at f0
                change w2.cell? ⟨g, 1, none⟩ = some (.int .i64 r) at f1
                change w2.cell? ⟨g, 2, none⟩ = some (.int .i64 now) at f2
                change w2.cell? ⟨g, 3, none⟩ = some (.int .i64 tb') at f3
                go_region_held3 (fun w' => w'.cell? ⟨g, 0, none⟩ = some (.int .i64 o) ∧ w'.cell? ⟨g, 1, none⟩ = some (.int .i64 r) ∧ w'.cell? ⟨g, 2, none⟩ = some (.int .i64 now) ∧ w'.cell? ⟨g, 3, none⟩ = some (.int .i64 tb') ∧ w'.cell? ⟨g, 4, none⟩ = some (.slice A1 n1 c1) ∧ Below w2.heap.size w2 w')
                  (first
                    | exact blk5 ((Below.refl _ w2).drew) HKB.out lg
                    | (go_split_ands; refine blk5 (below_step ?_ hb') HKB.out lg; assumption)
                    | (go_split_ands; refine ⟨?_, ?_, ?_, ?_, ?_, ?_⟩ <;> assumption))
                  (first
                    | (go_at_call 23; refine (HBa.out _ ?_).mono ?_; (go_split_ands; assumption); rintro e w' ⟨rfl, hb'⟩))
                rename_i hS
                replace HI := Lib.hid (HI.out.keep hS.2.2.2.2.2)
                clear f0 f1 f2 f3 f4 z0 z1 z2 z3 z4 lg HKB HBa hS hbk' hbkd hBk hbkw hbkr hbkz hbky
                go_wp2_with fail
                go_roundw
                case rel => exact ⟨k + 1, ⟨o, r, now, tb', l'⟩, A1, n1, c1, LL, now, tot', conf, by omega, by go_num, rfl, rfl, rfl, HI.out, HP.out.mono (by omega)⟩
                case measure => simp [intOf]; omega

              · obtain ⟨l', d, hd, hPr, hP'⟩ := HP.out.wait hi9 (k := N) ⟨hN1, hN2⟩ (by omega) hr1 (by omega)
                obtain ⟨tb', htb⟩ : ∃ z, total - conf = z := ⟨_, rfl⟩
                rw [htb] at hPr hP' hadm
                have hd0 : (d == 0) = false := by rw [beq_eq_false_iff_ne]; omega
                have hC1 := Write_fresh ⟨o, r, tt, tb, tl⟩ now N A n c wr HI.out.aw.rd nl
                rw [hPr] at hC1
                have HC1 := Lib.hid hC1
                replace HP := Lib.hid hP'
                clear hC1 hPr hP'
                obtain ⟨⟨f0, f1, f2, f3, f4⟩, z0, z1, z2, z3, z4, lg⟩ := HI.out.aw.cells
                change wr.cell? ⟨g, 0, none⟩ = some (.int .i64 o) at f0
                change wr.cell? ⟨g, 1, none⟩ = some (.int .i64 r) at f1
                change wr.cell? ⟨g, 2, none⟩ = some (.int .i64 tt) at f2
                change wr.cell? ⟨g, 3, none⟩ = some (.int .i64 tb) at f3
                go_wp2_with fail
                refine HC1.out.mono ?_
                rintro e V1 ⟨⟨_, rfl, A1, n1, c1, rfl, hR1, _, _, hf1⟩, hb1⟩
                have HS := Lib.hid ((HI.out.put hb1 hR1 hf1 (T' := ⟨o, r, now, tb', l'⟩) (c' := c1)).new (.cells #[.int .i64 o, .int .i64 r, .int .i64 now, .int .i64 tb', .slice A1 n1 c1] 24))
                have hK1 := HI.out.keep hb1
                clear f0 f1 f2 f3 f4 z0 z1 z2 z3 z4 lg
                replace HI := Lib.hid hK1
                clear hR1 hf1 hb1 hK1
                obtain ⟨⟨f0, f1, f2, f3, f4⟩, z0, z1, z2, z3, z4, lg⟩ := HI.out.aw.cells
                change V1.cell? ⟨g, 0, none⟩ = some (.int .i64 o) at f0
                change V1.cell? ⟨g, 1, none⟩ = some (.int .i64 r) at f1
                change V1.cell? ⟨g, 2, none⟩ = some (.int .i64 tt) at f2
                change V1.cell? ⟨g, 3, none⟩ = some (.int .i64 tb) at f3
                go_wp2_with fail
                clear f0 f1 f2 f3 f4 z0 z1 z2 z3 z4 lg HI
                obtain ⟨W, hW⟩ : ∃ W, (((((V1.setCell ⟨g, 0, none⟩ (.int .i64 o)).setCell ⟨g, 1, none⟩ (.int .i64 r)).setCell ⟨g, 2, none⟩ (.int .i64 now)).setCell ⟨g, 3, none⟩ (.int .i64 tb')).setCell ⟨g, 4, none⟩ (.slice A1 n1 c1)).alloc (.cells #[.int .i64 o, .int .i64 r, .int .i64 now, .int .i64 tb', .slice A1 n1 c1] 24) = W := ⟨_, rfl⟩
                rw [hW] at HS ⊢
                have HI := Lib.hid HS.out
                clear HS hW
                have hnl : n1 ≤ 1000 := by have h1 := HI.out.aw.rd.len; have h2 := HP.out.ac.lens; have h3 : (l').length ≤ 4 * k + j + 1 := h2; have h4 : (l').length = n1 := h1; omega
                have hbk := HP.out.ac.back0
                have hBk := HP.out.bk
                have HBa := Lib.hid (fun w9 (hb9 : Below W.heap.size W w9) => Backlog_any ⟨o, r, now, tb', l'⟩ A1 n1 c1 w9 (HI.out.aw.rd.up hb9) hnl)
                rw [hbk] at HBa
                rw [htb] at HBa hBk
                obtain ⟨bk, hbk9⟩ : ∃ z, z = tb' := ⟨_, rfl⟩
                subst hbk9
                have hbkz : IntKind.i64.wrap bk = bk := IntWalk.i64_in _ (by omega)
                have hbky : (bk != IntKind.i64.wrap bk) = false := by rw [hbkz]; simp
                have hbk' : ¬ (B < bk) := by omega
                have hbkd : decide (B < bk) = false := decide_eq_false hbk'
                have hbkw : IntKind.i64.wrap B = B := IntWalk.i64_in _ (by omega)
                have hbkr : decide (IntKind.i64.wrap B < bk) = false := by rw [hbkw]; exact hbkd
                clear hbk
                have HKB := Lib.hid HI.out.aw.blk
                obtain ⟨⟨f0, f1, f2, f3, f4⟩, z0, z1, z2, z3, z4, lg⟩ := HI.out.aw.cells
                change W.cell? ⟨g, 0, none⟩ = some (.int .i64 o) at f0
                change W.cell? ⟨g, 1, none⟩ = some (.int .i64 r) at f1
                change W.cell? ⟨g, 2, none⟩ = some (.int .i64 now) at f2
                change W.cell? ⟨g, 3, none⟩ = some (.int .i64 bk) at f3
                go_region_held3 (fun w' => w'.cell? ⟨g, 0, none⟩ = some (.int .i64 o) ∧ w'.cell? ⟨g, 1, none⟩ = some (.int .i64 r) ∧ w'.cell? ⟨g, 2, none⟩ = some (.int .i64 now) ∧ w'.cell? ⟨g, 3, none⟩ = some (.int .i64 bk) ∧ w'.cell? ⟨g, 4, none⟩ = some (.slice A1 n1 c1) ∧ Below W.heap.size W w')
                  (first
                    | exact blk5 ((Below.refl _ W).drew) HKB.out lg
                    | (go_split_ands; refine blk5 (below_step ?_ hb') HKB.out lg; assumption)
                    | (go_split_ands; refine ⟨?_, ?_, ?_, ?_, ?_, ?_⟩ <;> assumption))
                  (first
                    | (go_at_call 23; refine (HBa.out _ ?_).mono ?_; (go_split_ands; assumption); rintro e w' ⟨rfl, hb'⟩))
                rename_i hS
                replace HI := Lib.hid (HI.out.keep hS.2.2.2.2.2)
                clear f0 f1 f2 f3 f4 z0 z1 z2 z3 z4 lg HKB HBa hS hbk' hbkd hBk hbkw hbkr hbkz hbky
                go_wp2_with fail
                go_roundw
                case rel => exact ⟨k + 1, ⟨o, r, now, bk, l'⟩, A1, n1, c1, L, now, total, conf, by omega, by go_num, rfl, rfl, rfl, HI.out, HP.out.mono (by omega)⟩
                case measure => simp [intOf]; omega

            · have hPr := HP.out.over hi9 (k := N) ⟨hN1, hN2⟩ (by omega)
              have hC1 := Write_fresh ⟨o, r, tt, tb, tl⟩ now N A n c wr HI.out.aw.rd nl
              rw [hPr] at hC1
              have HC1 := Lib.hid hC1
              clear hC1 hPr
              obtain ⟨⟨f0, f1, f2, f3, f4⟩, z0, z1, z2, z3, z4, lg⟩ := HI.out.aw.cells
              change wr.cell? ⟨g, 0, none⟩ = some (.int .i64 o) at f0
              change wr.cell? ⟨g, 1, none⟩ = some (.int .i64 r) at f1
              change wr.cell? ⟨g, 2, none⟩ = some (.int .i64 tt) at f2
              change wr.cell? ⟨g, 3, none⟩ = some (.int .i64 tb) at f3
              go_wp2_with fail
              refine HC1.out.mono ?_
              rintro e V1 ⟨⟨_, rfl, A1, n1, c1, rfl, hR1, _, _, hf1⟩, hb1⟩
              have hK1 := HI.out.keep hb1
              clear f0 f1 f2 f3 f4 z0 z1 z2 z3 z4 lg
              replace HI := Lib.hid hK1
              clear hR1 hf1 hb1 hK1
              obtain ⟨⟨f0, f1, f2, f3, f4⟩, z0, z1, z2, z3, z4, lg⟩ := HI.out.aw.cells
              change V1.cell? ⟨g, 0, none⟩ = some (.int .i64 o) at f0
              change V1.cell? ⟨g, 1, none⟩ = some (.int .i64 r) at f1
              change V1.cell? ⟨g, 2, none⟩ = some (.int .i64 tt) at f2
              change V1.cell? ⟨g, 3, none⟩ = some (.int .i64 tb) at f3
              dsimp only [Th.zero]
              go_wp2_with fail
              go_roundw
              case rel => exact ⟨k + 1, ⟨o, r, tt, tb, tl⟩, A, n, c, L, now, total, conf, by omega, by go_num, rfl, rfl, rfl, HI.out.new _, HP.out.mono (by omega)⟩
              case measure => simp [intOf]; omega

      · have ik : ¬ (k : Int) < m := by omega
        have HW := Lib.hid hI.aw.bel
        clear hI hP
        go_wp2_with fail
        refine (awake_any _).mono ?_
        rintro e w9 ⟨rfl, hb9⟩
        go_wp2_with fail
        go_ret
        exact ⟨rfl, HW.out.trans (hb9.mono HW.out.size)⟩
end Go.Proofs.Ythkpkjigfaannaa
