/- The walk of the law ThrottleWaits. No condition. -/
import Derived.Test.YthkpkjigfaannaaMathG
import Derived.Test.YthkpkjigfaannaaWo
import Derived.Deep.CutRange
namespace Go.Proofs.Ythkpkjigfaannaa
open Go.RowKit
set_option maxRecDepth 100000 in
set_option maxHeartbeats 4000000 in
theorem walkThrottleWaits (w : World) (v0 v1 v2 : Value) (h0 : Arg5 w v0) (h1 : Arg5 w v1) (h2 : Arg51 w v2) : Calls Try.prog 6 #[v0, v1, v2] w fun e w' => e = .returned (.bool true) ∧ Below w.heap.size w w' := by
  obtain ⟨a, rfl, ha⟩ := h0
  obtain ⟨b, rfl, hb⟩ := h1
  obtain ⟨A0, m, c0, q, rfl, hQ, hmc, hcm⟩ := h2
  obtain ⟨o, ho⟩ : ∃ o, a % 12 + 1 = o := ⟨_, rfl⟩
  obtain ⟨r, hr⟩ : ∃ r, b % 6 + 1 = r := ⟨_, rfl⟩
  have HBg := Lib.hid (fun w9 => begin_any a b ha hb w9)
  rw [ho, hr] at HBg
  have ho1 : 1 ≤ o ∧ o ≤ 12 := by omega
  have hr1 : 1 ≤ r ∧ r ≤ 6 := by omega
  have hB : 1 ≤ r * o ∧ r * o ≤ 72 := by
    obtain ⟨h1, h2⟩ := hr1
    have : r = 1 ∨ r = 2 ∨ r = 3 ∨ r = 4 ∨ r = 5 ∨ r = 6 := by omega
    rcases this with rfl | rfl | rfl | rfl | rfl | rfl <;> omega
  have HP0 := Lib.hid (KpP.start o r ho1 hr1 (by omega))
  obtain ⟨B, hBe⟩ : ∃ B, r * o = B := ⟨_, rfl⟩
  rw [hBe] at hB
  have HBe := Lib.hid hBe
  have HRO := Lib.hid (And.intro ho1 hr1)
  obtain ⟨hql, gq, off, hgq, hcq⟩ := bytes_cells hQ
  have HC := Lib.hid (And.intro hgq hcq)
  clear hgq hcq hQ hBe ho hr ha hb ho1 hr1
  by_cases h60 : m > 40
  · have h60' : (m : Int) > 40 := by omega
    go_enter Try.func6, Try.ntmps6
    go_wp2_with fail
    refine (HBg.out _).mono ?_
    rintro e w1 ⟨rfl, hb1⟩
    have HB1 := Lib.hid hb1
    clear hb1
    go_wp2_with fail
    refine (awake_any _).mono ?_
    rintro e w2 ⟨rfl, hb2⟩
    go_wp2_with fail
    go_ret
    exact ⟨rfl, (HB1.out.alloc HB1.out.size _).trans (hb2.mono (by simp; exact Nat.le_succ_of_le HB1.out.size))⟩
  · have h60' : ¬ (m : Int) > 40 := by omega
    go_enter Try.func6, Try.ntmps6
    go_wp2_with fail
    refine (HBg.out _).mono ?_
    rintro e w1 ⟨rfl, hb1⟩
    have hI0 : AwI w w1.heap.size ⟨o, r, 0, 0, []⟩ none 0 0 (w1.alloc (.cells #[.int .i64 o, .int .i64 r, .int .i64 0, .int .i64 0, .slice none 0 0] 24)) :=
      ⟨Blk.new _ _ _, Reads.none_, (fun ad h => by cases h), hb1.alloc hb1.size _, hb1.size⟩
    have HI0 := Lib.hid hI0
    clear hb1 hI0
    go_wp2_with fail
    obtain ⟨W0, hW0⟩ : ∃ W0, w1.alloc (.cells #[.int .i64 o, .int .i64 r, .int .i64 0, .int .i64 0, .slice none 0 0] 24) = W0 := ⟨_, rfl⟩
    rw [hW0] at HI0 ⊢
    generalize w1.heap.size = g at *
    clear hW0
    go_loopw [9, 10, 11, 43] (fun t9 t10 t11 t43 wr => ∃ (k : Nat) (T : Th) (A : Option Addr) (n c : Nat) (L : List Mk) (now total conf : Int), k ≤ m ∧ t43 = .int .i64 k ∧ t9 = .int .i64 now ∧ t10 = .int .i64 total ∧ t11 = .int .i64 conf ∧ AwI w g T A n c wr ∧ KpP o r T L now total conf (14 * k)) (fun _ _ _ i _ => m - (intOf i).toNat)
    case atStart => exact ⟨0, _, none, 0, 0, [], 0, 0, 0, by omega, rfl, rfl, rfl, rfl, HI0.out, HP0.out⟩
    case round =>
      obtain ⟨k, T, A, n, c, L, now, total, conf, hk, rfl, rfl, rfl, rfl, hI, hP⟩ := hrel
      by_cases hkm : k < m
      · obtain ⟨hA0, hgw⟩ := HC.out.1 (by omega)
        have d0 := (hI.bel.cell (p := ⟨gq, off + k, none⟩) hgw).trans (HC.out.2 k (by omega))
        have hkl : k < q.length := by omega
        obtain ⟨x, hx⟩ : ∃ x, q[k]'hkl = x := ⟨_, rfl⟩
        rw [hx] at d0
        obtain ⟨x0, x1⟩ := x
        dsimp only at d0
        obtain ⟨x, hx0⟩ : ∃ x : Int, (x0 : Int) = x := ⟨_, rfl⟩
        have x2 : 0 ≤ x ∧ x ≤ 255 := by omega
        obtain ⟨x2, x3⟩ := x2
        rw [hx0] at d0
        clear hx0 hx
        obtain ⟨o', r', tt, tb, tl⟩ := T
        obtain rfl : o = o' := hP.ac.fo.symm
        obtain rfl : r = r' := hP.ac.fr.symm
        have nl : n ≤ 1000 := by have h1 := hI.rd.len; have h2 := hP.ac.lens; dsimp only at h1 h2; omega
        have hpn := hP.ac.n0
        have hpc := hP.ac.c0
        obtain ⟨pn0, pn1⟩ := hpn
        obtain ⟨pc0, pc1, pc2⟩ := hpc
        have HP := Lib.hid hP
        have HI := Lib.hid hI
        have ik : (k : Int) < m := by omega
        have k40 : k ≤ 39 := by omega
        subst hA0
        obtain ⟨N, hN⟩ : ∃ z, x % 30 + 1 = z := ⟨_, rfl⟩
        have hN9 : 1 ≤ N ∧ N ≤ 128 := by omega
        obtain ⟨hN1, hN2⟩ := hN9
        have hi9 : 14 * k + 14 ≤ 900 := by omega
        have hBo : r * o = B := HBe.out
        have hr1 := HRO.out.2.1
        have ho12 := HRO.out.1.2
        clear hI hP
        by_cases hNB : N ≤ B
        · have hNB' : ¬ (B < N) := by omega
          obtain ⟨l', b', d, L', hd0, hPr, hS⟩ := HP.out.begin hi9 ⟨hN1, hN2⟩ (by omega) hr1 ho12
          have hd0' : ¬ (d < 0) := by omega
          have hC1 := Write_fresh ⟨o, r, tt, tb, tl⟩ now N A n c wr HI.out.rd nl
          rw [hPr] at hC1
          have HC1 := Lib.hid hC1
          have HWS := Lib.hid hS
          clear hC1 hPr hS
          obtain ⟨⟨f0, f1, f2, f3, f4⟩, z0, z1, z2, z3, z4, lg⟩ := HI.out.cells
          change wr.cell? ⟨g, 0, none⟩ = some (.int .i64 o) at f0
          change wr.cell? ⟨g, 1, none⟩ = some (.int .i64 r) at f1
          change wr.cell? ⟨g, 2, none⟩ = some (.int .i64 tt) at f2
          change wr.cell? ⟨g, 3, none⟩ = some (.int .i64 tb) at f3
          go_wp2_with fail
          refine HC1.out.mono ?_
          rintro e V1 ⟨⟨_, rfl, A1, n1, c1, rfl, hR1, _, _, hf1⟩, hb1⟩
          have HS := Lib.hid ((HI.out.put hb1 hR1 hf1 (T' := ⟨o, r, now, b', l'⟩) (c' := c1)).keep ((Below.refl _ _).alloc (Nat.le_refl _) (.cells #[.int .i64 o, .int .i64 r, .int .i64 now, .int .i64 b', .slice A1 n1 c1] 24)))
          have hK1 := HI.out.keep hb1
          clear f0 f1 f2 f3 f4 z0 z1 z2 z3 z4 lg
          replace HI := Lib.hid hK1
          clear hR1 hf1 hb1 hK1
          obtain ⟨⟨f0, f1, f2, f3, f4⟩, z0, z1, z2, z3, z4, lg⟩ := HI.out.cells
          change V1.cell? ⟨g, 0, none⟩ = some (.int .i64 o) at f0
          change V1.cell? ⟨g, 1, none⟩ = some (.int .i64 r) at f1
          change V1.cell? ⟨g, 2, none⟩ = some (.int .i64 tt) at f2
          change V1.cell? ⟨g, 3, none⟩ = some (.int .i64 tb) at f3
          go_wp2_with fail
          clear f0 f1 f2 f3 f4 z0 z1 z2 z3 z4 lg HI HP HC1
          obtain ⟨W, hW⟩ : ∃ W, (((((V1.setCell ⟨g, 0, none⟩ (.int .i64 o)).setCell ⟨g, 1, none⟩ (.int .i64 r)).setCell ⟨g, 2, none⟩ (.int .i64 now)).setCell ⟨g, 3, none⟩ (.int .i64 b')).setCell ⟨g, 4, none⟩ (.slice A1 n1 c1)).alloc (.cells #[.int .i64 o, .int .i64 r, .int .i64 now, .int .i64 b', .slice A1 n1 c1] 24) = W := ⟨_, rfl⟩
          rw [hW] at HS ⊢
          clear hW
          go_loopw [9, 11, 18] (fun t9 t11 t18 wr => ∃ (T : Th) (A : Option Addr) (n c : Nat) (L : List Mk) (now conf j : Int), t18 = .int .i64 j ∧ t9 = .int .i64 now ∧ t11 = .int .i64 conf ∧ AwI w g T A n c wr ∧ WtS o r T L now total conf N j (14 * k)) (fun _ _ i _ => (intOf i).toNat)
          case atStart => exact ⟨_, A1, n1, c1, L', now, conf, d, rfl, rfl, rfl, HS.out, HWS.out⟩
          case round =>
            clear HS HWS d0 hd0 hd0'
            obtain ⟨T, A, n, c, L, now, conf, j, rfl, rfl, rfl, hI, hS⟩ := hrel
            rcases hS with ⟨rfl, hP⟩ | ⟨⟨hj1, hj2⟩, hP⟩
            · obtain ⟨o', r', tt, tb, tl⟩ := T
              obtain rfl : o = o' := hP.ac.fo.symm
              obtain rfl : r = r' := hP.ac.fr.symm
              have nl : n ≤ 1000 := by have h1 := hI.rd.len; have h2 := hP.ac.lens; dsimp only at h1 h2; omega
              have hbk := hP.ac.back0
              obtain ⟨tot', htt⟩ : ∃ z, total + N = z := ⟨_, rfl⟩
              rw [htt] at hP hbk
              obtain ⟨pn0, pn1⟩ := hP.ac.n0
              obtain ⟨pc0, pc1, pc2⟩ := hP.ac.c0
              have HP := Lib.hid hP
              have HI := Lib.hid hI
              have hBa := Backlog_any ⟨o, r, tt, tb, tl⟩ A n c wr hI.rd nl
              rw [hbk] at hBa
              have HBa := Lib.hid hBa
              clear hI hP hbk hBa
              obtain ⟨⟨f0, f1, f2, f3, f4⟩, z0, z1, z2, z3, z4, lg⟩ := HI.out.cells
              change wr.cell? ⟨g, 0, none⟩ = some (.int .i64 o) at f0
              change wr.cell? ⟨g, 1, none⟩ = some (.int .i64 r) at f1
              change wr.cell? ⟨g, 2, none⟩ = some (.int .i64 tt) at f2
              change wr.cell? ⟨g, 3, none⟩ = some (.int .i64 tb) at f3
              go_wp2_with fail
              refine HBa.out.mono ?_
              rintro e x1 ⟨rfl, hb1⟩
              replace HI := Lib.hid (HI.out.keep hb1)
              clear f0 f1 f2 f3 f4 z0 z1 z2 z3 z4 lg hb1 HBa
              go_wp2_with fail
              go_roundw
              case rel => exact ⟨k + 1, ⟨o, r, tt, tb, tl⟩, A, n, c, L, now, tot', conf, by omega, by go_num, rfl, rfl, rfl, HI.out, HP.out.mono (by omega)⟩
              case measure => simp [intOf]; omega

            · by_cases hj : j = 1
              · subst hj
                obtain ⟨o', r', tt, tb, tl⟩ := T
                obtain rfl : o = o' := hP.kp.ac.fo.symm
                obtain rfl : r = r' := hP.kp.ac.fr.symm
                have nl : n ≤ 1000 := by have h1 := hI.rd.len; have h2 := hP.kp.ac.lens; dsimp only at h1 h2; omega
                obtain ⟨pn0, pn1⟩ := hP.kp.ac.n0
                obtain ⟨pc0, pc1, pc2⟩ := hP.kp.ac.c0
                obtain ⟨now', hn'⟩ : ∃ z, now + 1 = z := ⟨_, rfl⟩
                obtain ⟨cf, hcf⟩ : ∃ z, min total (conf + r) = z := ⟨_, rfl⟩
                have HCF := Lib.hid hcf
                have HWP := Lib.hid hP
                have HI := Lib.hid hI
                clear hP hI hcf
                obtain ⟨⟨f0, f1, f2, f3, f4⟩, z0, z1, z2, z3, z4, lg⟩ := HI.out.cells
                change wr.cell? ⟨g, 0, none⟩ = some (.int .i64 o) at f0
                change wr.cell? ⟨g, 1, none⟩ = some (.int .i64 r) at f1
                change wr.cell? ⟨g, 2, none⟩ = some (.int .i64 tt) at f2
                change wr.cell? ⟨g, 3, none⟩ = some (.int .i64 tb) at f3
                go_upto_region 18 with fail
                go_cut [11] from 74 to 116 (fun s11 wx => s11 = .int .i64 cf ∧ wx = wr)
                case first =>
                  have hcf := HCF.out
                  obtain ⟨cg, hcg⟩ : ∃ z, conf + r = z := ⟨_, rfl⟩
                  rw [hcg] at hcf
                  have hr6 := HRO.out.2.2
                  have hcg9 : 0 ≤ cg ∧ cg ≤ 1000000 := by omega
                  obtain ⟨hcg8, hcg9⟩ := hcg9
                  rcases Int.lt_trichotomy total cg with hrb | hrb | hrb
                  · go_wp2_with fail
                    go_meet
                    exact ⟨by rw [← hcf, Int.min_eq_left (by omega)], rfl⟩
                  · subst hrb
                    go_wp2_with fail
                    go_meet
                    exact ⟨by rw [← hcf, Int.min_eq_left (by omega)], rfl⟩
                  · go_wp2_with fail
                    go_meet
                    exact ⟨by rw [← hcf, Int.min_eq_right (by omega)], rfl⟩
                case rest =>
                obtain ⟨rfl, rfl⟩ := hcut
                clear f0 f1 f2 f3 f4 z0 z1 z2 z3 z4 lg
                have hcf := HCF.out
                have hP := HWP.out
                have hI := HI.out
                have hcf0 : 0 ≤ cf ∧ cf ≤ total := by omega
                obtain ⟨hcf1, hcf2⟩ := hcf0
                obtain ⟨l', l2, L', hPr, hl', hPw, hS⟩ := hP.lastS (now' := now') (conf' := cf) hi9 ⟨hN1, hN2⟩ (by omega) hr1 hn'.symm (by omega)
                obtain ⟨tz, htz⟩ : ∃ z, total - cf + N = z := ⟨_, rfl⟩
                rw [htz] at hPw hS
                obtain ⟨tb', htb⟩ : ∃ z, total - cf = z := ⟨_, rfl⟩
                rw [htb] at hPr hPw
                clear htb htz hcf
                have hC1 := Progress_fresh ⟨o, r, tt, tb, tl⟩ now' cf A n c wc hI.rd nl
                rw [hPr] at hC1
                have HC1 := Lib.hid hC1
                have HWS := Lib.hid hS
                have HPw := Lib.hid hPw
                replace HI := Lib.hid hI
                clear hC1 hPr hPw hS hI hP HWP
                obtain ⟨⟨f0, f1, f2, f3, f4⟩, z0, z1, z2, z3, z4, lg⟩ := HI.out.cells
                change wc.cell? ⟨g, 0, none⟩ = some (.int .i64 o) at f0
                change wc.cell? ⟨g, 1, none⟩ = some (.int .i64 r) at f1
                change wc.cell? ⟨g, 2, none⟩ = some (.int .i64 tt) at f2
                change wc.cell? ⟨g, 3, none⟩ = some (.int .i64 tb) at f3
                go_wp2_with fail
                refine HC1.out.mono ?_
                rintro e V1 ⟨⟨_, rfl, A1, n1, c1, rfl, hR1, _, _, hf1⟩, hb1⟩
                have hk1 : Blk (V1.alloc (.cells #[.int .i64 o, .int .i64 r, .int .i64 now', .int .i64 tb', .slice A1 n1 c1] 24)) V1.heap.size 24 #[.int .i64 o, .int .i64 r, .int .i64 now', .int .i64 tb', .slice A1 n1 c1] := Blk.new _ _ _
                have hx1 : Below V1.heap.size V1 (V1.alloc (.cells #[.int .i64 o, .int .i64 r, .int .i64 now', .int .i64 tb', .slice A1 n1 c1] 24)) := (Below.refl _ _).alloc (Nat.le_refl _) _
                have hB1 := hb1.trans (hx1.mono hb1.size)
                have hR1' := hR1.up hx1
                have n1l : n1 ≤ 1000 := by have h1 := hR1.len; dsimp only at h1; omega
                clear f0 f1 f2 f3 f4 z0 z1 z2 z3 z4 lg
                have hsz := hb1.size
                have hC2 := fun W9 hR9 => Write_fresh ⟨o, r, now', tb', l'⟩ now' N A1 n1 c1 W9 hR9 n1l
                rw [HPw.out] at hC2
                have HC2 := Lib.hid hC2
                have HR1 := Lib.hid hR1'
                have HB1 := Lib.hid hB1
                have HF1 := Lib.hid hf1
                have HK1 := Lib.hid hk1
                obtain ⟨e0, e1, e2, e3, e4, _⟩ := blk5 (Below.refl _ _) hk1 hk1.lt
                clear hC2 hR1' hB1 hf1 hk1 hx1 hR1 hb1 HPw HC1
                go_wp2_with fail
                refine (HC2.out _ HR1.out).mono ?_
                rintro e V2 ⟨⟨_, rfl, A2, n2, c2, rfl, hR2, _, _, hf2⟩, hb2⟩
                clear e0 e1 e2 e3 e4
                have hB2 := HB1.out.trans (hb2.mono HB1.out.size)
                have hlg := HI.out.blk.lt
                have hk2 := HK1.out.below hb2 HK1.out.lt
                obtain ⟨e0, e1, e2, e3, e4, _⟩ := blk5 (Below.refl _ V2) hk2 hk2.lt
                have le := hk2.lt
                have hp1 := HI.out.put hB2 (HR1.out.up hb2) HF1.out (T' := ⟨o, r, now', tb', l'⟩) (c' := c1)
                have hne2 : ∀ ad, A2 = some ad → ad.block ≠ g := fun ad e9 => by have h8 := hf2 ad e9; have h7 := HB1.out.size; omega
                have hzb := Blk.new ((((((V2.setCell ⟨g, 0, none⟩ (.int .i64 o)).setCell ⟨g, 1, none⟩ (.int .i64 r)).setCell ⟨g, 2, none⟩ (.int .i64 now')).setCell ⟨g, 3, none⟩ (.int .i64 tb')).setCell ⟨g, 4, none⟩ (.slice A1 n1 c1))) 24 #[.int .i64 o, .int .i64 r, .int .i64 now', .int .i64 tz, .slice A2 n2 c2]
                have hRz := RdM.up (RdM.far5 hR2 hne2 (x := .int .i64 o) (y := .int .i64 r) (z := .int .i64 now') (u := .int .i64 tb') (v := .slice A1 n1 c1)) ((Below.refl _ _).alloc (Nat.le_refl _) (.cells #[.int .i64 o, .int .i64 r, .int .i64 now', .int .i64 tz, .slice A2 n2 c2] 24))
                have hSx := hp1.keep ((Below.refl _ _).alloc (Nat.le_refl _) (.cells #[.int .i64 o, .int .i64 r, .int .i64 now', .int .i64 tz, .slice A2 n2 c2] 24))
                have hzs : ((((((V2.setCell ⟨g, 0, none⟩ (.int .i64 o)).setCell ⟨g, 1, none⟩ (.int .i64 r)).setCell ⟨g, 2, none⟩ (.int .i64 now')).setCell ⟨g, 3, none⟩ (.int .i64 tb')).setCell ⟨g, 4, none⟩ (.slice A1 n1 c1))).heap.size = V2.heap.size := by simp [World.setCell]
                rw [hzs] at hzb
                clear hzs
                replace HI := Lib.hid (HI.out.keep hB2)
                have HZB := Lib.hid hzb
                have HRz := Lib.hid hRz
                have HSx := Lib.hid hSx
                have HNe := Lib.hid hne2
                clear hk2 hB2 hR2 hf2 hb2 HC2 HR1 HB1 HF1 HK1 hlg hp1 hzb hRz hSx hne2
                obtain ⟨⟨f0, f1, f2, f3, f4⟩, z0, z1, z2, z3, z4, lg⟩ := HI.out.cells
                change V2.cell? ⟨g, 0, none⟩ = some (.int .i64 o) at f0
                change V2.cell? ⟨g, 1, none⟩ = some (.int .i64 r) at f1
                change V2.cell? ⟨g, 2, none⟩ = some (.int .i64 tt) at f2
                change V2.cell? ⟨g, 3, none⟩ = some (.int .i64 tb) at f3
                go_upto_region 25 with fail
                clear f0 f1 f2 f3 f4 z0 z1 z2 z3 z4 lg HI e0 e1 e2 e3 e4
                obtain ⟨X1, hX1⟩ : ∃ X1, ((((((V2.setCell ⟨g, 0, none⟩ (.int .i64 o)).setCell ⟨g, 1, none⟩ (.int .i64 r)).setCell ⟨g, 2, none⟩ (.int .i64 now')).setCell ⟨g, 3, none⟩ (.int .i64 tb')).setCell ⟨g, 4, none⟩ (.slice A1 n1 c1))).alloc (.cells #[.int .i64 o, .int .i64 r, .int .i64 now', .int .i64 tz, .slice A2 n2 c2] 24) = X1 := ⟨_, rfl⟩
                rw [hX1] at HZB HRz HSx ⊢
                clear hX1
                have HS := Lib.hid (HSx.out.put2 HRz.out HNe.out (T' := ⟨o, r, now', tz, l2⟩) (c' := c2))
                obtain ⟨e0, e1, e2, e3, e4, _⟩ := blk5 (Below.refl _ X1) HZB.out HZB.out.lt
                have lz := HZB.out.lt
                replace HI := HSx
                obtain ⟨⟨f0, f1, f2, f3, f4⟩, z0, z1, z2, z3, z4, lg⟩ := HI.out.cells
                change X1.cell? ⟨g, 0, none⟩ = some (.int .i64 o) at f0
                change X1.cell? ⟨g, 1, none⟩ = some (.int .i64 r) at f1
                change X1.cell? ⟨g, 2, none⟩ = some (.int .i64 now') at f2
                change X1.cell? ⟨g, 3, none⟩ = some (.int .i64 tb') at f3
                go_wp2_with fail
                clear f0 f1 f2 f3 f4 z0 z1 z2 z3 z4 lg HI
                go_roundw
                case rel => exact ⟨_, A2, n2, c2, L', now', cf, 0, rfl, rfl, rfl, HS.out, HWS.out⟩
                case measure => simp [intOf]

              · obtain ⟨o', r', tt, tb, tl⟩ := T
                obtain rfl : o = o' := hP.kp.ac.fo.symm
                obtain rfl : r = r' := hP.kp.ac.fr.symm
                have nl : n ≤ 1000 := by have h1 := hI.rd.len; have h2 := hP.kp.ac.lens; dsimp only at h1 h2; omega
                obtain ⟨pn0, pn1⟩ := hP.kp.ac.n0
                obtain ⟨pc0, pc1, pc2⟩ := hP.kp.ac.c0
                obtain ⟨now', hn'⟩ : ∃ z, now + 1 = z := ⟨_, rfl⟩
                obtain ⟨cf, hcf⟩ : ∃ z, min total (conf + r) = z := ⟨_, rfl⟩
                have HCF := Lib.hid hcf
                have HWP := Lib.hid hP
                have HI := Lib.hid hI
                clear hP hI hcf
                have hj9 : 2 ≤ j := by omega
                have hjp : 0 < j := by omega
                obtain ⟨⟨f0, f1, f2, f3, f4⟩, z0, z1, z2, z3, z4, lg⟩ := HI.out.cells
                change wr.cell? ⟨g, 0, none⟩ = some (.int .i64 o) at f0
                change wr.cell? ⟨g, 1, none⟩ = some (.int .i64 r) at f1
                change wr.cell? ⟨g, 2, none⟩ = some (.int .i64 tt) at f2
                change wr.cell? ⟨g, 3, none⟩ = some (.int .i64 tb) at f3
                go_upto_region 18 with fail
                go_cut [11] from 74 to 116 (fun s11 wx => s11 = .int .i64 cf ∧ wx = wr)
                case first =>
                  have hcf := HCF.out
                  obtain ⟨cg, hcg⟩ : ∃ z, conf + r = z := ⟨_, rfl⟩
                  rw [hcg] at hcf
                  have hr6 := HRO.out.2.2
                  have hcg9 : 0 ≤ cg ∧ cg ≤ 1000000 := by omega
                  obtain ⟨hcg8, hcg9⟩ := hcg9
                  rcases Int.lt_trichotomy total cg with hrb | hrb | hrb
                  · go_wp2_with fail
                    go_meet
                    exact ⟨by rw [← hcf, Int.min_eq_left (by omega)], rfl⟩
                  · subst hrb
                    go_wp2_with fail
                    go_meet
                    exact ⟨by rw [← hcf, Int.min_eq_left (by omega)], rfl⟩
                  · go_wp2_with fail
                    go_meet
                    exact ⟨by rw [← hcf, Int.min_eq_right (by omega)], rfl⟩
                case rest =>
                obtain ⟨rfl, rfl⟩ := hcut
                clear f0 f1 f2 f3 f4 z0 z1 z2 z3 z4 lg
                have hcf := HCF.out
                have hP := HWP.out
                have hI := HI.out
                have hcf0 : 0 ≤ cf ∧ cf ≤ total := by omega
                obtain ⟨hcf1, hcf2⟩ := hcf0
                have hcf3 : cf = conf + r := by have := hP.more (by omega) hr1 hj9; omega
                obtain ⟨j', hj'⟩ : ∃ z, j - 1 = z := ⟨_, rfl⟩
                have hj0 : (j' == 0) = false := by rw [beq_eq_false_iff_ne]; omega
                obtain ⟨l', l2, hPr, hl', hPw, hS⟩ := hP.tickS (now' := now') (conf' := cf) (d' := j') hi9 ⟨hN1, hN2⟩ (by omega) hr1 ⟨hj9, hj2⟩ hn'.symm hcf3 hj'.symm
                obtain ⟨tb', htb⟩ : ∃ z, total - cf = z := ⟨_, rfl⟩
                rw [htb] at hPr hPw hS
                clear htb hcf hcf3
                have hC1 := Progress_fresh ⟨o, r, tt, tb, tl⟩ now' cf A n c wc hI.rd nl
                rw [hPr] at hC1
                have HC1 := Lib.hid hC1
                have HWS := Lib.hid hS
                have HPw := Lib.hid hPw
                replace HI := Lib.hid hI
                clear hC1 hPr hPw hS hI hP HWP
                obtain ⟨⟨f0, f1, f2, f3, f4⟩, z0, z1, z2, z3, z4, lg⟩ := HI.out.cells
                change wc.cell? ⟨g, 0, none⟩ = some (.int .i64 o) at f0
                change wc.cell? ⟨g, 1, none⟩ = some (.int .i64 r) at f1
                change wc.cell? ⟨g, 2, none⟩ = some (.int .i64 tt) at f2
                change wc.cell? ⟨g, 3, none⟩ = some (.int .i64 tb) at f3
                go_wp2_with fail
                refine HC1.out.mono ?_
                rintro e V1 ⟨⟨_, rfl, A1, n1, c1, rfl, hR1, _, _, hf1⟩, hb1⟩
                have hk1 : Blk (V1.alloc (.cells #[.int .i64 o, .int .i64 r, .int .i64 now', .int .i64 tb', .slice A1 n1 c1] 24)) V1.heap.size 24 #[.int .i64 o, .int .i64 r, .int .i64 now', .int .i64 tb', .slice A1 n1 c1] := Blk.new _ _ _
                have hx1 : Below V1.heap.size V1 (V1.alloc (.cells #[.int .i64 o, .int .i64 r, .int .i64 now', .int .i64 tb', .slice A1 n1 c1] 24)) := (Below.refl _ _).alloc (Nat.le_refl _) _
                have hB1 := hb1.trans (hx1.mono hb1.size)
                have hR1' := hR1.up hx1
                have n1l : n1 ≤ 1000 := by have h1 := hR1.len; dsimp only at h1; omega
                clear f0 f1 f2 f3 f4 z0 z1 z2 z3 z4 lg
                have hsz := hb1.size
                have hC2 := fun W9 hR9 => Write_fresh ⟨o, r, now', tb', l'⟩ now' N A1 n1 c1 W9 hR9 n1l
                rw [HPw.out] at hC2
                have HC2 := Lib.hid hC2
                have HR1 := Lib.hid hR1'
                have HB1 := Lib.hid hB1
                have HF1 := Lib.hid hf1
                have HK1 := Lib.hid hk1
                obtain ⟨e0, e1, e2, e3, e4, _⟩ := blk5 (Below.refl _ _) hk1 hk1.lt
                clear hC2 hR1' hB1 hf1 hk1 hx1 hR1 hb1 HPw HC1
                go_wp2_with fail
                refine (HC2.out _ HR1.out).mono ?_
                rintro e V2 ⟨⟨_, rfl, A2, n2, c2, rfl, hR2, _, _, hf2⟩, hb2⟩
                clear e0 e1 e2 e3 e4
                have hB2 := HB1.out.trans (hb2.mono HB1.out.size)
                have hlg := HI.out.blk.lt
                have HS := Lib.hid ((HI.out.put hB2 (HR1.out.up hb2) HF1.out (T' := ⟨o, r, now', tb', l'⟩) (c' := c1)).keep ((Below.refl _ _).alloc (Nat.le_refl _) (.cells #[.int .i64 o, .int .i64 r, .int .i64 now', .int .i64 tb', .slice A2 n2 c2] 24)))
                have hk2 := HK1.out.below hb2 HK1.out.lt
                obtain ⟨e0, e1, e2, e3, e4, _⟩ := blk5 (Below.refl _ V2) hk2 hk2.lt
                have le := hk2.lt
                replace HI := Lib.hid (HI.out.keep hB2)
                clear hk2 hB2 hR2 hf2 hb2 HC2 HR1 HB1 HF1 HK1 hlg
                obtain ⟨⟨f0, f1, f2, f3, f4⟩, z0, z1, z2, z3, z4, lg⟩ := HI.out.cells
                change V2.cell? ⟨g, 0, none⟩ = some (.int .i64 o) at f0
                change V2.cell? ⟨g, 1, none⟩ = some (.int .i64 r) at f1
                change V2.cell? ⟨g, 2, none⟩ = some (.int .i64 tt) at f2
                change V2.cell? ⟨g, 3, none⟩ = some (.int .i64 tb) at f3
                go_wp2_with fail
                clear f0 f1 f2 f3 f4 z0 z1 z2 z3 z4 lg HI
                go_roundw
                case rel => exact ⟨_, A1, n1, c1, L, now', cf, j', rfl, rfl, rfl, HS.out, HWS.out⟩
                case measure => simp [intOf]; omega

        · have hNB' : B < N := by omega
          obtain ⟨⟨f0, f1, f2, f3, f4⟩, z0, z1, z2, z3, z4, lg⟩ := HI.out.cells
          change wr.cell? ⟨g, 0, none⟩ = some (.int .i64 o) at f0
          change wr.cell? ⟨g, 1, none⟩ = some (.int .i64 r) at f1
          change wr.cell? ⟨g, 2, none⟩ = some (.int .i64 tt) at f2
          change wr.cell? ⟨g, 3, none⟩ = some (.int .i64 tb) at f3
          go_wp2_with fail
          go_roundw
          case rel => exact ⟨k + 1, ⟨o, r, tt, tb, tl⟩, A, n, c, L, now, total, conf, by omega, by go_num, rfl, rfl, rfl, HI.out, HP.out.mono (by omega)⟩
          case measure => simp [intOf]; omega
      · have ik : ¬ (k : Int) < m := by omega
        have HW := Lib.hid hI.bel
        clear hI hP
        go_wp2_with fail
        refine (awake_any _).mono ?_
        rintro e w9 ⟨rfl, hb9⟩
        go_wp2_with fail
        go_ret
        exact ⟨rfl, HW.out.trans (hb9.mono HW.out.size)⟩
end Go.Proofs.Ythkpkjigfaannaa
