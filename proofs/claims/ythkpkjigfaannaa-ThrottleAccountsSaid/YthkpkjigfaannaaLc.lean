/- The walk of the law ThrottleAccounts. No condition. -/
import Derived.Test.YthkpkjigfaannaaMathE
namespace Go.Proofs.Ythkpkjigfaannaa
open Go.RowKit
theorem info49 : (Try.prog.info? 49).map (fun i => (i.zero, i.size, i.bytes)) = some (some (.agg #[.int .i64 0, .int .i64 0]), 2, 16) := by kernel_rfl
theorem AcP.back {o r : Int} {T : Th} {L : List Mk} {now total conf : Int} {i : Nat} (h : AcP o r T L now total conf i) : backV T = total - conf := by
  rw [backV, if_pos h.chk, h.fb]
theorem AcP.age {o r : Int} {T : Th} {L : List Mk} {now total conf : Int} {i : Nat} (h : AcP o r T L now total conf i) : ageV T (now + 5) = oldV L conf (now + 5) := by
  have e : totM T.l - T.b = conf := by rw [h.tot, h.fb]; omega
  have := age_law h.chk (now := now + 5) (L := L) (by have := h.ft; omega) (by rw [e]; exact h.eq _ (Int.le_refl _))
  rw [e] at this
  exact this
set_option maxRecDepth 100000 in
set_option maxHeartbeats 4000000 in
theorem walkThrottleAccounts (w : World) (v0 v1 v2 : Value) (h0 : Arg5 w v0) (h1 : Arg5 w v1) (h2 : Arg55 w v2) : Calls Try.prog 7 #[v0, v1, v2] w fun e w' => e = .returned (.bool true) ∧ Below w.heap.size w w' := by
  obtain ⟨a, rfl, ha⟩ := h0
  obtain ⟨b, rfl, hb⟩ := h1
  obtain ⟨s, A0, m, c0, q, rfl, hs, hQ, hmc, hcm⟩ := h2
  obtain ⟨o, ho⟩ : ∃ o, a % 12 + 1 = o := ⟨_, rfl⟩
  obtain ⟨r, hr⟩ : ∃ r, b % 6 + 1 = r := ⟨_, rfl⟩
  have HBg := Lib.hid (fun w9 => begin_any a b ha hb w9)
  rw [ho, hr] at HBg
  have HP0 := Lib.hid (AcP.start o r s (by omega) (by omega) hs)
  have ho1 : 1 ≤ o ∧ o ≤ 12 := by omega
  have hr1 : 1 ≤ r ∧ r ≤ 6 := by omega
  have hB : 1 ≤ r * o ∧ r * o ≤ 72 := by
    obtain ⟨h1, h2⟩ := hr1
    have : r = 1 ∨ r = 2 ∨ r = 3 ∨ r = 4 ∨ r = 5 ∨ r = 6 := by omega
    rcases this with rfl | rfl | rfl | rfl | rfl | rfl <;> omega
  obtain ⟨B, hBe⟩ : ∃ B, r * o = B := ⟨_, rfl⟩
  rw [hBe] at hB
  have HBe := Lib.hid hBe
  have HRO := Lib.hid (And.intro ho1 hr1)
  have HQ := Lib.hid hQ
  obtain ⟨hql, gq, off, hgq, hcq⟩ := small_cells hQ
  have HC := Lib.hid (And.intro hgq hcq)
  clear hgq hcq hQ hBe ho hr ha hb ho1 hr1
  have hk0 : Blk (w.alloc (.cells #[.int .u8 s, .slice A0 m c0] 55)) w.heap.size 55 #[.int .u8 s, .slice A0 m c0] := Blk.new _ _ _
  have HK0 := Lib.hid hk0
  have HB0 := Lib.hid ((Below.refl _ w).alloc (Nat.le_refl _) (.cells #[.int .u8 s, .slice A0 m c0] 55))
  clear hk0
  by_cases h60 : m > 60
  · have h60' : (m : Int) > 60 := by omega
    go_enter Try.func7, Try.ntmps7
    go_wp2_with fail
    refine (HBg.out _).mono ?_
    rintro e w1 ⟨rfl, hb1⟩
    have hK1 := HK0.out.below hb1 HK0.out.lt
    have k1 := hK1.cell 1
    have l1 := hK1.lt
    have HB1 := Lib.hid (HB0.out.trans (hb1.mono HB0.out.size))
    clear hK1 hb1
    go_wp2_with fail
    refine (awake_any _).mono ?_
    rintro e w2 ⟨rfl, hb2⟩
    go_wp2_with fail
    go_ret
    exact ⟨rfl, (HB1.out.alloc HB1.out.size _).trans (hb2.mono (by simp; exact Nat.le_succ_of_le HB1.out.size))⟩
  · have h60' : ¬ (m : Int) > 60 := by omega
    go_enter Try.func7, Try.ntmps7
    go_wp2_with fail
    refine (HBg.out _).mono ?_
    rintro e w1 ⟨rfl, hb1⟩
    have hK1 := HK0.out.below hb1 HK0.out.lt
    have k0 := hK1.cell 0
    have k1 := hK1.cell 1
    have l1 := hK1.lt
    have hb01 := HB0.out.trans (hb1.mono HB0.out.size)
    have hI0 : AcI w w1.heap.size ⟨o, r, 0, 0, []⟩ none 0 0 (.slice none 0 0) [] (w1.alloc (.cells #[.int .i64 o, .int .i64 r, .int .i64 0, .int .i64 0, .slice none 0 0] 24)) :=
      ⟨⟨Blk.new _ _ _, Reads.none_, (fun ad h => by cases h), hb01.alloc hb01.size _, hb01.size⟩, World.ownsRow_nil _ _ 49 2, fun h => absurd h (by omega)⟩
    have HI0 := Lib.hid hI0
    clear hK1 hb1 hb01 hI0
    go_wp2_with fail
    obtain ⟨W0, hW0⟩ : ∃ W0, w1.alloc (.cells #[.int .i64 o, .int .i64 r, .int .i64 0, .int .i64 0, .slice none 0 0] 24) = W0 := ⟨_, rfl⟩
    rw [hW0] at HI0 ⊢
    generalize w1.heap.size = g at *
    clear hW0 k0 k1 l1
    go_loopw [9, 10, 11, 12, 45] (fun t9 t10 t11 t12 t45 wr => ∃ (k : Nat) (T : Th) (A : Option Addr) (n c : Nat) (L : List Mk) (now total conf : Int), k ≤ m ∧ t45 = .int .i64 k ∧ t9 = .int .i64 now ∧ t10 = .int .i64 total ∧ t11 = .int .i64 conf ∧ AcI w g T A n c t12 L wr ∧ AcP o r T L now total conf k) (fun _ _ _ _ i _ => m - (intOf i).toNat)
    case atStart => exact ⟨0, _, none, 0, 0, [], s, 0, 0, by omega, rfl, rfl, rfl, rfl, HI0.out, HP0.out⟩
    case round =>
      obtain ⟨k, T, A, n, c, L, now, total, conf, hk, rfl, rfl, rfl, rfl, hI, hP⟩ := hrel
      obtain ⟨pn0, pn1⟩ := hP.n0
      obtain ⟨pc0, pc1, pc2⟩ := hP.c0
      by_cases hkm : k < m
      · obtain ⟨hA0, hgw⟩ := HC.out.1 (by omega)
        have d0 := (hI.aw.bel.cell (p := ⟨gq, off + k, none⟩) hgw).trans (HC.out.2 k (by omega))
        have hkl : k < q.length := by omega
        obtain ⟨x, hx⟩ : ∃ x, q[k]'hkl = x := ⟨_, rfl⟩
        rw [hx] at d0
        obtain ⟨x, x1, x2⟩ := x
        dsimp only at d0
        obtain ⟨o', r', tt, tb, tl⟩ := T
        obtain rfl : o = o' := hP.fo.symm
        obtain rfl : r = r' := hP.fr.symm
        obtain ⟨VA, Vc, rfl, _, _, _⟩ := own_slice hI.row
        have HP := Lib.hid hP
        have HI := Lib.hid hI
        obtain ⟨now', hn'⟩ : ∃ z, now + (k : Int) % 3 = z := ⟨_, rfl⟩
        have hn1 : now ≤ now' ∧ now' ≤ now + 2 := by omega
        have nl : n ≤ 1000 := by have h1 := hI.aw.rd.len; have h2 := hP.lens; dsimp only at h1 h2; omega
        obtain ⟨hn2, hn3⟩ := hn1
        have ik : (k : Int) < m := by omega
        have k60 : k ≤ 60 := by omega
        subst hA0
        clear hx hI hP
        by_cases hx0 : x < 0
        · by_cases hmn : total ≤ conf - x
          · obtain ⟨l', hPr, hP'⟩ := HP.out.prog (now' := now') (conf' := total) k60 ⟨hn2, hn3⟩ (by omega)
            obtain ⟨tb', htb⟩ : ∃ z, total - total = z := ⟨_, rfl⟩
            rw [htb] at hPr hP'
            have hC1 := Progress_fresh ⟨o, r, tt, tb, tl⟩ now' total A n c wr HI.out.aw.rd nl
            rw [hPr] at hC1
            have HC1 := Lib.hid hC1
            replace HP := Lib.hid hP'
            have HTB := Lib.hid htb
            clear hC1 hPr hP' htb
            obtain ⟨⟨f0, f1, f2, f3, f4⟩, z0, z1, z2, z3, z4, lg⟩ := HI.out.aw.cells
            change wr.cell? ⟨g, 0, none⟩ = some (.int .i64 o) at f0
            change wr.cell? ⟨g, 1, none⟩ = some (.int .i64 r) at f1
            change wr.cell? ⟨g, 2, none⟩ = some (.int .i64 tt) at f2
            change wr.cell? ⟨g, 3, none⟩ = some (.int .i64 tb) at f3
            go_wp2_with fail
            refine HC1.out.mono ?_
            rintro e V1 ⟨⟨_, rfl, A1, n1, c1, rfl, hR1, _, _, hf1⟩, hb1⟩
            have HS := Lib.hid ((HI.out.put hb1 hR1 hf1 (T' := ⟨o, r, now', tb', l'⟩) (c' := c1)).new (.cells #[.int .i64 o, .int .i64 r, .int .i64 now', .int .i64 tb', .slice A1 n1 c1] 24))
            have hK1 := HI.out.keep hb1
            clear f0 f1 f2 f3 f4 z0 z1 z2 z3 z4 lg
            replace HI := Lib.hid hK1
            clear hR1 hf1 hb1 hK1
            obtain ⟨⟨f0, f1, f2, f3, f4⟩, z0, z1, z2, z3, z4, lg⟩ := HI.out.aw.cells
            change V1.cell? ⟨g, 0, none⟩ = some (.int .i64 o) at f0
            change V1.cell? ⟨g, 1, none⟩ = some (.int .i64 r) at f1
            change V1.cell? ⟨g, 2, none⟩ = some (.int .i64 tt) at f2
            change V1.cell? ⟨g, 3, none⟩ = some (.int .i64 tb) at f3
            go_wp2_with fail
            clear f0 f1 f2 f3 f4 z0 z1 z2 z3 z4 lg HI
            obtain ⟨W, hW⟩ : ∃ W, (((((V1.setCell ⟨g, 0, none⟩ (.int .i64 o)).setCell ⟨g, 1, none⟩ (.int .i64 r)).setCell ⟨g, 2, none⟩ (.int .i64 now')).setCell ⟨g, 3, none⟩ (.int .i64 tb')).setCell ⟨g, 4, none⟩ (.slice A1 n1 c1)).alloc (.cells #[.int .i64 o, .int .i64 r, .int .i64 now', .int .i64 tb', .slice A1 n1 c1] 24) = W := ⟨_, rfl⟩
            rw [hW] at HS ⊢
            have HI := Lib.hid HS.out
            clear HS hW
            have hnl : n1 ≤ 1000 := by have h1 := HI.out.aw.rd.len; have h2 := HP.out.lens; have h3 : (l').length ≤ k + 1 := h2; have h4 : (l').length = n1 := h1; omega
            have hvl : L.length ≤ 1000 := by have h1 := HP.out.len; omega
            refine (Check_any o r now' tb' A1 n1 c1 l' W HI.out.aw.rd hnl).mono ?_
            rintro e x1 ⟨rfl, hb1⟩
            rw [show chkTh o r now' tb' l' = 0 from HP.out.chk]
            replace HI := Lib.hid (HI.out.keep hb1)
            clear hb1
            obtain ⟨⟨f0, f1, f2, f3, f4⟩, z0, z1, z2, z3, z4, lg⟩ := HI.out.aw.cells
            change x1.cell? ⟨g, 0, none⟩ = some (.int .i64 o) at f0
            change x1.cell? ⟨g, 1, none⟩ = some (.int .i64 r) at f1
            change x1.cell? ⟨g, 2, none⟩ = some (.int .i64 now') at f2
            change x1.cell? ⟨g, 3, none⟩ = some (.int .i64 tb') at f3
            go_wp2_with fail
            refine (Backlog_any ⟨o, r, now', tb', l'⟩ A1 n1 c1 x1 HI.out.aw.rd hnl).mono ?_
            rintro e x2 ⟨rfl, hb2⟩
            rw [HP.out.back]
            replace HI := Lib.hid (HI.out.keep hb2)
            clear f0 f1 f2 f3 f4 z0 z1 z2 z3 z4 lg hb2
            obtain ⟨⟨f0, f1, f2, f3, f4⟩, z0, z1, z2, z3, z4, lg⟩ := HI.out.aw.cells
            change x2.cell? ⟨g, 0, none⟩ = some (.int .i64 o) at f0
            change x2.cell? ⟨g, 1, none⟩ = some (.int .i64 r) at f1
            change x2.cell? ⟨g, 2, none⟩ = some (.int .i64 now') at f2
            change x2.cell? ⟨g, 3, none⟩ = some (.int .i64 tb') at f3
            go_wp2_with fail
            refine (Age_any ⟨o, r, now', tb', l'⟩ (now' + 5) A1 n1 c1 x2 HI.out.aw.rd hnl (by omega)).mono ?_
            rintro e x3 ⟨rfl, hb3⟩
            rw [HP.out.age]
            replace HI := Lib.hid (HI.out.keep hb3)
            clear f0 f1 f2 f3 f4 z0 z1 z2 z3 z4 lg hb3
            go_wp2_with fail
            refine (oldest_any VA L.length Vc L total (now' + 5) x3 (Reads.of_own HI.out.row) hvl (by omega) HP.out.tm).mono ?_
            rintro e x4 ⟨rfl, hb4⟩
            replace HI := Lib.hid (HI.out.keep hb4)
            clear hb4
            go_wp2_with fail
            go_roundw
            case rel => exact ⟨k + 1, ⟨o, r, now', tb', l'⟩, A1, n1, c1, L, now', total, total, by omega, by go_num, rfl, rfl, rfl, HI.out, HP.out⟩
            case measure => simp [intOf]; omega

          · obtain ⟨conf', hcf⟩ : ∃ z, conf - x = z := ⟨_, rfl⟩
            rw [hcf] at hmn
            obtain ⟨l', hPr, hP'⟩ := HP.out.prog (now' := now') (conf' := conf') k60 ⟨hn2, hn3⟩ (by omega)
            obtain ⟨tb', htb⟩ : ∃ z, total - conf' = z := ⟨_, rfl⟩
            rw [htb] at hPr hP'
            have hC1 := Progress_fresh ⟨o, r, tt, tb, tl⟩ now' conf' A n c wr HI.out.aw.rd nl
            rw [hPr] at hC1
            have HC1 := Lib.hid hC1
            replace HP := Lib.hid hP'
            have HTB := Lib.hid htb
            clear hC1 hPr hP' htb
            obtain ⟨⟨f0, f1, f2, f3, f4⟩, z0, z1, z2, z3, z4, lg⟩ := HI.out.aw.cells
            change wr.cell? ⟨g, 0, none⟩ = some (.int .i64 o) at f0
            change wr.cell? ⟨g, 1, none⟩ = some (.int .i64 r) at f1
            change wr.cell? ⟨g, 2, none⟩ = some (.int .i64 tt) at f2
            change wr.cell? ⟨g, 3, none⟩ = some (.int .i64 tb) at f3
            go_wp2_with fail
            refine HC1.out.mono ?_
            rintro e V1 ⟨⟨_, rfl, A1, n1, c1, rfl, hR1, _, _, hf1⟩, hb1⟩
            have HS := Lib.hid ((HI.out.put hb1 hR1 hf1 (T' := ⟨o, r, now', tb', l'⟩) (c' := c1)).new (.cells #[.int .i64 o, .int .i64 r, .int .i64 now', .int .i64 tb', .slice A1 n1 c1] 24))
            have hK1 := HI.out.keep hb1
            clear f0 f1 f2 f3 f4 z0 z1 z2 z3 z4 lg
            replace HI := Lib.hid hK1
            clear hR1 hf1 hb1 hK1
            obtain ⟨⟨f0, f1, f2, f3, f4⟩, z0, z1, z2, z3, z4, lg⟩ := HI.out.aw.cells
            change V1.cell? ⟨g, 0, none⟩ = some (.int .i64 o) at f0
            change V1.cell? ⟨g, 1, none⟩ = some (.int .i64 r) at f1
            change V1.cell? ⟨g, 2, none⟩ = some (.int .i64 tt) at f2
            change V1.cell? ⟨g, 3, none⟩ = some (.int .i64 tb) at f3
            go_wp2_with fail
            clear f0 f1 f2 f3 f4 z0 z1 z2 z3 z4 lg HI
            obtain ⟨W, hW⟩ : ∃ W, (((((V1.setCell ⟨g, 0, none⟩ (.int .i64 o)).setCell ⟨g, 1, none⟩ (.int .i64 r)).setCell ⟨g, 2, none⟩ (.int .i64 now')).setCell ⟨g, 3, none⟩ (.int .i64 tb')).setCell ⟨g, 4, none⟩ (.slice A1 n1 c1)).alloc (.cells #[.int .i64 o, .int .i64 r, .int .i64 now', .int .i64 tb', .slice A1 n1 c1] 24) = W := ⟨_, rfl⟩
            rw [hW] at HS ⊢
            have HI := Lib.hid HS.out
            clear HS hW
            have hnl : n1 ≤ 1000 := by have h1 := HI.out.aw.rd.len; have h2 := HP.out.lens; have h3 : (l').length ≤ k + 1 := h2; have h4 : (l').length = n1 := h1; omega
            have hvl : L.length ≤ 1000 := by have h1 := HP.out.len; omega
            refine (Check_any o r now' tb' A1 n1 c1 l' W HI.out.aw.rd hnl).mono ?_
            rintro e x1 ⟨rfl, hb1⟩
            rw [show chkTh o r now' tb' l' = 0 from HP.out.chk]
            replace HI := Lib.hid (HI.out.keep hb1)
            clear hb1
            obtain ⟨⟨f0, f1, f2, f3, f4⟩, z0, z1, z2, z3, z4, lg⟩ := HI.out.aw.cells
            change x1.cell? ⟨g, 0, none⟩ = some (.int .i64 o) at f0
            change x1.cell? ⟨g, 1, none⟩ = some (.int .i64 r) at f1
            change x1.cell? ⟨g, 2, none⟩ = some (.int .i64 now') at f2
            change x1.cell? ⟨g, 3, none⟩ = some (.int .i64 tb') at f3
            go_wp2_with fail
            refine (Backlog_any ⟨o, r, now', tb', l'⟩ A1 n1 c1 x1 HI.out.aw.rd hnl).mono ?_
            rintro e x2 ⟨rfl, hb2⟩
            rw [HP.out.back]
            replace HI := Lib.hid (HI.out.keep hb2)
            clear f0 f1 f2 f3 f4 z0 z1 z2 z3 z4 lg hb2
            obtain ⟨⟨f0, f1, f2, f3, f4⟩, z0, z1, z2, z3, z4, lg⟩ := HI.out.aw.cells
            change x2.cell? ⟨g, 0, none⟩ = some (.int .i64 o) at f0
            change x2.cell? ⟨g, 1, none⟩ = some (.int .i64 r) at f1
            change x2.cell? ⟨g, 2, none⟩ = some (.int .i64 now') at f2
            change x2.cell? ⟨g, 3, none⟩ = some (.int .i64 tb') at f3
            go_wp2_with fail
            refine (Age_any ⟨o, r, now', tb', l'⟩ (now' + 5) A1 n1 c1 x2 HI.out.aw.rd hnl (by omega)).mono ?_
            rintro e x3 ⟨rfl, hb3⟩
            rw [HP.out.age]
            replace HI := Lib.hid (HI.out.keep hb3)
            clear f0 f1 f2 f3 f4 z0 z1 z2 z3 z4 lg hb3
            go_wp2_with fail
            refine (oldest_any VA L.length Vc L conf' (now' + 5) x3 (Reads.of_own HI.out.row) hvl (by omega) HP.out.tm).mono ?_
            rintro e x4 ⟨rfl, hb4⟩
            replace HI := Lib.hid (HI.out.keep hb4)
            clear hb4
            go_wp2_with fail
            go_roundw
            case rel => exact ⟨k + 1, ⟨o, r, now', tb', l'⟩, A1, n1, c1, L, now', total, conf', by omega, by go_num, rfl, rfl, rfl, HI.out, HP.out⟩
            case measure => simp [intOf]; omega

        · obtain ⟨kk, hkk⟩ : ∃ z, x + 1 = z := ⟨_, rfl⟩
          have hBo : r * o = B := HBe.out
          have hk1 : 1 ≤ kk ∧ kk ≤ 128 := by omega
          obtain ⟨hk1, hk2⟩ := hk1
          by_cases hkB : kk ≤ B
          · by_cases hadm : total - conf + kk ≤ B
            · obtain ⟨l', hPr, hP'⟩ := HP.out.adm (now' := now') (k := kk) k60 ⟨hn2, hn3⟩ (by omega) (by omega)
              obtain ⟨tb', htb⟩ : ∃ z, total - conf + kk = z := ⟨_, rfl⟩
              obtain ⟨tot', htt⟩ : ∃ z, total + kk = z := ⟨_, rfl⟩
              obtain ⟨LL, hLL⟩ : ∃ z, L ++ [⟨now', tot'⟩] = z := ⟨_, rfl⟩
              have HLL := Lib.hid hLL
              have hll : L.length ≤ 62 := by have h9 := HP.out.len; omega
              rw [htb] at hPr hP' hadm
              rw [htt, hLL] at hP'
              clear hLL
              have hC1 := Write_fresh ⟨o, r, tt, tb, tl⟩ now' kk A n c wr HI.out.aw.rd nl
              rw [hPr] at hC1
              have HC1 := Lib.hid hC1
              replace HP := Lib.hid hP'
              clear hC1 hPr hP'
              obtain ⟨⟨f0, f1, f2, f3, f4⟩, z0, z1, z2, z3, z4, lg⟩ := HI.out.aw.cells
              change wr.cell? ⟨g, 0, none⟩ = some (.int .i64 o) at f0
              change wr.cell? ⟨g, 1, none⟩ = some (.int .i64 r) at f1
              change wr.cell? ⟨g, 2, none⟩ = some (.int .i64 tt) at f2
              change wr.cell? ⟨g, 3, none⟩ = some (.int .i64 tb) at f3
              go_wp2_with fail
              refine HC1.out.mono ?_
              rintro e V1 ⟨⟨_, rfl, A1, n1, c1, rfl, hR1, _, _, hf1⟩, hb1⟩
              have HS := Lib.hid ((HI.out.put hb1 hR1 hf1 (T' := ⟨o, r, now', tb', l'⟩) (c' := c1)).new (.cells #[.int .i64 o, .int .i64 r, .int .i64 now', .int .i64 tb', .slice A1 n1 c1] 24))
              have hK1 := HI.out.keep hb1
              clear f0 f1 f2 f3 f4 z0 z1 z2 z3 z4 lg
              replace HI := Lib.hid hK1
              clear hR1 hf1 hb1 hK1
              obtain ⟨⟨f0, f1, f2, f3, f4⟩, z0, z1, z2, z3, z4, lg⟩ := HI.out.aw.cells
              change V1.cell? ⟨g, 0, none⟩ = some (.int .i64 o) at f0
              change V1.cell? ⟨g, 1, none⟩ = some (.int .i64 r) at f1
              change V1.cell? ⟨g, 2, none⟩ = some (.int .i64 tt) at f2
              change V1.cell? ⟨g, 3, none⟩ = some (.int .i64 tb) at f3
              obtain ⟨i0, hi0, hz0, hz1, hz2⟩ := info_parts info49
              have HF := Lib.hid (And.intro hi0 (And.intro hz0 (And.intro hz1 hz2)))
              clear hi0 hz0 hz1 hz2
              obtain ⟨W, hW⟩ : ∃ W, (((((V1.setCell ⟨g, 0, none⟩ (.int .i64 o)).setCell ⟨g, 1, none⟩ (.int .i64 r)).setCell ⟨g, 2, none⟩ (.int .i64 now')).setCell ⟨g, 3, none⟩ (.int .i64 tb')).setCell ⟨g, 4, none⟩ (.slice A1 n1 c1)).alloc (.cells #[.int .i64 o, .int .i64 r, .int .i64 now', .int .i64 tb', .slice A1 n1 c1] 24) = W := ⟨_, rfl⟩
              have HWs : Hid (W.heap.size = V1.heap.size + 1) := by rw [← hW]; exact Lib.hid (by simp)
              rw [hW] at HS
              have HWE := Lib.hid hW
              clear hW
              go_wp2_with (at_builtin; rw [HWE.out]; go_must (refine wpList_append_elemG W rfl (.tmp 114) (.tmp 118) _ rfl (g + 1) 49 i0 _ 2 16 Try.underlying43 HF.out.1 HF.out.2.1 HF.out.2.2.1 HF.out.2.2.2 rfl (by omega) _ L.length (L.flatMap encM) #[.int .i64 now', .int .i64 tot'] rfl rfl (by rw [HWs.out]; rfl) HS.out.row (one2 _ _) (by simp only [maxLen]; omega) (by omega) HS.out.aw.blk.lt ?_; intro v2 w2 h2 h3 h4; have h9 := HS.out.grow (m := ⟨now', tot'⟩) h2 h3 h4; rw [HLL.out] at h9; have HS2 := Lib.hid h9; clear h9 h2 h3 h4; obtain ⟨VA2, Vc2, rfl, _, _, _⟩ := own_slice HS2.out.row; obtain ⟨⟨e0, e1, e2, e3, e4⟩, y0, y1, y2, y3, y4, lg2⟩ := HS2.out.aw.cells; change w2.cell? ⟨g, 0, none⟩ = some (.int .i64 o) at e0; change w2.cell? ⟨g, 1, none⟩ = some (.int .i64 r) at e1; change w2.cell? ⟨g, 2, none⟩ = some (.int .i64 now') at e2; change w2.cell? ⟨g, 3, none⟩ = some (.int .i64 tb') at e3))
              clear f0 f1 f2 f3 f4 z0 z1 z2 z3 z4 lg HI HS
              have HI := HS2
              clear HS2 e0 e1 e2 e3 e4 y0 y1 y2 y3 y4 lg2
              have hnl : n1 ≤ 1000 := by have h1 := HI.out.aw.rd.len; have h2 := HP.out.lens; have h3 : (l').length ≤ k + 1 := h2; have h4 : (l').length = n1 := h1; omega
              have hvl : LL.length ≤ 1000 := by have h1 := HP.out.len; omega
              refine (Check_any o r now' tb' A1 n1 c1 l' w2 HI.out.aw.rd hnl).mono ?_
              rintro e x1 ⟨rfl, hb1⟩
              rw [show chkTh o r now' tb' l' = 0 from HP.out.chk]
              replace HI := Lib.hid (HI.out.keep hb1)
              clear hb1
              obtain ⟨⟨f0, f1, f2, f3, f4⟩, z0, z1, z2, z3, z4, lg⟩ := HI.out.aw.cells
              change x1.cell? ⟨g, 0, none⟩ = some (.int .i64 o) at f0
              change x1.cell? ⟨g, 1, none⟩ = some (.int .i64 r) at f1
              change x1.cell? ⟨g, 2, none⟩ = some (.int .i64 now') at f2
              change x1.cell? ⟨g, 3, none⟩ = some (.int .i64 tb') at f3
              go_wp2_with fail
              refine (Backlog_any ⟨o, r, now', tb', l'⟩ A1 n1 c1 x1 HI.out.aw.rd hnl).mono ?_
              rintro e x2 ⟨rfl, hb2⟩
              rw [HP.out.back]
              replace HI := Lib.hid (HI.out.keep hb2)
              clear f0 f1 f2 f3 f4 z0 z1 z2 z3 z4 lg hb2
              obtain ⟨⟨f0, f1, f2, f3, f4⟩, z0, z1, z2, z3, z4, lg⟩ := HI.out.aw.cells
              change x2.cell? ⟨g, 0, none⟩ = some (.int .i64 o) at f0
              change x2.cell? ⟨g, 1, none⟩ = some (.int .i64 r) at f1
              change x2.cell? ⟨g, 2, none⟩ = some (.int .i64 now') at f2
              change x2.cell? ⟨g, 3, none⟩ = some (.int .i64 tb') at f3
              go_wp2_with fail
              refine (Age_any ⟨o, r, now', tb', l'⟩ (now' + 5) A1 n1 c1 x2 HI.out.aw.rd hnl (by omega)).mono ?_
              rintro e x3 ⟨rfl, hb3⟩
              rw [HP.out.age]
              replace HI := Lib.hid (HI.out.keep hb3)
              clear f0 f1 f2 f3 f4 z0 z1 z2 z3 z4 lg hb3
              go_wp2_with fail
              refine (oldest_any VA2 LL.length Vc2 LL conf (now' + 5) x3 (Reads.of_own HI.out.row) hvl (by omega) HP.out.tm).mono ?_
              rintro e x4 ⟨rfl, hb4⟩
              replace HI := Lib.hid (HI.out.keep hb4)
              clear hb4
              go_wp2_with fail
              go_roundw
              case rel => exact ⟨k + 1, ⟨o, r, now', tb', l'⟩, A1, n1, c1, LL, now', tot', conf, by omega, by go_num, rfl, rfl, rfl, HI.out, HP.out⟩
              case measure => simp [intOf]; omega

            · obtain ⟨l', d, hd, hPr, hP'⟩ := HP.out.wait (now' := now') (k := kk) k60 ⟨hn2, hn3⟩ (by omega) (by omega) HRO.out.2.1 (by omega)
              obtain ⟨tb', htb⟩ : ∃ z, total - conf = z := ⟨_, rfl⟩
              rw [htb] at hPr hP' hadm
              have hd0 : (d == 0) = false := by rw [beq_eq_false_iff_ne]; omega
              have hdec : decide (tb' + kk ≤ B) = false := decide_eq_false (by omega)
              have hC1 := Write_fresh ⟨o, r, tt, tb, tl⟩ now' kk A n c wr HI.out.aw.rd nl
              rw [hPr] at hC1
              have HC1 := Lib.hid hC1
              replace HP := Lib.hid hP'
              clear hC1 hPr hP'
              obtain ⟨⟨f0, f1, f2, f3, f4⟩, z0, z1, z2, z3, z4, lg⟩ := HI.out.aw.cells
              change wr.cell? ⟨g, 0, none⟩ = some (.int .i64 o) at f0
              change wr.cell? ⟨g, 1, none⟩ = some (.int .i64 r) at f1
              change wr.cell? ⟨g, 2, none⟩ = some (.int .i64 tt) at f2
              change wr.cell? ⟨g, 3, none⟩ = some (.int .i64 tb) at f3
              go_wp2_with fail
              refine HC1.out.mono ?_
              rintro e V1 ⟨⟨_, rfl, A1, n1, c1, rfl, hR1, _, _, hf1⟩, hb1⟩
              have HS := Lib.hid ((HI.out.put hb1 hR1 hf1 (T' := ⟨o, r, now', tb', l'⟩) (c' := c1)).new (.cells #[.int .i64 o, .int .i64 r, .int .i64 now', .int .i64 tb', .slice A1 n1 c1] 24))
              have hK1 := HI.out.keep hb1
              clear f0 f1 f2 f3 f4 z0 z1 z2 z3 z4 lg
              replace HI := Lib.hid hK1
              clear hR1 hf1 hb1 hK1
              obtain ⟨⟨f0, f1, f2, f3, f4⟩, z0, z1, z2, z3, z4, lg⟩ := HI.out.aw.cells
              change V1.cell? ⟨g, 0, none⟩ = some (.int .i64 o) at f0
              change V1.cell? ⟨g, 1, none⟩ = some (.int .i64 r) at f1
              change V1.cell? ⟨g, 2, none⟩ = some (.int .i64 tt) at f2
              change V1.cell? ⟨g, 3, none⟩ = some (.int .i64 tb) at f3
              go_wp2_with fail
              clear f0 f1 f2 f3 f4 z0 z1 z2 z3 z4 lg HI
              obtain ⟨W, hW⟩ : ∃ W, (((((V1.setCell ⟨g, 0, none⟩ (.int .i64 o)).setCell ⟨g, 1, none⟩ (.int .i64 r)).setCell ⟨g, 2, none⟩ (.int .i64 now')).setCell ⟨g, 3, none⟩ (.int .i64 tb')).setCell ⟨g, 4, none⟩ (.slice A1 n1 c1)).alloc (.cells #[.int .i64 o, .int .i64 r, .int .i64 now', .int .i64 tb', .slice A1 n1 c1] 24) = W := ⟨_, rfl⟩
              rw [hW] at HS ⊢
              have HI := Lib.hid HS.out
              clear HS hW
              have hnl : n1 ≤ 1000 := by have h1 := HI.out.aw.rd.len; have h2 := HP.out.lens; have h3 : (l').length ≤ k + 1 := h2; have h4 : (l').length = n1 := h1; omega
              have hvl : L.length ≤ 1000 := by have h1 := HP.out.len; omega
              refine (Check_any o r now' tb' A1 n1 c1 l' W HI.out.aw.rd hnl).mono ?_
              rintro e x1 ⟨rfl, hb1⟩
              rw [show chkTh o r now' tb' l' = 0 from HP.out.chk]
              replace HI := Lib.hid (HI.out.keep hb1)
              clear hb1
              obtain ⟨⟨f0, f1, f2, f3, f4⟩, z0, z1, z2, z3, z4, lg⟩ := HI.out.aw.cells
              change x1.cell? ⟨g, 0, none⟩ = some (.int .i64 o) at f0
              change x1.cell? ⟨g, 1, none⟩ = some (.int .i64 r) at f1
              change x1.cell? ⟨g, 2, none⟩ = some (.int .i64 now') at f2
              change x1.cell? ⟨g, 3, none⟩ = some (.int .i64 tb') at f3
              go_wp2_with fail
              refine (Backlog_any ⟨o, r, now', tb', l'⟩ A1 n1 c1 x1 HI.out.aw.rd hnl).mono ?_
              rintro e x2 ⟨rfl, hb2⟩
              rw [HP.out.back]
              replace HI := Lib.hid (HI.out.keep hb2)
              clear f0 f1 f2 f3 f4 z0 z1 z2 z3 z4 lg hb2
              obtain ⟨⟨f0, f1, f2, f3, f4⟩, z0, z1, z2, z3, z4, lg⟩ := HI.out.aw.cells
              change x2.cell? ⟨g, 0, none⟩ = some (.int .i64 o) at f0
              change x2.cell? ⟨g, 1, none⟩ = some (.int .i64 r) at f1
              change x2.cell? ⟨g, 2, none⟩ = some (.int .i64 now') at f2
              change x2.cell? ⟨g, 3, none⟩ = some (.int .i64 tb') at f3
              go_wp2_with fail
              refine (Age_any ⟨o, r, now', tb', l'⟩ (now' + 5) A1 n1 c1 x2 HI.out.aw.rd hnl (by omega)).mono ?_
              rintro e x3 ⟨rfl, hb3⟩
              rw [HP.out.age]
              replace HI := Lib.hid (HI.out.keep hb3)
              clear f0 f1 f2 f3 f4 z0 z1 z2 z3 z4 lg hb3
              go_wp2_with fail
              refine (oldest_any VA L.length Vc L conf (now' + 5) x3 (Reads.of_own HI.out.row) hvl (by omega) HP.out.tm).mono ?_
              rintro e x4 ⟨rfl, hb4⟩
              replace HI := Lib.hid (HI.out.keep hb4)
              clear hb4
              go_wp2_with fail
              go_roundw
              case rel => exact ⟨k + 1, ⟨o, r, now', tb', l'⟩, A1, n1, c1, L, now', total, conf, by omega, by go_num, rfl, rfl, rfl, HI.out, HP.out⟩
              case measure => simp [intOf]; omega

          · have hP' := HP.out.later (now' := now') ⟨hn2, hn3⟩
            replace HP := Lib.hid hP'
            clear hP'
            have hnl : n ≤ 1000 := by have h1 := HI.out.aw.rd.len; have h2 := HP.out.lens; have h3 : (tl).length ≤ k + 1 := h2; have h4 : (tl).length = n := h1; omega
            have hvl : L.length ≤ 1000 := by have h1 := HP.out.len; omega
            obtain ⟨⟨f0, f1, f2, f3, f4⟩, z0, z1, z2, z3, z4, lg⟩ := HI.out.aw.cells
            change wr.cell? ⟨g, 0, none⟩ = some (.int .i64 o) at f0
            change wr.cell? ⟨g, 1, none⟩ = some (.int .i64 r) at f1
            change wr.cell? ⟨g, 2, none⟩ = some (.int .i64 tt) at f2
            change wr.cell? ⟨g, 3, none⟩ = some (.int .i64 tb) at f3
            go_wp2_with fail
            refine (Check_any o r tt tb A n c tl wr HI.out.aw.rd hnl).mono ?_
            rintro e x1 ⟨rfl, hb1⟩
            rw [show chkTh o r tt tb tl = 0 from HP.out.chk]
            replace HI := Lib.hid (HI.out.keep hb1)
            clear hb1
            clear f0 f1 f2 f3 f4 z0 z1 z2 z3 z4 lg
            obtain ⟨⟨f0, f1, f2, f3, f4⟩, z0, z1, z2, z3, z4, lg⟩ := HI.out.aw.cells
            change x1.cell? ⟨g, 0, none⟩ = some (.int .i64 o) at f0
            change x1.cell? ⟨g, 1, none⟩ = some (.int .i64 r) at f1
            change x1.cell? ⟨g, 2, none⟩ = some (.int .i64 tt) at f2
            change x1.cell? ⟨g, 3, none⟩ = some (.int .i64 tb) at f3
            go_wp2_with fail
            refine (Backlog_any ⟨o, r, tt, tb, tl⟩ A n c x1 HI.out.aw.rd hnl).mono ?_
            rintro e x2 ⟨rfl, hb2⟩
            rw [HP.out.back]
            replace HI := Lib.hid (HI.out.keep hb2)
            clear f0 f1 f2 f3 f4 z0 z1 z2 z3 z4 lg hb2
            obtain ⟨⟨f0, f1, f2, f3, f4⟩, z0, z1, z2, z3, z4, lg⟩ := HI.out.aw.cells
            change x2.cell? ⟨g, 0, none⟩ = some (.int .i64 o) at f0
            change x2.cell? ⟨g, 1, none⟩ = some (.int .i64 r) at f1
            change x2.cell? ⟨g, 2, none⟩ = some (.int .i64 tt) at f2
            change x2.cell? ⟨g, 3, none⟩ = some (.int .i64 tb) at f3
            go_wp2_with fail
            refine (Age_any ⟨o, r, tt, tb, tl⟩ (now' + 5) A n c x2 HI.out.aw.rd hnl (by omega)).mono ?_
            rintro e x3 ⟨rfl, hb3⟩
            rw [HP.out.age]
            replace HI := Lib.hid (HI.out.keep hb3)
            clear f0 f1 f2 f3 f4 z0 z1 z2 z3 z4 lg hb3
            go_wp2_with fail
            refine (oldest_any VA L.length Vc L conf (now' + 5) x3 (Reads.of_own HI.out.row) hvl (by omega) HP.out.tm).mono ?_
            rintro e x4 ⟨rfl, hb4⟩
            replace HI := Lib.hid (HI.out.keep hb4)
            clear hb4
            go_wp2_with fail
            go_roundw
            case rel => exact ⟨k + 1, ⟨o, r, tt, tb, tl⟩, A, n, c, L, now', total, conf, by omega, by go_num, rfl, rfl, rfl, HI.out, HP.out⟩
            case measure => simp [intOf]; omega

      · have ik : ¬ (k : Int) < m := by omega
        have HW := Lib.hid hI.aw.bel
        clear hI hP
        go_wp2_with fail
        refine (awake_any _).mono ?_
        rintro e w9 ⟨rfl, hb9⟩
        go_wp2_with fail
        go_ret
        exact ⟨rfl, HW.out.trans (hb9.mono HW.out.size)⟩
end Go.Proofs.Ythkpkjigfaannaa
