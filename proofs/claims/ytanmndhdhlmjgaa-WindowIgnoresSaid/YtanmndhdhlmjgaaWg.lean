/- The walks of CheckReceiver and its reference. Conditions: small. -/
import Derived.Test.YtanmndhdhlmjgaaWc
namespace Go.Proofs.Ytanmndhdhlmjgaa
open Go.RowKit
theorem min_run (a b n : Int) (h : n = min a b) : ∀ ts t w', (Builtin.min_ ts t #[.int .i64 a, .int .i64 b]).run Try.prog w' = .ok (.int .i64 n) w' := by
  intro ts t w'
  subst h
  simp [Builtin.min_, Builtin.min2]
  omega
theorem max_run (a b n : Int) (h : n = max a b) : ∀ ts t w', (Builtin.max_ ts t #[.int .i64 a, .int .i64 b]).run Try.prog w' = .ok (.int .i64 n) w' := by
  intro ts t w'
  subst h
  simp [Builtin.max_, Builtin.max2]
  omega
set_option maxRecDepth 100000 in
set_option maxHeartbeats 4000000 in
set_option linter.unusedSimpArgs false in
theorem CheckReceiver_any (r : Rm) (v : Value) (base : Nat) (w : World) (hv : RcV w base r v) (hs : SmallR r) :
    Calls Try.prog 34 #[v] w fun e w' => e = .returned (.int .i64 (chkR r : Nat)) ∧ Below w.heap.size w w' := by
  obtain ⟨ve, rfl, es, hE, he⟩ := hv
  obtain ⟨A, c, rfl, hlc, hcm, -⟩ := hE.val
  obtain ⟨m, hm⟩ : ∃ m, es.length = m := ⟨_, rfl⟩
  have hm2 : m = r.early.length := by rw [← hm, ← he, List.length_map]
  have hm3 : m ≤ 10000 := by rw [hm2]; exact hs.early
  have HE := Lib.hid (And.intro hE (And.intro he (And.intro hm hm2)))
  unfold rcC
  rw [hm] at hlc ⊢
  clear hE he hm hm2 hs
  have hk := Blk.new w 33 #[.int .i64 r.ses, .int .i64 r.lim, .int .i64 r.next, .slice A m c]
  have hb : Below w.heap.size w (w.alloc (.cells #[.int .i64 r.ses, .int .i64 r.lim, .int .i64 r.next, .slice A m c] 33)) := (Below.refl _ w).alloc (Nat.le_refl _) _
  have HW := Lib.hid (And.intro hk hb)
  clear hk hb
  by_cases h0 : 0 ≤ r.ses ∧ r.ses ≤ 1073741824
  rotate_left 1
  · have H0 := Lib.hid h0
    have HM : Hid (chkR r = 2) := by show _ = _; unfold chkR; rw [if_pos (fun h => h0 (by first | exact h.1 | exact h.2.1 | exact h.2.2))]
    clear h0
    go_enter Try.func34, Try.ntmps34
    go_wp2_with fail
    refine (in_any _ _ _ (decide_eq_false H0.out) _).mono ?_
    rintro e w1 ⟨rfl, rfl⟩
    go_wp2_with fail
    go_ret
    exact ⟨ret_int (by rw [HM.out]; rfl), HW.out.2⟩
  have H0 := Lib.hid h0
  by_cases h1 : 1 ≤ r.lim ∧ r.lim ≤ 64
  rotate_left 1
  · have H1 := Lib.hid h1
    have HM : Hid (chkR r = 2) := by show _ = _; unfold chkR; rw [if_pos (fun h => h1 (by first | exact h.1 | exact h.2.1 | exact h.2.2))]
    clear h1
    go_enter Try.func34, Try.ntmps34
    go_wp2_with fail
    refine (in_any _ _ _ (decide_eq_true H0.out) _).mono ?_
    rintro e w1 ⟨rfl, rfl⟩
    go_wp2_with fail
    refine (in_any _ _ _ (decide_eq_false H1.out) _).mono ?_
    rintro e w1 ⟨rfl, rfl⟩
    go_wp2_with fail
    go_ret
    exact ⟨ret_int (by rw [HM.out]; rfl), HW.out.2⟩
  have H1 := Lib.hid h1
  by_cases h2 : 0 ≤ r.next ∧ r.next ≤ 1073741824
  rotate_left 1
  · have H2 := Lib.hid h2
    have HM : Hid (chkR r = 2) := by show _ = _; unfold chkR; rw [if_pos (fun h => h2 (by first | exact h.1 | exact h.2.1 | exact h.2.2))]
    clear h2
    go_enter Try.func34, Try.ntmps34
    go_wp2_with fail
    refine (in_any _ _ _ (decide_eq_true H0.out) _).mono ?_
    rintro e w1 ⟨rfl, rfl⟩
    go_wp2_with fail
    refine (in_any _ _ _ (decide_eq_true H1.out) _).mono ?_
    rintro e w1 ⟨rfl, rfl⟩
    go_wp2_with fail
    refine (in_any _ _ _ (decide_eq_false H2.out) _).mono ?_
    rintro e w1 ⟨rfl, rfl⟩
    go_wp2_with fail
    go_ret
    exact ⟨ret_int (by rw [HM.out]; rfl), HW.out.2⟩
  have H2 := Lib.hid h2
  have HA : Hid (¬¬((0 ≤ r.ses ∧ r.ses ≤ 1073741824) ∧ (1 ≤ r.lim ∧ r.lim ≤ 64) ∧ (0 ≤ r.next ∧ r.next ≤ 1073741824))) := not_not_intro ⟨h0, h1, h2⟩
  clear h0
  by_cases m1 : r.lim ≤ (m : Int)
  · have HM : Hid (chkR r = 6) := by show _ = _; unfold chkR; rw [if_neg HA.out, if_pos (by rw [← HE.out.2.2.2]; exact m1)]
    go_enter Try.func34, Try.ntmps34
    go_wp2_with fail
    refine (in_any _ _ _ (decide_eq_true H0.out) _).mono ?_
    rintro e w1 ⟨rfl, rfl⟩
    go_wp2_with fail
    refine (in_any _ _ _ (decide_eq_true H1.out) _).mono ?_
    rintro e w1 ⟨rfl, rfl⟩
    go_wp2_with fail
    refine (in_any _ _ _ (decide_eq_true H2.out) _).mono ?_
    rintro e w1 ⟨rfl, rfl⟩
    go_wp2_with fail
    go_ret
    exact ⟨ret_int (by rw [HM.out]; rfl), HW.out.2⟩
  have HA2 : Hid (chkR r = earE r.next r.lim r.next r.early) := by show _ = _; unfold chkR; rw [if_neg HA.out, if_neg (by rw [← HE.out.2.2.2]; exact m1)]
  obtain ⟨mn, hmn⟩ : ∃ x, x = min (r.next + r.lim) 1073741824 := ⟨_, rfl⟩
  have hmin := min_run _ _ _ hmn
  have HMN := Lib.hid hmn
  clear hmn
  go_enter Try.func34, Try.ntmps34
  go_wp2_with fail
  refine (in_any _ _ _ (decide_eq_true H0.out) _).mono ?_
  rintro e w1 ⟨rfl, rfl⟩
  go_wp2_with fail
  refine (in_any _ _ _ (decide_eq_true H1.out) _).mono ?_
  rintro e w1 ⟨rfl, rfl⟩
  go_wp2_with fail
  refine (in_any _ _ _ (decide_eq_true H2.out) _).mono ?_
  rintro e w1 ⟨rfl, rfl⟩
  go_wp2_with fail
  generalize (w.alloc (.cells #[.int .i64 r.ses, .int .i64 r.lim, .int .i64 r.next, .slice A m c] 33)) = W at *
  have b0 : W.cell? ⟨w.heap.size, 0, none⟩ = some (.int .i64 r.ses) := HW.out.1.cell 0
  have b1 : W.cell? ⟨w.heap.size, 1, none⟩ = some (.int .i64 r.lim) := HW.out.1.cell 1
  have b2 : W.cell? ⟨w.heap.size, 2, none⟩ = some (.int .i64 r.next) := HW.out.1.cell 2
  have b3 : W.cell? ⟨w.heap.size, 3, none⟩ = some (.slice A m c) := HW.out.1.cell 3
  have lW := HW.out.1.lt
  go_loopw [3, 31] (fun u3 u31 wr => ∃ (k : Nat) (la : Int), k ≤ m ∧ u31 = .int .i64 (k : Nat) ∧ u3 = .int .i64 la ∧ Hid (chkR r = earE r.next r.lim la (r.early.drop k)) ∧ Below W.heap.size W wr) (fun _ u31 _ => m - (intOf u31).toNat)
  case atStart => exact ⟨0, r.next, by omega, rfl, rfl, HA2, Below.refl _ _⟩
  case round =>
    obtain ⟨k, la, hk, rfl, rfl, HS, hbr⟩ := hrel
    have c0 := (hbr.cell (p := ⟨w.heap.size, 0, none⟩) lW).trans b0
    have c1 := (hbr.cell (p := ⟨w.heap.size, 1, none⟩) lW).trans b1
    have c2 := (hbr.cell (p := ⟨w.heap.size, 2, none⟩) lW).trans b2
    have c3 := (hbr.cell (p := ⟨w.heap.size, 3, none⟩) lW).trans b3
    have lR : w.heap.size < wr.heap.size := Nat.lt_of_lt_of_le lW hbr.size
    have HBR := Lib.hid hbr
    clear b0 b1 b2 b3
    by_cases hlt : k < m
    · have ik : (k : Int) < m := by omega
      have hkl : k < es.length := by rw [HE.out.2.2.1]; exact hlt
      have hkr : k < r.early.length := by rw [← HE.out.2.2.2]; exact hlt
      obtain ⟨b, off, c2, hv2, _, _, hbw, hc⟩ := HE.out.1.at_ (fun _ => rfl) (by omega) (by omega)
      injection hv2 with hA hn2 hc2
      subst hA hc2
      clear hn2
      have hbW := HW.out.2.trans (hbr.mono HW.out.2.size)
      have d0 : wr.cell? ⟨b, off + k * 2, none⟩ = some (.int .i64 es[k].seq) := (hbW.cell (p := ⟨b, off + k * 2, none⟩) hbw).trans (hc k hkl 0 _ rfl)
      have d1 : wr.cell? ⟨b, off + k * 2 + 1, none⟩ = some (.slice es[k].A es[k].p.length es[k].c) := (hbW.cell (p := ⟨b, off + k * 2 + 1, none⟩) hbw).trans (hc k hkl 1 _ rfl)
      have HD : Hid (r.early.drop k = es[k].am :: r.early.drop (k + 1)) := by
        show _ = _
        rw [List.drop_eq_getElem_cons hkr]
        congr 1
        simp [← HE.out.2.1]
      clear hc hbW hbr
      generalize es[k] = x at *
      obtain ⟨sq, pA, pc, p⟩ := x
      unfold Ae.am at HD
      dsimp only at d0 d1 HD
      obtain ⟨pl, hpl⟩ : ∃ n, p.length = n := ⟨_, rfl⟩
      have HPL := Lib.hid hpl
      rw [hpl] at d1
      clear hpl
      by_cases q0 : sq ≤ la
      · have HM : Hid (chkR r = 3) := by show _ = _; rw [HS.out, HD.out, earE, if_pos (.inl q0)]
        go_wp2_with fail
        go_ret
        exact ⟨ret_int (by rw [HM.out]; rfl), HW.out.2.trans ((HBR.out.alloc HBR.out.size _).mono HW.out.2.size)⟩
      by_cases q1 : mn ≤ sq
      · have HM : Hid (chkR r = 3) := by show _ = _; rw [HS.out, HD.out, earE, if_pos (.inr (by rw [← HMN.out]; exact q1))]
        go_wp2_with fail
        go_ret
        exact ⟨ret_int (by rw [HM.out]; rfl), HW.out.2.trans ((HBR.out.alloc HBR.out.size _).mono HW.out.2.size)⟩
      by_cases q3 : 4096 < pl
      · have HM : Hid (chkR r = 5) := by show _ = _; rw [HS.out, HD.out, earE, if_neg (by dsimp only; rw [← HMN.out]; omega), if_pos (by dsimp only; rw [HPL.out]; exact q3)]
        have q3i : (4096 : Int) < pl := by omega
        go_wp2_with fail
        refine (long_any _ _ _ (decide_eq_true q3) _).mono ?_
        rintro e w1 ⟨rfl, rfl⟩
        go_wp2_with fail
        go_ret
        exact ⟨ret_int (by rw [HM.out]; rfl), HW.out.2.trans ((HBR.out.alloc HBR.out.size _).mono HW.out.2.size)⟩
      have HM : Hid (chkR r = earE r.next r.lim sq (r.early.drop (k + 1))) := by show _ = _; rw [HS.out, HD.out, earE, if_neg (by dsimp only; rw [← HMN.out]; omega), if_neg (by dsimp only; rw [HPL.out]; exact q3)]
      have q3i : ¬ (4096 : Int) < pl := by omega
      go_wp2_with fail
      refine (long_any _ _ _ (decide_eq_false q3) _).mono ?_
      rintro e w1 ⟨rfl, rfl⟩
      go_wp2_with fail
      go_roundw
      case rel => exact ⟨k + 1, sq, by omega, by go_num, rfl, HM, HBR.out.alloc HBR.out.size _⟩
      case measure => simp [intOf]; omega
    · obtain rfl : k = m := by omega
      have HM : Hid (chkR r = 0) := by show _ = _; rw [HS.out, HE.out.2.2.2, List.drop_length]; rfl
      go_wp2_with fail
      go_ret
      exact ⟨ret_int (by rw [HM.out]; rfl), HW.out.2.trans (HBR.out.mono HW.out.2.size)⟩
set_option maxRecDepth 100000 in
set_option maxHeartbeats 4000000 in
set_option linter.unusedSimpArgs false in
theorem refCheckReceiver_any (r : Rm) (v : Value) (base : Nat) (w : World) (hv : RcV w base r v) (hs : SmallR r) :
    Calls Try.prog 35 #[v] w fun e w' => e = .returned (.int .i64 (chkR r : Nat)) ∧ Below w.heap.size w w' := by
  obtain ⟨ve, rfl, es, hE, he⟩ := hv
  obtain ⟨A, c, rfl, hlc, hcm, -⟩ := hE.val
  obtain ⟨m, hm⟩ : ∃ m, es.length = m := ⟨_, rfl⟩
  have hm2 : m = r.early.length := by rw [← hm, ← he, List.length_map]
  have hm3 : m ≤ 10000 := by rw [hm2]; exact hs.early
  have HE := Lib.hid (And.intro hE (And.intro he (And.intro hm hm2)))
  unfold rcC
  rw [hm] at hlc ⊢
  clear hE he hm hm2 hs
  have hk := Blk.new w 33 #[.int .i64 r.ses, .int .i64 r.lim, .int .i64 r.next, .slice A m c]
  have hb : Below w.heap.size w (w.alloc (.cells #[.int .i64 r.ses, .int .i64 r.lim, .int .i64 r.next, .slice A m c] 33)) := (Below.refl _ w).alloc (Nat.le_refl _) _
  have HW := Lib.hid (And.intro hk hb)
  clear hk hb
  by_cases h0 : 0 ≤ r.ses ∧ r.ses ≤ 1073741824
  rotate_left 1
  · have H0 := Lib.hid h0
    have HM : Hid (chkR r = 2) := by show _ = _; unfold chkR; rw [if_pos (fun h => h0 (by first | exact h.1 | exact h.2.1 | exact h.2.2))]
    clear h0
    go_enter Try.func35, Try.ntmps35
    go_wp2_with fail
    refine (within_any _ _ _ (decide_eq_false H0.out) _).mono ?_
    rintro e w1 ⟨rfl, rfl⟩
    go_wp2_with fail
    go_ret
    exact ⟨ret_int (by rw [HM.out]; rfl), HW.out.2⟩
  have H0 := Lib.hid h0
  by_cases h1 : 1 ≤ r.lim ∧ r.lim ≤ 64
  rotate_left 1
  · have H1 := Lib.hid h1
    have HM : Hid (chkR r = 2) := by show _ = _; unfold chkR; rw [if_pos (fun h => h1 (by first | exact h.1 | exact h.2.1 | exact h.2.2))]
    clear h1
    go_enter Try.func35, Try.ntmps35
    go_wp2_with fail
    refine (within_any _ _ _ (decide_eq_true H0.out) _).mono ?_
    rintro e w1 ⟨rfl, rfl⟩
    go_wp2_with fail
    refine (within_any _ _ _ (decide_eq_false H1.out) _).mono ?_
    rintro e w1 ⟨rfl, rfl⟩
    go_wp2_with fail
    go_ret
    exact ⟨ret_int (by rw [HM.out]; rfl), HW.out.2⟩
  have H1 := Lib.hid h1
  by_cases h2 : 0 ≤ r.next ∧ r.next ≤ 1073741824
  rotate_left 1
  · have H2 := Lib.hid h2
    have HM : Hid (chkR r = 2) := by show _ = _; unfold chkR; rw [if_pos (fun h => h2 (by first | exact h.1 | exact h.2.1 | exact h.2.2))]
    clear h2
    go_enter Try.func35, Try.ntmps35
    go_wp2_with fail
    refine (within_any _ _ _ (decide_eq_true H0.out) _).mono ?_
    rintro e w1 ⟨rfl, rfl⟩
    go_wp2_with fail
    refine (within_any _ _ _ (decide_eq_true H1.out) _).mono ?_
    rintro e w1 ⟨rfl, rfl⟩
    go_wp2_with fail
    refine (within_any _ _ _ (decide_eq_false H2.out) _).mono ?_
    rintro e w1 ⟨rfl, rfl⟩
    go_wp2_with fail
    go_ret
    exact ⟨ret_int (by rw [HM.out]; rfl), HW.out.2⟩
  have H2 := Lib.hid h2
  have HA : Hid (¬¬((0 ≤ r.ses ∧ r.ses ≤ 1073741824) ∧ (1 ≤ r.lim ∧ r.lim ≤ 64) ∧ (0 ≤ r.next ∧ r.next ≤ 1073741824))) := not_not_intro ⟨h0, h1, h2⟩
  clear h0
  by_cases m1 : r.lim ≤ (m : Int)
  · have HM : Hid (chkR r = 6) := by show _ = _; unfold chkR; rw [if_neg HA.out, if_pos (by rw [← HE.out.2.2.2]; exact m1)]
    go_enter Try.func35, Try.ntmps35
    go_wp2_with fail
    refine (within_any _ _ _ (decide_eq_true H0.out) _).mono ?_
    rintro e w1 ⟨rfl, rfl⟩
    go_wp2_with fail
    refine (within_any _ _ _ (decide_eq_true H1.out) _).mono ?_
    rintro e w1 ⟨rfl, rfl⟩
    go_wp2_with fail
    refine (within_any _ _ _ (decide_eq_true H2.out) _).mono ?_
    rintro e w1 ⟨rfl, rfl⟩
    go_wp2_with fail
    go_ret
    exact ⟨ret_int (by rw [HM.out]; rfl), HW.out.2⟩
  have HA2 : Hid (chkR r = earE r.next r.lim r.next r.early) := by show _ = _; unfold chkR; rw [if_neg HA.out, if_neg (by rw [← HE.out.2.2.2]; exact m1)]
  go_enter Try.func35, Try.ntmps35
  go_wp2_with fail
  refine (within_any _ _ _ (decide_eq_true H0.out) _).mono ?_
  rintro e w1 ⟨rfl, rfl⟩
  go_wp2_with fail
  refine (within_any _ _ _ (decide_eq_true H1.out) _).mono ?_
  rintro e w1 ⟨rfl, rfl⟩
  go_wp2_with fail
  refine (within_any _ _ _ (decide_eq_true H2.out) _).mono ?_
  rintro e w1 ⟨rfl, rfl⟩
  go_wp2_with fail
  generalize (w.alloc (.cells #[.int .i64 r.ses, .int .i64 r.lim, .int .i64 r.next, .slice A m c] 33)) = W at *
  have b0 : W.cell? ⟨w.heap.size, 0, none⟩ = some (.int .i64 r.ses) := HW.out.1.cell 0
  have b1 : W.cell? ⟨w.heap.size, 1, none⟩ = some (.int .i64 r.lim) := HW.out.1.cell 1
  have b2 : W.cell? ⟨w.heap.size, 2, none⟩ = some (.int .i64 r.next) := HW.out.1.cell 2
  have b3 : W.cell? ⟨w.heap.size, 3, none⟩ = some (.slice A m c) := HW.out.1.cell 3
  have lW := HW.out.1.lt
  go_loopw [3, 4] (fun u3 u4 wr => ∃ (k : Nat) (la : Int), k ≤ m ∧ u4 = .int .i64 (k : Nat) ∧ u3 = .int .i64 la ∧ Hid (chkR r = earE r.next r.lim la (r.early.drop k)) ∧ Below W.heap.size W wr) (fun _ u4 _ => m - (intOf u4).toNat)
  case atStart => exact ⟨0, r.next, by omega, rfl, rfl, HA2, Below.refl _ _⟩
  case round =>
    obtain ⟨k, la, hk, rfl, rfl, HS, hbr⟩ := hrel
    have c0 := (hbr.cell (p := ⟨w.heap.size, 0, none⟩) lW).trans b0
    have c1 := (hbr.cell (p := ⟨w.heap.size, 1, none⟩) lW).trans b1
    have c2 := (hbr.cell (p := ⟨w.heap.size, 2, none⟩) lW).trans b2
    have c3 := (hbr.cell (p := ⟨w.heap.size, 3, none⟩) lW).trans b3
    have lR : w.heap.size < wr.heap.size := Nat.lt_of_lt_of_le lW hbr.size
    have HBR := Lib.hid hbr
    clear b0 b1 b2 b3
    by_cases hlt : k < m
    · have ik : (k : Int) < m := by omega
      have hkl : k < es.length := by rw [HE.out.2.2.1]; exact hlt
      have hkr : k < r.early.length := by rw [← HE.out.2.2.2]; exact hlt
      obtain ⟨b, off, c2, hv2, _, _, hbw, hc⟩ := HE.out.1.at_ (fun _ => rfl) (by omega) (by omega)
      injection hv2 with hA hn2 hc2
      subst hA hc2
      clear hn2
      have hbW := HW.out.2.trans (hbr.mono HW.out.2.size)
      have d0 : wr.cell? ⟨b, off + k * 2, none⟩ = some (.int .i64 es[k].seq) := (hbW.cell (p := ⟨b, off + k * 2, none⟩) hbw).trans (hc k hkl 0 _ rfl)
      have d1 : wr.cell? ⟨b, off + k * 2 + 1, none⟩ = some (.slice es[k].A es[k].p.length es[k].c) := (hbW.cell (p := ⟨b, off + k * 2 + 1, none⟩) hbw).trans (hc k hkl 1 _ rfl)
      have HD : Hid (r.early.drop k = es[k].am :: r.early.drop (k + 1)) := by
        show _ = _
        rw [List.drop_eq_getElem_cons hkr]
        congr 1
        simp [← HE.out.2.1]
      clear hc hbW hbr
      generalize es[k] = x at *
      obtain ⟨sq, pA, pc, p⟩ := x
      unfold Ae.am at HD
      dsimp only at d0 d1 HD
      obtain ⟨pl, hpl⟩ : ∃ n, p.length = n := ⟨_, rfl⟩
      have HPL := Lib.hid hpl
      rw [hpl] at d1
      clear hpl
      by_cases q0 : sq ≤ la
      · have HM : Hid (chkR r = 3) := by show _ = _; rw [HS.out, HD.out, earE, if_pos (.inl q0)]
        go_wp2_with fail
        go_ret
        exact ⟨ret_int (by rw [HM.out]; rfl), HW.out.2.trans (HBR.out.mono HW.out.2.size)⟩
      by_cases q1 : r.next + r.lim ≤ sq
      · have HM : Hid (chkR r = 3) := by show _ = _; rw [HS.out, HD.out, earE, if_pos (.inr (by dsimp only; omega))]
        go_wp2_with fail
        go_ret
        exact ⟨ret_int (by rw [HM.out]; rfl), HW.out.2.trans (HBR.out.mono HW.out.2.size)⟩
      by_cases q2 : 1073741824 ≤ sq
      · have HM : Hid (chkR r = 3) := by show _ = _; rw [HS.out, HD.out, earE, if_pos (.inr (by dsimp only; omega))]
        go_wp2_with fail
        go_ret
        exact ⟨ret_int (by rw [HM.out]; rfl), HW.out.2.trans (HBR.out.mono HW.out.2.size)⟩
      by_cases q3 : 4096 < pl
      · have HM : Hid (chkR r = 5) := by show _ = _; rw [HS.out, HD.out, earE, if_neg (by dsimp only; omega), if_pos (by dsimp only; rw [HPL.out]; exact q3)]
        have q3i : (4096 : Int) < pl := by omega
        go_wp2_with fail
        go_ret
        exact ⟨ret_int (by rw [HM.out]; rfl), HW.out.2.trans (HBR.out.mono HW.out.2.size)⟩
      have HM : Hid (chkR r = earE r.next r.lim sq (r.early.drop (k + 1))) := by show _ = _; rw [HS.out, HD.out, earE, if_neg (by dsimp only; omega), if_neg (by dsimp only; rw [HPL.out]; exact q3)]
      have q3i : ¬ (4096 : Int) < pl := by omega
      go_wp2_with fail
      go_roundw
      case rel => exact ⟨k + 1, sq, by omega, by go_num, rfl, HM, HBR.out⟩
      case measure => simp [intOf]; omega
    · obtain rfl : k = m := by omega
      have HM : Hid (chkR r = 0) := by show _ = _; rw [HS.out, HE.out.2.2.2, List.drop_length]; rfl
      go_wp2_with fail
      go_ret
      exact ⟨ret_int (by rw [HM.out]; rfl), HW.out.2.trans (HBR.out.mono HW.out.2.size)⟩
end Go.Proofs.Ytanmndhdhlmjgaa
