/- The walks of packet.Check and its reference. Conditions: small. -/
import Derived.Test.YtanmndhdhlmjgaaWc
namespace Go.Proofs.Ytanmndhdhlmjgaa
open Go.RowKit
theorem time_any (x : Int) {b : Bool} (hb : decide (0 ≤ x ∧ x ≤ 1073741824) = b) (w : World) : Calls Try.prog 85 #[.int .i64 x] w fun e w' => e = .returned (.bool b) ∧ w = w' := by
  subst hb
  by_cases h1 : 0 ≤ x
  · by_cases h2 : x ≤ 1073741824
    · go_enter Try.func85, Try.ntmps85
      go_wp2
      go_ret
      exact ⟨by simp [h1, h2], rfl⟩
    · go_enter Try.func85, Try.ntmps85
      go_wp2
      go_ret
      exact ⟨by simp [h2], rfl⟩
  · go_enter Try.func85, Try.ntmps85
    go_wp2
    go_ret
    exact ⟨by simp; omega, rfl⟩
theorem reftime_any (x : Int) {b : Bool} (hb : decide (0 ≤ x ∧ x ≤ 1073741824) = b) (w : World) : Calls Try.prog 73 #[.int .i64 x] w fun e w' => e = .returned (.bool b) ∧ w = w' := by
  subst hb
  by_cases h1 : 0 ≤ x
  · by_cases h2 : x ≤ 1073741824
    · go_enter Try.func73, Try.ntmps73
      go_wp2
      go_ret
      exact ⟨by simp [h1, h2], rfl⟩
    · go_enter Try.func73, Try.ntmps73
      go_wp2
      go_ret
      exact ⟨by simp [h2], rfl⟩
  · go_enter Try.func73, Try.ntmps73
    go_wp2
    go_ret
    exact ⟨by simp; omega, rfl⟩
set_option maxRecDepth 100000 in
set_option maxHeartbeats 2000000 in
set_option linter.unusedSimpArgs false in
theorem selective_any (ack : Int) (v : Value) (base : Nat) (l : List Xm) (w : World) (hV : XsV w base l v) (hm : l.length ≤ 100000) (ha : 0 ≤ ack ∧ ack ≤ 1073741824) :
    Calls Try.prog 86 #[.int .i64 ack, v] w fun e w' => e = .returned (.bool (selB ack ack l)) ∧ Below w.heap.size w w' := by
  unfold XsV at hV
  obtain ⟨m, hlen⟩ : ∃ m, l.length = m := ⟨_, rfl⟩
  have HL := Lib.hid hlen
  have HV := Lib.hid hV
  obtain ⟨A, c, rfl, hlc, hcm, -⟩ := hV.val
  rw [hlen] at hm hlc ⊢
  clear hlen hV
  go_enter Try.func86, Try.ntmps86
  go_wp2_with fail
  go_loopw [5, 11] (fun u5 u11 wr => ∃ (k : Nat) (e : Int), k ≤ m ∧ u11 = .int .i64 (k : Nat) ∧ u5 = .int .i64 e ∧ (0 ≤ e ∧ e ≤ 4294967296) ∧ Hid (selB ack ack l = selB ack e (l.drop k)) ∧ Below w.heap.size w wr) (fun _ u11 _ => m - (intOf u11).toNat)
  case atStart => exact ⟨0, ack, by omega, rfl, rfl, by omega, rfl, Below.refl _ _⟩
  case round =>
    obtain ⟨k, e, hk, rfl, rfl, he, HS, hb⟩ := hrel
    by_cases hlt : k < m
    · have hkl : k < l.length := by rw [HL.out]; exact hlt
      obtain ⟨b, off, c2, hv2, _, _, hbw, hc⟩ := HV.out.at_ (fun _ => rfl) (by omega) (by omega)
      injection hv2 with hA hn2 hc2
      subst hA hc2
      clear hn2
      have d0 : wr.cell? ⟨b, off + k * 2, none⟩ = some (.int .i64 l[k].s) := (hb.cell (p := ⟨b, off + k * 2, none⟩) hbw).trans (hc k hkl 0 _ rfl)
      have d1 : wr.cell? ⟨b, off + k * 2 + 1, none⟩ = some (.int .i64 l[k].c) := (hb.cell (p := ⟨b, off + k * 2 + 1, none⟩) hbw).trans (hc k hkl 1 _ rfl)
      have HD : Hid (l.drop k = l[k] :: l.drop (k + 1)) := List.drop_eq_getElem_cons hkl
      clear hc
      generalize l[k] = x at *
      have ik : (k : Int) < m := by omega
      have HB := Lib.hid hb
      clear hb
      by_cases q0 : x.s ≤ e
      · have HM : Hid (selB ack ack l = false) := by show _ = _; rw [HS.out, HD.out, selB, if_pos (.inl q0)]
        go_wp2_with fail
        go_ret
        exact ⟨ret_bool HM.out.symm, HB.out.alloc HB.out.size _⟩
      by_cases q1 : x.c < 1
      · have HM : Hid (selB ack ack l = false) := by show _ = _; rw [HS.out, HD.out, selB, if_pos (.inr (.inl q1))]
        go_wp2_with fail
        go_ret
        exact ⟨ret_bool HM.out.symm, HB.out.alloc HB.out.size _⟩
      by_cases q2 : ack + 64 < x.s
      · have HM : Hid (selB ack ack l = false) := by show _ = _; rw [HS.out, HD.out, selB, if_pos (.inr (.inr (.inl q2)))]
        go_wp2_with fail
        go_ret
        exact ⟨ret_bool HM.out.symm, HB.out.alloc HB.out.size _⟩
      by_cases q3 : ack + 64 - x.s < x.c
      · have HM : Hid (selB ack ack l = false) := by show _ = _; rw [HS.out, HD.out, selB, if_pos (.inr (.inr (.inr q3)))]
        go_wp2_with fail
        go_ret
        exact ⟨ret_bool HM.out.symm, HB.out.alloc HB.out.size _⟩
      have HM : Hid (selB ack ack l = selB ack (x.s + x.c) (l.drop (k + 1))) := by show _ = _; rw [HS.out, HD.out, selB, if_neg (by omega)]
      go_wp2_with fail
      go_roundw
      case rel => exact ⟨k + 1, x.s + x.c, by omega, by go_num, rfl, by omega, HM, HB.out.alloc HB.out.size _⟩
      case measure => simp [intOf]; omega
    · obtain rfl : k = m := by omega
      have HM : Hid (selB ack ack l = true) := by show _ = _; rw [HS.out, ← HL.out, List.drop_length]; rfl
      go_wp2_with fail
      go_ret
      exact ⟨ret_bool HM.out.symm, hb⟩
set_option maxRecDepth 100000 in
set_option maxHeartbeats 2000000 in
set_option linter.unusedSimpArgs false in
theorem refselective_any (ack : Int) (v : Value) (base : Nat) (l : List Xm) (w : World) (hV : XsV w base l v) (hm : l.length ≤ 100000) (ha : 0 ≤ ack ∧ ack ≤ 1073741824) :
    Calls Try.prog 74 #[.int .i64 ack, v] w fun e w' => e = .returned (.bool (selB ack ack l)) ∧ Below w.heap.size w w' := by
  unfold XsV at hV
  obtain ⟨m, hlen⟩ : ∃ m, l.length = m := ⟨_, rfl⟩
  have HL := Lib.hid hlen
  have HV := Lib.hid hV
  obtain ⟨A, c, rfl, hlc, hcm, -⟩ := hV.val
  rw [hlen] at hm hlc ⊢
  clear hlen hV
  go_enter Try.func74, Try.ntmps74
  go_wp2_with fail
  go_loopw [5, 6] (fun u5 u6 wr => ∃ (k : Nat) (e : Int), k ≤ m ∧ u6 = .int .i64 (k : Nat) ∧ u5 = .int .i64 e ∧ (0 ≤ e ∧ e ≤ 4294967296) ∧ Hid (selB ack ack l = selB ack e (l.drop k)) ∧ Below w.heap.size w wr) (fun _ u6 _ => m - (intOf u6).toNat)
  case atStart => exact ⟨0, ack, by omega, rfl, rfl, by omega, rfl, Below.refl _ _⟩
  case round =>
    obtain ⟨k, e, hk, rfl, rfl, he, HS, hb⟩ := hrel
    by_cases hlt : k < m
    · have hkl : k < l.length := by rw [HL.out]; exact hlt
      obtain ⟨b, off, c2, hv2, _, _, hbw, hc⟩ := HV.out.at_ (fun _ => rfl) (by omega) (by omega)
      injection hv2 with hA hn2 hc2
      subst hA hc2
      clear hn2
      have d0 : wr.cell? ⟨b, off + k * 2, none⟩ = some (.int .i64 l[k].s) := (hb.cell (p := ⟨b, off + k * 2, none⟩) hbw).trans (hc k hkl 0 _ rfl)
      have d1 : wr.cell? ⟨b, off + k * 2 + 1, none⟩ = some (.int .i64 l[k].c) := (hb.cell (p := ⟨b, off + k * 2 + 1, none⟩) hbw).trans (hc k hkl 1 _ rfl)
      have HD : Hid (l.drop k = l[k] :: l.drop (k + 1)) := List.drop_eq_getElem_cons hkl
      clear hc
      generalize l[k] = x at *
      have ik : (k : Int) < m := by omega
      have HB := Lib.hid hb
      clear hb
      by_cases q0 : x.s ≤ e
      · have HM : Hid (selB ack ack l = false) := by show _ = _; rw [HS.out, HD.out, selB, if_pos (.inl q0)]
        have r0 : decide (x.s ≤ e) = true := by simpa using q0
        have kw : IntKind.i64.wrap (ack + 64) = ack + 64 := IntWalk.i64_in _ (by omega)
        go_upto_region 5 with fail
        go_quiet (fail)
        have HB2 := Lib.hid (below_drewN HB.out nq)
        go_wp2_with fail
        go_ret
        exact ⟨ret_bool HM.out.symm, HB2.out⟩
      by_cases q1 : x.c < 1
      · have HM : Hid (selB ack ack l = false) := by show _ = _; rw [HS.out, HD.out, selB, if_pos (.inr (.inl q1))]
        have r0 : decide (x.s ≤ e) = false := by simpa using q0
        have r1 : decide (x.c < 1) = true := by simpa using q1
        have kw : IntKind.i64.wrap (ack + 64) = ack + 64 := IntWalk.i64_in _ (by omega)
        go_upto_region 5 with fail
        go_quiet (fail)
        have HB2 := Lib.hid (below_drewN HB.out nq)
        go_wp2_with fail
        go_ret
        exact ⟨ret_bool HM.out.symm, HB2.out⟩
      by_cases q2 : ack + 64 < x.s
      · have HM : Hid (selB ack ack l = false) := by show _ = _; rw [HS.out, HD.out, selB, if_pos (.inr (.inr (.inl q2)))]
        have r0 : decide (x.s ≤ e) = false := by simpa using q0
        have r1 : decide (x.c < 1) = false := by simpa using q1
        have r2 : decide (ack + 64 < x.s) = true := by simpa using q2
        have kw : IntKind.i64.wrap (ack + 64) = ack + 64 := IntWalk.i64_in _ (by omega)
        go_upto_region 5 with fail
        go_quiet (fail)
        have HB2 := Lib.hid (below_drewN HB.out nq)
        go_wp2_with fail
        go_ret
        exact ⟨ret_bool HM.out.symm, HB2.out⟩
      by_cases q3 : ack + 64 - x.s < x.c
      · have HM : Hid (selB ack ack l = false) := by show _ = _; rw [HS.out, HD.out, selB, if_pos (.inr (.inr (.inr q3)))]
        have r0 : decide (x.s ≤ e) = false := by simpa using q0
        have r1 : decide (x.c < 1) = false := by simpa using q1
        have r2 : decide (ack + 64 < x.s) = false := by simpa using q2
        have r3 : decide (ack + 64 - x.s < x.c) = true := by simpa using q3
        have kw : IntKind.i64.wrap (ack + 64) = ack + 64 := IntWalk.i64_in _ (by omega)
        have kw2 : IntKind.i64.wrap (ack + 64 - x.s) = ack + 64 - x.s := IntWalk.i64_in _ (by omega)
        go_upto_region 5 with fail
        go_quiet (fail)
        have HB2 := Lib.hid (below_drewN HB.out nq)
        go_wp2_with fail
        go_ret
        exact ⟨ret_bool HM.out.symm, HB2.out⟩
      have HM : Hid (selB ack ack l = selB ack (x.s + x.c) (l.drop (k + 1))) := by show _ = _; rw [HS.out, HD.out, selB, if_neg (by omega)]
      have r0 : decide (x.s ≤ e) = false := by simpa using q0
      have r1 : decide (x.c < 1) = false := by simpa using q1
      have r2 : decide (ack + 64 < x.s) = false := by simpa using q2
      have r3 : decide (ack + 64 - x.s < x.c) = false := by simpa using q3
      have kw : IntKind.i64.wrap (ack + 64) = ack + 64 := IntWalk.i64_in _ (by omega)
      have kw2 : IntKind.i64.wrap (ack + 64 - x.s) = ack + 64 - x.s := IntWalk.i64_in _ (by omega)
      have kw3 : IntKind.i64.wrap (x.s + x.c) = x.s + x.c := IntWalk.i64_in _ (by omega)
      go_upto_region 5 with fail
      go_quiet (fail)
      have HB2 := Lib.hid (below_drewN HB.out nq)
      clear r0 r1 r2 r3 kw kw2
      go_wp2_with fail
      go_quiet (fail)
      clear kw3
      go_wp2_with fail
      go_roundw
      case rel => exact ⟨k + 1, x.s + x.c, by omega, by go_num, rfl, by omega, HM, below_drewN HB.out _⟩
      case measure => simp [intOf]; omega
    · obtain rfl : k = m := by omega
      have HM : Hid (selB ack ack l = true) := by show _ = _; rw [HS.out, ← HL.out, List.drop_length]; rfl
      go_wp2_with fail
      go_ret
      exact ⟨ret_bool HM.out.symm, hb⟩
set_option maxRecDepth 100000 in
set_option maxHeartbeats 4000000 in
set_option linter.unusedSimpArgs false in
theorem PCheck_any (p : Pm) (v : Value) (base : Nat) (w : World) (hv : PkV w base p v) (hs : SmallP p) :
    Calls Try.prog 66 #[v] w fun e w' => e = .returned (.int .i64 (chkP p : Nat)) ∧ Below w.heap.size w w' := by
  obtain ⟨vs, vp, rfl, hX, A, c, rfl, hB⟩ := hv
  obtain ⟨Ax, cx, rfl, hx1, hx2⟩ := hX.form
  obtain ⟨vs, hvs⟩ : ∃ v, Value.slice Ax p.sel.length cx = v := ⟨_, rfl⟩
  rw [hvs] at hX ⊢
  clear hvs hx1 hx2
  have hsl := hs.sel
  obtain ⟨n, hn⟩ : ∃ n, p.p.length = n := ⟨_, rfl⟩
  have HN := Lib.hid hn
  have HX := Lib.hid hX
  unfold pkC
  rw [hn]
  have hnm : n ≤ 100000 := by rw [← hn]; exact hs.p
  clear hn hX hB hs
  have HB : Hid (Below w.heap.size w (w.alloc (.cells #[.int .i64 p.kind, .int .i64 p.ses, .int .i64 p.seq, .int .i64 p.ack, .int .i64 p.cred, vs, .slice A n c] 55))) := (Below.refl _ w).alloc (Nat.le_refl _) _
  by_cases ha : ¬ p.kind < 0
  rotate_left 1
  · have Ha := Lib.hid ha
    have HM : Hid (chkP p = 1) := by show _ = _; unfold chkP; rw [if_pos (.inl (Decidable.not_not.1 Ha.out))]
    go_enter Try.func66, Try.ntmps66
    go_wp2_with fail
    go_ret
    exact ⟨ret_int (by rw [HM.out]; rfl), HB.out⟩
  have Ha := Lib.hid ha
  by_cases hb : ¬ 2 < p.kind
  rotate_left 1
  · have Hb := Lib.hid hb
    have HM : Hid (chkP p = 1) := by show _ = _; unfold chkP; rw [if_pos (.inr (Decidable.not_not.1 Hb.out))]
    go_enter Try.func66, Try.ntmps66
    go_wp2_with fail
    go_ret
    exact ⟨ret_int (by rw [HM.out]; rfl), HB.out⟩
  have Hb := Lib.hid hb
  by_cases hc1 : 0 ≤ p.ses ∧ p.ses ≤ 1073741824
  rotate_left 1
  · have Hc1 := Lib.hid hc1
    have HM : Hid (chkP p = 2) := by show _ = _; unfold chkP; rw [if_neg (fun h => h.elim Ha.out Hb.out), if_pos (.inl Hc1.out)]
    clear hc1
    go_enter Try.func66, Try.ntmps66
    go_wp2_with fail
    refine (time_any _ (decide_eq_false Hc1.out) _).mono ?_
    rintro e w1 ⟨rfl, rfl⟩
    go_wp2_with fail
    go_ret
    exact ⟨ret_int (by rw [HM.out]; rfl), HB.out⟩
  have Hc1 := Lib.hid hc1
  by_cases hc2 : 0 ≤ p.seq ∧ p.seq ≤ 1073741824
  rotate_left 1
  · have Hc2 := Lib.hid hc2
    have HM : Hid (chkP p = 2) := by show _ = _; unfold chkP; rw [if_neg (fun h => h.elim Ha.out Hb.out), if_pos (.inr (.inl Hc2.out))]
    clear hc2
    go_enter Try.func66, Try.ntmps66
    go_wp2_with fail
    refine (time_any _ (decide_eq_true Hc1.out) _).mono ?_
    rintro e w1 ⟨rfl, rfl⟩
    go_wp2_with fail
    refine (time_any _ (decide_eq_false Hc2.out) _).mono ?_
    rintro e w1 ⟨rfl, rfl⟩
    go_wp2_with fail
    go_ret
    exact ⟨ret_int (by rw [HM.out]; rfl), HB.out⟩
  have Hc2 := Lib.hid hc2
  by_cases hc3 : 0 ≤ p.ack ∧ p.ack ≤ 1073741824
  rotate_left 1
  · have Hc3 := Lib.hid hc3
    have HM : Hid (chkP p = 2) := by show _ = _; unfold chkP; rw [if_neg (fun h => h.elim Ha.out Hb.out), if_pos (.inr (.inr (.inl Hc3.out)))]
    clear hc3
    go_enter Try.func66, Try.ntmps66
    go_wp2_with fail
    refine (time_any _ (decide_eq_true Hc1.out) _).mono ?_
    rintro e w1 ⟨rfl, rfl⟩
    go_wp2_with fail
    refine (time_any _ (decide_eq_true Hc2.out) _).mono ?_
    rintro e w1 ⟨rfl, rfl⟩
    go_wp2_with fail
    refine (time_any _ (decide_eq_false Hc3.out) _).mono ?_
    rintro e w1 ⟨rfl, rfl⟩
    go_wp2_with fail
    go_ret
    exact ⟨ret_int (by rw [HM.out]; rfl), HB.out⟩
  have Hc3 := Lib.hid hc3
  by_cases hd : ¬ p.cred < 0
  rotate_left 1
  · have Hd := Lib.hid hd
    have HM : Hid (chkP p = 2) := by show _ = _; unfold chkP; rw [if_neg (fun h => h.elim Ha.out Hb.out), if_pos (.inr (.inr (.inr (.inl (Decidable.not_not.1 Hd.out)))))]
    go_enter Try.func66, Try.ntmps66
    go_wp2_with fail
    refine (time_any _ (decide_eq_true Hc1.out) _).mono ?_
    rintro e w1 ⟨rfl, rfl⟩
    go_wp2_with fail
    refine (time_any _ (decide_eq_true Hc2.out) _).mono ?_
    rintro e w1 ⟨rfl, rfl⟩
    go_wp2_with fail
    refine (time_any _ (decide_eq_true Hc3.out) _).mono ?_
    rintro e w1 ⟨rfl, rfl⟩
    go_wp2_with fail
    go_ret
    exact ⟨ret_int (by rw [HM.out]; rfl), HB.out⟩
  have Hd := Lib.hid hd
  by_cases he : ¬ 64 < p.cred
  rotate_left 1
  · have He := Lib.hid he
    have HM : Hid (chkP p = 2) := by show _ = _; unfold chkP; rw [if_neg (fun h => h.elim Ha.out Hb.out), if_pos (.inr (.inr (.inr (.inr (Decidable.not_not.1 He.out)))))]
    go_enter Try.func66, Try.ntmps66
    go_wp2_with fail
    refine (time_any _ (decide_eq_true Hc1.out) _).mono ?_
    rintro e w1 ⟨rfl, rfl⟩
    go_wp2_with fail
    refine (time_any _ (decide_eq_true Hc2.out) _).mono ?_
    rintro e w1 ⟨rfl, rfl⟩
    go_wp2_with fail
    refine (time_any _ (decide_eq_true Hc3.out) _).mono ?_
    rintro e w1 ⟨rfl, rfl⟩
    go_wp2_with fail
    go_ret
    exact ⟨ret_int (by rw [HM.out]; rfl), HB.out⟩
  have He := Lib.hid he
  have HC : Hid (¬ (¬ (0 ≤ p.ses ∧ p.ses ≤ 1073741824) ∨ ¬ (0 ≤ p.seq ∧ p.seq ≤ 1073741824) ∨ ¬ (0 ≤ p.ack ∧ p.ack ≤ 1073741824) ∨ p.cred < 0 ∨ 64 < p.cred)) := by show ¬ _; omega
  clear hc1 hc2 hc3
  by_cases hs : selB p.ack p.ack p.sel = true
  rotate_left 1
  · have Hs := Lib.hid hs
    have HSf : Hid (selB p.ack p.ack p.sel = false) := by show _ = _; simpa using hs
    have HM : Hid (chkP p = 3) := by show _ = _; unfold chkP; rw [if_neg (fun h => h.elim Ha.out Hb.out), if_neg HC.out, if_pos HSf.out]
    clear hs
    go_enter Try.func66, Try.ntmps66
    go_wp2_with fail
    refine (time_any _ (decide_eq_true Hc1.out) _).mono ?_
    rintro e w1 ⟨rfl, rfl⟩
    go_wp2_with fail
    refine (time_any _ (decide_eq_true Hc2.out) _).mono ?_
    rintro e w1 ⟨rfl, rfl⟩
    go_wp2_with fail
    refine (time_any _ (decide_eq_true Hc3.out) _).mono ?_
    rintro e w1 ⟨rfl, rfl⟩
    go_wp2_with fail
    refine (selective_any p.ack vs base p.sel _ (HX.out.up HB.out) (by omega) Hc3.out).mono ?_
    rintro e w1 ⟨rfl, hb1⟩
    rw [HSf.out]
    have HB1 := Lib.hid (HB.out.trans (hb1.mono HB.out.size))
    obtain ⟨hcc, hff⟩ := bcell hb1
    clear hb1
    go_wp2_with fail
    go_ret
    exact ⟨ret_int (by rw [HM.out]; rfl), HB1.out⟩
  have Hs := Lib.hid hs
  have HSt := Lib.hid hs
  clear hs
  by_cases hf : ¬ 4096 < n
  rotate_left 1
  · have Hf := Lib.hid hf
    have HM : Hid (chkP p = 5) := by show _ = _; unfold chkP; rw [if_neg (fun h => h.elim Ha.out Hb.out), if_neg HC.out, if_neg (by rw [HSt.out]; decide), if_pos (by rw [HN.out]; exact Decidable.not_not.1 Hf.out)]
    have hf : (4096 : Int) < n := by omega
    go_enter Try.func66, Try.ntmps66
    go_wp2_with fail
    refine (time_any _ (decide_eq_true Hc1.out) _).mono ?_
    rintro e w1 ⟨rfl, rfl⟩
    go_wp2_with fail
    refine (time_any _ (decide_eq_true Hc2.out) _).mono ?_
    rintro e w1 ⟨rfl, rfl⟩
    go_wp2_with fail
    refine (time_any _ (decide_eq_true Hc3.out) _).mono ?_
    rintro e w1 ⟨rfl, rfl⟩
    go_wp2_with fail
    refine (selective_any p.ack vs base p.sel _ (HX.out.up HB.out) (by omega) Hc3.out).mono ?_
    rintro e w1 ⟨rfl, hb1⟩
    rw [HSt.out]
    have HB1 := Lib.hid (HB.out.trans (hb1.mono HB.out.size))
    obtain ⟨hcc, hff⟩ := bcell hb1
    clear hb1
    go_wp2_with fail
    go_ret
    exact ⟨ret_int (by rw [HM.out]; rfl), HB1.out⟩
  have Hf := Lib.hid hf
  have hf : ¬ (4096 : Int) < n := by omega
  by_cases hg : ¬ (0 < n ∧ p.kind ≠ 0)
  rotate_left 1
  · have Hg := Lib.hid hg
    have HM : Hid (chkP p = 3) := by show _ = _; unfold chkP; rw [if_neg (fun h => h.elim Ha.out Hb.out), if_neg HC.out, if_neg (by rw [HSt.out]; decide), if_neg (by rw [HN.out]; exact Hf.out), if_pos (by rw [HN.out]; exact Decidable.not_not.1 Hg.out)]
    obtain ⟨g1, g2⟩ := Decidable.not_not.1 hg
    have g1 : (0 : Int) < n := by omega
    have g2 : (p.kind != 0) = true := by simpa using g2
    clear hg
    go_enter Try.func66, Try.ntmps66
    go_wp2_with fail
    refine (time_any _ (decide_eq_true Hc1.out) _).mono ?_
    rintro e w1 ⟨rfl, rfl⟩
    go_wp2_with fail
    refine (time_any _ (decide_eq_true Hc2.out) _).mono ?_
    rintro e w1 ⟨rfl, rfl⟩
    go_wp2_with fail
    refine (time_any _ (decide_eq_true Hc3.out) _).mono ?_
    rintro e w1 ⟨rfl, rfl⟩
    go_wp2_with fail
    refine (selective_any p.ack vs base p.sel _ (HX.out.up HB.out) (by omega) Hc3.out).mono ?_
    rintro e w1 ⟨rfl, hb1⟩
    rw [HSt.out]
    have HB1 := Lib.hid (HB.out.trans (hb1.mono HB.out.size))
    obtain ⟨hcc, hff⟩ := bcell hb1
    clear hb1
    go_wp2_with fail
    go_ret
    exact ⟨ret_int (by rw [HM.out]; rfl), HB1.out⟩
  have Hg := Lib.hid hg
  have HM : Hid (chkP p = 0) := by show _ = _; unfold chkP; rw [if_neg (fun h => h.elim Ha.out Hb.out), if_neg HC.out, if_neg (by rw [HSt.out]; decide), if_neg (by rw [HN.out]; exact Hf.out), if_neg (by rw [HN.out]; exact Hg.out)]
  by_cases g1 : 0 < n
  · have g2 : (p.kind != 0) = false := by
      by_cases h9 : p.kind = 0
      · simp [h9]
      · exact absurd ⟨g1, h9⟩ hg
    have g1 : (0 : Int) < n := by omega
    clear hg
    go_enter Try.func66, Try.ntmps66
    go_wp2_with fail
    refine (time_any _ (decide_eq_true Hc1.out) _).mono ?_
    rintro e w1 ⟨rfl, rfl⟩
    go_wp2_with fail
    refine (time_any _ (decide_eq_true Hc2.out) _).mono ?_
    rintro e w1 ⟨rfl, rfl⟩
    go_wp2_with fail
    refine (time_any _ (decide_eq_true Hc3.out) _).mono ?_
    rintro e w1 ⟨rfl, rfl⟩
    go_wp2_with fail
    refine (selective_any p.ack vs base p.sel _ (HX.out.up HB.out) (by omega) Hc3.out).mono ?_
    rintro e w1 ⟨rfl, hb1⟩
    rw [HSt.out]
    have HB1 := Lib.hid (HB.out.trans (hb1.mono HB.out.size))
    obtain ⟨hcc, hff⟩ := bcell hb1
    clear hb1
    go_wp2_with fail
    go_ret
    exact ⟨ret_int (by rw [HM.out]; rfl), HB1.out⟩
  · have g1 : ¬ (0 : Int) < n := by omega
    clear hg
    go_enter Try.func66, Try.ntmps66
    go_wp2_with fail
    refine (time_any _ (decide_eq_true Hc1.out) _).mono ?_
    rintro e w1 ⟨rfl, rfl⟩
    go_wp2_with fail
    refine (time_any _ (decide_eq_true Hc2.out) _).mono ?_
    rintro e w1 ⟨rfl, rfl⟩
    go_wp2_with fail
    refine (time_any _ (decide_eq_true Hc3.out) _).mono ?_
    rintro e w1 ⟨rfl, rfl⟩
    go_wp2_with fail
    refine (selective_any p.ack vs base p.sel _ (HX.out.up HB.out) (by omega) Hc3.out).mono ?_
    rintro e w1 ⟨rfl, hb1⟩
    rw [HSt.out]
    have HB1 := Lib.hid (HB.out.trans (hb1.mono HB.out.size))
    obtain ⟨hcc, hff⟩ := bcell hb1
    clear hb1
    go_wp2_with fail
    go_ret
    exact ⟨ret_int (by rw [HM.out]; rfl), HB1.out⟩
set_option maxRecDepth 100000 in
set_option maxHeartbeats 4000000 in
set_option linter.unusedSimpArgs false in
theorem refPCheck_any (p : Pm) (v : Value) (base : Nat) (w : World) (hv : PkV w base p v) (hs : SmallP p) :
    Calls Try.prog 44 #[v] w fun e w' => e = .returned (.int .i64 (chkP p : Nat)) ∧ Below w.heap.size w w' := by
  obtain ⟨vs, vp, rfl, hX, A, c, rfl, hB⟩ := hv
  obtain ⟨Ax, cx, rfl, hx1, hx2⟩ := hX.form
  obtain ⟨vs, hvs⟩ : ∃ v, Value.slice Ax p.sel.length cx = v := ⟨_, rfl⟩
  rw [hvs] at hX ⊢
  clear hvs hx1 hx2
  have hsl := hs.sel
  obtain ⟨n, hn⟩ : ∃ n, p.p.length = n := ⟨_, rfl⟩
  have HN := Lib.hid hn
  have HX := Lib.hid hX
  unfold pkC
  rw [hn]
  have hnm : n ≤ 100000 := by rw [← hn]; exact hs.p
  clear hn hX hB hs
  have HB : Hid (Below w.heap.size w (w.alloc (.cells #[.int .i64 p.kind, .int .i64 p.ses, .int .i64 p.seq, .int .i64 p.ack, .int .i64 p.cred, vs, .slice A n c] 55))) := (Below.refl _ w).alloc (Nat.le_refl _) _
  by_cases ha : ¬ p.kind < 0
  rotate_left 1
  · have Ha := Lib.hid ha
    have HM : Hid (chkP p = 1) := by show _ = _; unfold chkP; rw [if_pos (.inl (Decidable.not_not.1 Ha.out))]
    go_enter Try.func44, Try.ntmps44
    go_wp2_with fail
    go_ret
    exact ⟨ret_int (by rw [HM.out]; rfl), HB.out⟩
  have Ha := Lib.hid ha
  by_cases hb : ¬ 2 < p.kind
  rotate_left 1
  · have Hb := Lib.hid hb
    have HM : Hid (chkP p = 1) := by show _ = _; unfold chkP; rw [if_pos (.inr (Decidable.not_not.1 Hb.out))]
    go_enter Try.func44, Try.ntmps44
    go_wp2_with fail
    go_ret
    exact ⟨ret_int (by rw [HM.out]; rfl), HB.out⟩
  have Hb := Lib.hid hb
  by_cases hc1 : 0 ≤ p.ses ∧ p.ses ≤ 1073741824
  rotate_left 1
  · have Hc1 := Lib.hid hc1
    have HM : Hid (chkP p = 2) := by show _ = _; unfold chkP; rw [if_neg (fun h => h.elim Ha.out Hb.out), if_pos (.inl Hc1.out)]
    clear hc1
    go_enter Try.func44, Try.ntmps44
    go_wp2_with fail
    refine (reftime_any _ (decide_eq_false Hc1.out) _).mono ?_
    rintro e w1 ⟨rfl, rfl⟩
    go_wp2_with fail
    go_ret
    exact ⟨ret_int (by rw [HM.out]; rfl), HB.out⟩
  have Hc1 := Lib.hid hc1
  by_cases hc2 : 0 ≤ p.seq ∧ p.seq ≤ 1073741824
  rotate_left 1
  · have Hc2 := Lib.hid hc2
    have HM : Hid (chkP p = 2) := by show _ = _; unfold chkP; rw [if_neg (fun h => h.elim Ha.out Hb.out), if_pos (.inr (.inl Hc2.out))]
    clear hc2
    go_enter Try.func44, Try.ntmps44
    go_wp2_with fail
    refine (reftime_any _ (decide_eq_true Hc1.out) _).mono ?_
    rintro e w1 ⟨rfl, rfl⟩
    go_wp2_with fail
    refine (reftime_any _ (decide_eq_false Hc2.out) _).mono ?_
    rintro e w1 ⟨rfl, rfl⟩
    go_wp2_with fail
    go_ret
    exact ⟨ret_int (by rw [HM.out]; rfl), HB.out⟩
  have Hc2 := Lib.hid hc2
  by_cases hc3 : 0 ≤ p.ack ∧ p.ack ≤ 1073741824
  rotate_left 1
  · have Hc3 := Lib.hid hc3
    have HM : Hid (chkP p = 2) := by show _ = _; unfold chkP; rw [if_neg (fun h => h.elim Ha.out Hb.out), if_pos (.inr (.inr (.inl Hc3.out)))]
    clear hc3
    go_enter Try.func44, Try.ntmps44
    go_wp2_with fail
    refine (reftime_any _ (decide_eq_true Hc1.out) _).mono ?_
    rintro e w1 ⟨rfl, rfl⟩
    go_wp2_with fail
    refine (reftime_any _ (decide_eq_true Hc2.out) _).mono ?_
    rintro e w1 ⟨rfl, rfl⟩
    go_wp2_with fail
    refine (reftime_any _ (decide_eq_false Hc3.out) _).mono ?_
    rintro e w1 ⟨rfl, rfl⟩
    go_wp2_with fail
    go_ret
    exact ⟨ret_int (by rw [HM.out]; rfl), HB.out⟩
  have Hc3 := Lib.hid hc3
  by_cases hd : ¬ p.cred < 0
  rotate_left 1
  · have Hd := Lib.hid hd
    have HM : Hid (chkP p = 2) := by show _ = _; unfold chkP; rw [if_neg (fun h => h.elim Ha.out Hb.out), if_pos (.inr (.inr (.inr (.inl (Decidable.not_not.1 Hd.out)))))]
    go_enter Try.func44, Try.ntmps44
    go_wp2_with fail
    refine (reftime_any _ (decide_eq_true Hc1.out) _).mono ?_
    rintro e w1 ⟨rfl, rfl⟩
    go_wp2_with fail
    refine (reftime_any _ (decide_eq_true Hc2.out) _).mono ?_
    rintro e w1 ⟨rfl, rfl⟩
    go_wp2_with fail
    refine (reftime_any _ (decide_eq_true Hc3.out) _).mono ?_
    rintro e w1 ⟨rfl, rfl⟩
    go_wp2_with fail
    go_ret
    exact ⟨ret_int (by rw [HM.out]; rfl), HB.out⟩
  have Hd := Lib.hid hd
  by_cases he : ¬ 64 < p.cred
  rotate_left 1
  · have He := Lib.hid he
    have HM : Hid (chkP p = 2) := by show _ = _; unfold chkP; rw [if_neg (fun h => h.elim Ha.out Hb.out), if_pos (.inr (.inr (.inr (.inr (Decidable.not_not.1 He.out)))))]
    go_enter Try.func44, Try.ntmps44
    go_wp2_with fail
    refine (reftime_any _ (decide_eq_true Hc1.out) _).mono ?_
    rintro e w1 ⟨rfl, rfl⟩
    go_wp2_with fail
    refine (reftime_any _ (decide_eq_true Hc2.out) _).mono ?_
    rintro e w1 ⟨rfl, rfl⟩
    go_wp2_with fail
    refine (reftime_any _ (decide_eq_true Hc3.out) _).mono ?_
    rintro e w1 ⟨rfl, rfl⟩
    go_wp2_with fail
    go_ret
    exact ⟨ret_int (by rw [HM.out]; rfl), HB.out⟩
  have He := Lib.hid he
  have HC : Hid (¬ (¬ (0 ≤ p.ses ∧ p.ses ≤ 1073741824) ∨ ¬ (0 ≤ p.seq ∧ p.seq ≤ 1073741824) ∨ ¬ (0 ≤ p.ack ∧ p.ack ≤ 1073741824) ∨ p.cred < 0 ∨ 64 < p.cred)) := by show ¬ _; omega
  clear hc1 hc2 hc3
  by_cases hs : selB p.ack p.ack p.sel = true
  rotate_left 1
  · have Hs := Lib.hid hs
    have HSf : Hid (selB p.ack p.ack p.sel = false) := by show _ = _; simpa using hs
    have HM : Hid (chkP p = 3) := by show _ = _; unfold chkP; rw [if_neg (fun h => h.elim Ha.out Hb.out), if_neg HC.out, if_pos HSf.out]
    clear hs
    go_enter Try.func44, Try.ntmps44
    go_wp2_with fail
    refine (reftime_any _ (decide_eq_true Hc1.out) _).mono ?_
    rintro e w1 ⟨rfl, rfl⟩
    go_wp2_with fail
    refine (reftime_any _ (decide_eq_true Hc2.out) _).mono ?_
    rintro e w1 ⟨rfl, rfl⟩
    go_wp2_with fail
    refine (reftime_any _ (decide_eq_true Hc3.out) _).mono ?_
    rintro e w1 ⟨rfl, rfl⟩
    go_wp2_with fail
    refine (refselective_any p.ack vs base p.sel _ (HX.out.up HB.out) (by omega) Hc3.out).mono ?_
    rintro e w1 ⟨rfl, hb1⟩
    rw [HSf.out]
    have HB1 := Lib.hid (HB.out.trans (hb1.mono HB.out.size))
    obtain ⟨hcc, hff⟩ := bcell hb1
    clear hb1
    go_wp2_with fail
    go_ret
    exact ⟨ret_int (by rw [HM.out]; rfl), HB1.out⟩
  have Hs := Lib.hid hs
  have HSt := Lib.hid hs
  clear hs
  by_cases hf : ¬ 4096 < n
  rotate_left 1
  · have Hf := Lib.hid hf
    have HM : Hid (chkP p = 5) := by show _ = _; unfold chkP; rw [if_neg (fun h => h.elim Ha.out Hb.out), if_neg HC.out, if_neg (by rw [HSt.out]; decide), if_pos (by rw [HN.out]; exact Decidable.not_not.1 Hf.out)]
    have hf : (4096 : Int) < n := by omega
    go_enter Try.func44, Try.ntmps44
    go_wp2_with fail
    refine (reftime_any _ (decide_eq_true Hc1.out) _).mono ?_
    rintro e w1 ⟨rfl, rfl⟩
    go_wp2_with fail
    refine (reftime_any _ (decide_eq_true Hc2.out) _).mono ?_
    rintro e w1 ⟨rfl, rfl⟩
    go_wp2_with fail
    refine (reftime_any _ (decide_eq_true Hc3.out) _).mono ?_
    rintro e w1 ⟨rfl, rfl⟩
    go_wp2_with fail
    refine (refselective_any p.ack vs base p.sel _ (HX.out.up HB.out) (by omega) Hc3.out).mono ?_
    rintro e w1 ⟨rfl, hb1⟩
    rw [HSt.out]
    have HB1 := Lib.hid (HB.out.trans (hb1.mono HB.out.size))
    obtain ⟨hcc, hff⟩ := bcell hb1
    clear hb1
    go_wp2_with fail
    go_ret
    exact ⟨ret_int (by rw [HM.out]; rfl), HB1.out⟩
  have Hf := Lib.hid hf
  have hf : ¬ (4096 : Int) < n := by omega
  by_cases hg : ¬ (0 < n ∧ p.kind ≠ 0)
  rotate_left 1
  · have Hg := Lib.hid hg
    have HM : Hid (chkP p = 3) := by show _ = _; unfold chkP; rw [if_neg (fun h => h.elim Ha.out Hb.out), if_neg HC.out, if_neg (by rw [HSt.out]; decide), if_neg (by rw [HN.out]; exact Hf.out), if_pos (by rw [HN.out]; exact Decidable.not_not.1 Hg.out)]
    obtain ⟨g1, g2⟩ := Decidable.not_not.1 hg
    have g1 : (0 : Int) < n := by omega
    have g2 : (p.kind != 0) = true := by simpa using g2
    clear hg
    go_enter Try.func44, Try.ntmps44
    go_wp2_with fail
    refine (reftime_any _ (decide_eq_true Hc1.out) _).mono ?_
    rintro e w1 ⟨rfl, rfl⟩
    go_wp2_with fail
    refine (reftime_any _ (decide_eq_true Hc2.out) _).mono ?_
    rintro e w1 ⟨rfl, rfl⟩
    go_wp2_with fail
    refine (reftime_any _ (decide_eq_true Hc3.out) _).mono ?_
    rintro e w1 ⟨rfl, rfl⟩
    go_wp2_with fail
    refine (refselective_any p.ack vs base p.sel _ (HX.out.up HB.out) (by omega) Hc3.out).mono ?_
    rintro e w1 ⟨rfl, hb1⟩
    rw [HSt.out]
    have HB1 := Lib.hid (HB.out.trans (hb1.mono HB.out.size))
    obtain ⟨hcc, hff⟩ := bcell hb1
    clear hb1
    go_wp2_with fail
    go_ret
    exact ⟨ret_int (by rw [HM.out]; rfl), HB1.out⟩
  have Hg := Lib.hid hg
  have HM : Hid (chkP p = 0) := by show _ = _; unfold chkP; rw [if_neg (fun h => h.elim Ha.out Hb.out), if_neg HC.out, if_neg (by rw [HSt.out]; decide), if_neg (by rw [HN.out]; exact Hf.out), if_neg (by rw [HN.out]; exact Hg.out)]
  by_cases g1 : 0 < n
  · have g2 : (p.kind != 0) = false := by
      by_cases h9 : p.kind = 0
      · simp [h9]
      · exact absurd ⟨g1, h9⟩ hg
    have g1 : (0 : Int) < n := by omega
    clear hg
    go_enter Try.func44, Try.ntmps44
    go_wp2_with fail
    refine (reftime_any _ (decide_eq_true Hc1.out) _).mono ?_
    rintro e w1 ⟨rfl, rfl⟩
    go_wp2_with fail
    refine (reftime_any _ (decide_eq_true Hc2.out) _).mono ?_
    rintro e w1 ⟨rfl, rfl⟩
    go_wp2_with fail
    refine (reftime_any _ (decide_eq_true Hc3.out) _).mono ?_
    rintro e w1 ⟨rfl, rfl⟩
    go_wp2_with fail
    refine (refselective_any p.ack vs base p.sel _ (HX.out.up HB.out) (by omega) Hc3.out).mono ?_
    rintro e w1 ⟨rfl, hb1⟩
    rw [HSt.out]
    have HB1 := Lib.hid (HB.out.trans (hb1.mono HB.out.size))
    obtain ⟨hcc, hff⟩ := bcell hb1
    clear hb1
    go_wp2_with fail
    go_ret
    exact ⟨ret_int (by rw [HM.out]; rfl), HB1.out⟩
  · have g1 : ¬ (0 : Int) < n := by omega
    clear hg
    go_enter Try.func44, Try.ntmps44
    go_wp2_with fail
    refine (reftime_any _ (decide_eq_true Hc1.out) _).mono ?_
    rintro e w1 ⟨rfl, rfl⟩
    go_wp2_with fail
    refine (reftime_any _ (decide_eq_true Hc2.out) _).mono ?_
    rintro e w1 ⟨rfl, rfl⟩
    go_wp2_with fail
    refine (reftime_any _ (decide_eq_true Hc3.out) _).mono ?_
    rintro e w1 ⟨rfl, rfl⟩
    go_wp2_with fail
    refine (refselective_any p.ack vs base p.sel _ (HX.out.up HB.out) (by omega) Hc3.out).mono ?_
    rintro e w1 ⟨rfl, hb1⟩
    rw [HSt.out]
    have HB1 := Lib.hid (HB.out.trans (hb1.mono HB.out.size))
    obtain ⟨hcc, hff⟩ := bcell hb1
    clear hb1
    go_wp2_with fail
    go_ret
    exact ⟨ret_int (by rw [HM.out]; rfl), HB1.out⟩
end Go.Proofs.Ytanmndhdhlmjgaa
