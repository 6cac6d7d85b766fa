/- The walks of outstanding and CheckSender. Conditions: small. -/
import Derived.Test.YtanmndhdhlmjgaaWc
namespace Go.Proofs.Ytanmndhdhlmjgaa
open Go.RowKit
set_option maxRecDepth 100000 in
set_option maxHeartbeats 2000000 in
set_option linter.unusedSimpArgs false in
theorem outstanding_any (s : Sm) (vo vq : Value) (base : Nat) (es : List Oe) (i : Nat) (w : World) (hV : Vec encO OeR 82 5 w base vo es) (hi : i < es.length) (hm : es.length ≤ 100000) (hb : 0 ≤ s.base ∧ s.base ≤ 1073741824) :
    Calls Try.prog 48 #[.agg (snC s vo vq), .int .i64 i] w fun e w' => e = .returned (.int .i64 (outE s.base i es[i].om : Nat)) ∧ Below w.heap.size w w' := by
  obtain ⟨b, off, c, rfl, hlc, hcm, hbw, hc⟩ := hV.at_ (fun _ => rfl) (by omega) (by omega)
  have d0 : w.cell? ⟨b, off + i * 5, none⟩ = some (.int .i64 es[i].seq) := hc i hi 0 _ rfl
  have d1 : w.cell? ⟨b, off + i * 5 + 1, none⟩ = some (.int .i64 es[i].time) := hc i hi 1 _ rfl
  have d2 : w.cell? ⟨b, off + i * 5 + 2, none⟩ = some (.int .i64 es[i].cnt) := hc i hi 2 _ rfl
  have d3 : w.cell? ⟨b, off + i * 5 + 3, none⟩ = some (.bool es[i].ak) := hc i hi 3 _ rfl
  have d4 : w.cell? ⟨b, off + i * 5 + 4, none⟩ = some (.slice es[i].A es[i].p.length es[i].c) := hc i hi 4 _ rfl
  have hpl : es[i].om.p.length = es[i].p.length := rfl
  obtain ⟨sb, hsb⟩ : ∃ x, s.base = x := ⟨_, rfl⟩
  have HO : Hid (∃ o : Om, o = es[i].om ∧ o.seq = es[i].seq ∧ o.time = es[i].time ∧ o.cnt = es[i].cnt ∧ o.ak = es[i].ak ∧ o.p.length = es[i].p.length) := ⟨_, rfl, rfl, rfl, rfl, rfl, rfl⟩
  generalize es[i].om = om at *
  obtain ⟨o2, rfl, o1, o3, o4, o5, o6⟩ := HO.out
  rw [← o1] at d0
  rw [← o3] at d1
  rw [← o4] at d2
  rw [← o5] at d3
  rw [← o6] at d4
  clear HO o1 o3 o4 o5 o6 hpl hc
  generalize es[i].A = pA at *
  generalize es[i].c = pc at *
  generalize es.length = m at *
  obtain ⟨sq, tm, ct, ak, p⟩ := o2
  dsimp only at d0 d1 d2 d3 d4
  have ii : (i : Int) < m := by omega
  unfold snC
  rw [hsb] at hb ⊢
  clear hsb hV
  by_cases c1 : sq = sb + i
  rotate_left 1
  · have Hc1 := Lib.hid c1
    have HM : Hid (outE sb i ⟨sq, tm, ct, ak, p⟩ = 3) := by show _ = _; unfold outE; rw [if_pos Hc1.out]
    have k1 : (sq != sb + (i : Int)) = true := by simpa using c1
    clear c1
    go_enter Try.func48, Try.ntmps48
    go_wp2_with fail
    go_ret
    exact ⟨ret_int (by rw [HM.out]; rfl), ((Below.refl _ w).alloc (Nat.le_refl _) _).alloc (by simp) _⟩
  have Hc1 := Lib.hid c1
  have k1 : (sq != sb + (i : Int)) = false := by simp [c1]
  clear c1
  by_cases c2 : 1 ≤ ct ∧ ct ≤ 1073741824
  rotate_left 1
  · have Hc2 := Lib.hid c2
    have HM : Hid (outE sb i ⟨sq, tm, ct, ak, p⟩ = 3) := by show _ = _; unfold outE; rw [if_neg (not_not_intro Hc1.out), if_pos Hc2.out]
    clear c2
    go_enter Try.func48, Try.ntmps48
    go_wp2_with fail
    refine (in_any _ _ _ (decide_eq_false Hc2.out) _).mono ?_
    rintro e w1 ⟨rfl, rfl⟩
    go_wp2_with fail
    go_ret
    exact ⟨ret_int (by rw [HM.out]; rfl), ((Below.refl _ w).alloc (Nat.le_refl _) _).alloc (by simp) _⟩
  have Hc2 := Lib.hid c2
  clear c2
  by_cases c3 : ¬ (i = 0 ∧ ak = true)
  rotate_left 1
  · have Hc3 := Lib.hid c3
    have HM : Hid (outE sb i ⟨sq, tm, ct, ak, p⟩ = 3) := by show _ = _; unfold outE; rw [if_neg (not_not_intro Hc1.out), if_neg (not_not_intro Hc2.out), if_pos (Decidable.not_not.1 Hc3.out)]
    obtain ⟨q1, q2⟩ := Decidable.not_not.1 c3
    have k3 : ((i : Int) == 0) = true := by simp [q1]
    clear q1
    clear c3
    go_enter Try.func48, Try.ntmps48
    go_wp2_with fail
    refine (in_any _ _ _ (decide_eq_true Hc2.out) _).mono ?_
    rintro e w1 ⟨rfl, rfl⟩
    go_wp2_with fail
    go_ret
    exact ⟨ret_int (by rw [HM.out]; rfl), ((Below.refl _ w).alloc (Nat.le_refl _) _).alloc (by simp) _⟩
  have Hc3 := Lib.hid c3
  have K3 : (((i : Int) == 0) = true ∧ ak = false) ∨ ((i : Int) == 0) = false := by
    by_cases h0 : i = 0
    · refine .inl ⟨by simp [h0], ?_⟩
      cases ak with
      | false => rfl
      | true => exact absurd ⟨h0, rfl⟩ c3
    · exact .inr (by simp; omega)
  clear c3
  rcases K3 with ⟨k3, k4⟩ | k3
  all_goals
    by_cases c4 : 0 ≤ tm ∧ tm ≤ 1073741824
    rotate_left 1
    · have Hc4 := Lib.hid c4
      have HM : Hid (outE sb i ⟨sq, tm, ct, ak, p⟩ = 24) := by show _ = _; unfold outE; rw [if_neg (not_not_intro Hc1.out), if_neg (not_not_intro Hc2.out), if_neg Hc3.out, if_pos Hc4.out]
      clear c4
      go_enter Try.func48, Try.ntmps48
      go_wp2_with fail
      refine (in_any _ _ _ (decide_eq_true Hc2.out) _).mono ?_
      rintro e w1 ⟨rfl, rfl⟩
      go_wp2_with fail
      refine (in_any _ _ _ (decide_eq_false Hc4.out) _).mono ?_
      rintro e w1 ⟨rfl, rfl⟩
      go_wp2_with fail
      go_ret
      exact ⟨ret_int (by rw [HM.out]; rfl), ((Below.refl _ w).alloc (Nat.le_refl _) _).alloc (by simp) _⟩
    have Hc4 := Lib.hid c4
    clear c4
    by_cases c5 : ¬ (4096 < p.length)
    rotate_left 1
    · have Hc5 := Lib.hid c5
      have HM : Hid (outE sb i ⟨sq, tm, ct, ak, p⟩ = 5) := by show _ = _; unfold outE; rw [if_neg (not_not_intro Hc1.out), if_neg (not_not_intro Hc2.out), if_neg Hc3.out, if_neg (not_not_intro Hc4.out), if_pos (Decidable.not_not.1 Hc5.out)]
      clear c5
      go_enter Try.func48, Try.ntmps48
      go_wp2_with fail
      refine (in_any _ _ _ (decide_eq_true Hc2.out) _).mono ?_
      rintro e w1 ⟨rfl, rfl⟩
      go_wp2_with fail
      refine (in_any _ _ _ (decide_eq_true Hc4.out) _).mono ?_
      rintro e w1 ⟨rfl, rfl⟩
      go_wp2_with fail
      refine (long_any _ _ _ (decide_eq_true (Decidable.not_not.1 Hc5.out)) _).mono ?_
      rintro e w1 ⟨rfl, rfl⟩
      go_wp2_with fail
      go_ret
      exact ⟨ret_int (by rw [HM.out]; rfl), ((Below.refl _ w).alloc (Nat.le_refl _) _).alloc (by simp) _⟩
    have Hc5 := Lib.hid c5
    clear c5
    have HM : Hid (outE sb i ⟨sq, tm, ct, ak, p⟩ = 0) := by show _ = _; unfold outE; rw [if_neg (not_not_intro Hc1.out), if_neg (not_not_intro Hc2.out), if_neg Hc3.out, if_neg (not_not_intro Hc4.out), if_neg Hc5.out]
    go_enter Try.func48, Try.ntmps48
    go_wp2_with fail
    refine (in_any _ _ _ (decide_eq_true Hc2.out) _).mono ?_
    rintro e w1 ⟨rfl, rfl⟩
    go_wp2_with fail
    refine (in_any _ _ _ (decide_eq_true Hc4.out) _).mono ?_
    rintro e w1 ⟨rfl, rfl⟩
    go_wp2_with fail
    refine (long_any _ _ _ (decide_eq_false Hc5.out) _).mono ?_
    rintro e w1 ⟨rfl, rfl⟩
    go_wp2_with fail
    go_ret
    exact ⟨ret_int (by rw [HM.out]; rfl), ((Below.refl _ w).alloc (Nat.le_refl _) _).alloc (by simp) _⟩
end Go.Proofs.Ytanmndhdhlmjgaa

/- The walk of CheckSender. Conditions: small. -/
namespace Go.Proofs.Ytanmndhdhlmjgaa
open Go.RowKit
theorem outsE_zero (base : Int) : ∀ (l : List Om) (i : Nat), (∀ j (h : j < l.length), outE base (i + j) l[j] = 0) → outsE base i l = 0
  | [], _, _ => rfl
  | o :: l, i, h => by
    have h0 := h 0 (by simp)
    simp only [Nat.add_zero, List.getElem_cons_zero] at h0
    rw [outsE, if_pos h0]
    exact outsE_zero base l (i + 1) fun j hj => by
      have h1 := h (j + 1) (by simpa using hj)
      rw [show i + (j + 1) = i + 1 + j by omega] at h1
      simpa using h1
theorem outsE_some (base : Int) : ∀ (l : List Om) (i k : Nat), (hk : k < l.length) → (∀ j (_ : j < k) (h : j < l.length), outE base (i + j) l[j] = 0) → outE base (i + k) l[k] ≠ 0 → outsE base i l = outE base (i + k) l[k]
  | [], _, k, hk, _, _ => absurd hk (by simp)
  | o :: l, i, 0, _, _, hn => by
    simp only [Nat.add_zero, List.getElem_cons_zero] at hn ⊢
    rw [outsE, if_neg hn]
  | o :: l, i, k + 1, hk, h, hn => by
    have h0 := h 0 (by omega) (by simp)
    simp only [Nat.add_zero, List.getElem_cons_zero] at h0
    rw [outsE, if_pos h0]
    have h1 := outsE_some base l (i + 1) k (by simpa using hk) (fun j hj hl => by
      have h1 := h (j + 1) (by omega) (by simpa using hl)
      rw [show i + (j + 1) = i + 1 + j by omega] at h1
      simpa using h1) (by rw [show i + 1 + k = i + (k + 1) by omega]; simpa using hn)
    rw [h1, show i + 1 + k = i + (k + 1) by omega]
    simp
theorem any_map_len (es : List Qe) : (es.map Qe.p).any (fun p => decide (4096 < p.length)) = es.any longB := by
  rw [List.any_map]
  rfl
set_option maxRecDepth 100000 in
set_option maxHeartbeats 8000000 in
set_option linter.unusedSimpArgs false in
theorem CheckSender_any (s : Sm) (v : Value) (base : Nat) (w : World) (hv : SnV w base s v) (hs : Small s) :
    Calls Try.prog 19 #[v] w fun e w' => e = .returned (.int .i64 (chkS s : Nat)) ∧ Below w.heap.size w w' := by
  obtain ⟨vo, vq, rfl, hO, hQ⟩ := hv
  obtain ⟨es, hE, heo⟩ := hO
  obtain ⟨qs, hQe, heq⟩ := hQ
  obtain ⟨Ao, co, rfl, hlo, hmo, -⟩ := hE.val
  obtain ⟨Aq, cq, rfl, hlq, hmq, -⟩ := hQe.val
  have hno : es.length = s.out.length := by rw [← heo, List.length_map]
  have hnq : qs.length = s.q.length := by rw [← heq, List.length_map]
  have ho1 := hs.out
  have hq1 := hs.q
  obtain ⟨no, hnoo⟩ : ∃ n, es.length = n := ⟨_, rfl⟩
  obtain ⟨nq, hnqq⟩ : ∃ n, qs.length = n := ⟨_, rfl⟩
  have HL := Lib.hid (And.intro hnoo (And.intro hnqq (And.intro hno hnq)))
  rw [hnoo] at hno hlo
  rw [hnqq] at hnq hlq
  have HE := Lib.hid (And.intro hE (And.intro hQe (And.intro heo heq)))
  rw [← hno] at ho1
  rw [← hnq] at hq1
  rw [hnoo, hnqq]
  clear hE hQe heo heq hs hnoo hnqq
  have hk := Blk.new w 25 (snC s (.slice Ao no co) (.slice Aq nq cq))
  have hb : Below w.heap.size w (w.alloc (.cells (snC s (.slice Ao no co) (.slice Aq nq cq)) 25)) := (Below.refl _ w).alloc (Nat.le_refl _) _
  unfold snC at hk hb ⊢
  have HN := Lib.hid (And.intro hno hnq)
  clear hno hnq
  have hM : ∀ x, chkS s = x → chkS s = x := fun _ h => h
  clear hM
  have HW := Lib.hid (And.intro hk hb)
  clear hk hb
  by_cases h0 : 0 ≤ s.ses ∧ s.ses ≤ 1073741824
  rotate_left 1
  · have H0 := Lib.hid h0
    have HM : Hid (chkS s = 2) := by show _ = _; unfold chkS; rw [if_pos (fun h => h0 (by first | exact h.1 | exact h.2.1 | exact h.2.2.1 | exact h.2.2.2.1 | exact h.2.2.2.2.1 | exact h.2.2.2.2.2))]
    clear h0
    go_enter Try.func19, Try.ntmps19
    go_wp2_with fail
    refine (in_any _ _ _ (decide_eq_false H0.out) _).mono ?_
    rintro e w1 ⟨rfl, rfl⟩
    go_wp2_with fail
    go_ret
    exact ⟨ret_int (by rw [HM.out]; rfl), HW.out.2⟩
  have H0 := Lib.hid h0
  by_cases h1 : 1 ≤ s.lim ∧ s.lim ≤ 64
  rotate_left 1
  · have H1 := Lib.hid h1
    have HM : Hid (chkS s = 2) := by show _ = _; unfold chkS; rw [if_pos (fun h => h1 (by first | exact h.1 | exact h.2.1 | exact h.2.2.1 | exact h.2.2.2.1 | exact h.2.2.2.2.1 | exact h.2.2.2.2.2))]
    clear h1
    go_enter Try.func19, Try.ntmps19
    go_wp2_with fail
    refine (in_any _ _ _ (decide_eq_true H0.out) _).mono ?_
    rintro e w1 ⟨rfl, rfl⟩
    go_wp2_with fail
    refine (in_any _ _ _ (decide_eq_false H1.out) _).mono ?_
    rintro e w1 ⟨rfl, rfl⟩
    go_wp2_with fail
    go_ret
    exact ⟨ret_int (by rw [HM.out]; rfl), HW.out.2⟩
  have H1 := Lib.hid h1
  by_cases h2 : 1 ≤ s.tmo ∧ s.tmo ≤ 1073741824
  rotate_left 1
  · have H2 := Lib.hid h2
    have HM : Hid (chkS s = 2) := by show _ = _; unfold chkS; rw [if_pos (fun h => h2 (by first | exact h.1 | exact h.2.1 | exact h.2.2.1 | exact h.2.2.2.1 | exact h.2.2.2.2.1 | exact h.2.2.2.2.2))]
    clear h2
    go_enter Try.func19, Try.ntmps19
    go_wp2_with fail
    refine (in_any _ _ _ (decide_eq_true H0.out) _).mono ?_
    rintro e w1 ⟨rfl, rfl⟩
    go_wp2_with fail
    refine (in_any _ _ _ (decide_eq_true H1.out) _).mono ?_
    rintro e w1 ⟨rfl, rfl⟩
    go_wp2_with fail
    refine (in_any _ _ _ (decide_eq_false H2.out) _).mono ?_
    rintro e w1 ⟨rfl, rfl⟩
    go_wp2_with fail
    go_ret
    exact ⟨ret_int (by rw [HM.out]; rfl), HW.out.2⟩
  have H2 := Lib.hid h2
  by_cases h3 : 0 ≤ s.base ∧ s.base ≤ 1073741824
  rotate_left 1
  · have H3 := Lib.hid h3
    have HM : Hid (chkS s = 2) := by show _ = _; unfold chkS; rw [if_pos (fun h => h3 (by first | exact h.1 | exact h.2.1 | exact h.2.2.1 | exact h.2.2.2.1 | exact h.2.2.2.2.1 | exact h.2.2.2.2.2))]
    clear h3
    go_enter Try.func19, Try.ntmps19
    go_wp2_with fail
    refine (in_any _ _ _ (decide_eq_true H0.out) _).mono ?_
    rintro e w1 ⟨rfl, rfl⟩
    go_wp2_with fail
    refine (in_any _ _ _ (decide_eq_true H1.out) _).mono ?_
    rintro e w1 ⟨rfl, rfl⟩
    go_wp2_with fail
    refine (in_any _ _ _ (decide_eq_true H2.out) _).mono ?_
    rintro e w1 ⟨rfl, rfl⟩
    go_wp2_with fail
    refine (in_any _ _ _ (decide_eq_false H3.out) _).mono ?_
    rintro e w1 ⟨rfl, rfl⟩
    go_wp2_with fail
    go_ret
    exact ⟨ret_int (by rw [HM.out]; rfl), HW.out.2⟩
  have H3 := Lib.hid h3
  by_cases h4 : 0 ≤ s.next ∧ s.next ≤ 1073741824
  rotate_left 1
  · have H4 := Lib.hid h4
    have HM : Hid (chkS s = 2) := by show _ = _; unfold chkS; rw [if_pos (fun h => h4 (by first | exact h.1 | exact h.2.1 | exact h.2.2.1 | exact h.2.2.2.1 | exact h.2.2.2.2.1 | exact h.2.2.2.2.2))]
    clear h4
    go_enter Try.func19, Try.ntmps19
    go_wp2_with fail
    refine (in_any _ _ _ (decide_eq_true H0.out) _).mono ?_
    rintro e w1 ⟨rfl, rfl⟩
    go_wp2_with fail
    refine (in_any _ _ _ (decide_eq_true H1.out) _).mono ?_
    rintro e w1 ⟨rfl, rfl⟩
    go_wp2_with fail
    refine (in_any _ _ _ (decide_eq_true H2.out) _).mono ?_
    rintro e w1 ⟨rfl, rfl⟩
    go_wp2_with fail
    refine (in_any _ _ _ (decide_eq_true H3.out) _).mono ?_
    rintro e w1 ⟨rfl, rfl⟩
    go_wp2_with fail
    refine (in_any _ _ _ (decide_eq_false H4.out) _).mono ?_
    rintro e w1 ⟨rfl, rfl⟩
    go_wp2_with fail
    go_ret
    exact ⟨ret_int (by rw [HM.out]; rfl), HW.out.2⟩
  have H4 := Lib.hid h4
  by_cases h5 : 0 ≤ s.cred ∧ s.cred ≤ 64
  rotate_left 1
  · have H5 := Lib.hid h5
    have HM : Hid (chkS s = 2) := by show _ = _; unfold chkS; rw [if_pos (fun h => h5 (by first | exact h.1 | exact h.2.1 | exact h.2.2.1 | exact h.2.2.2.1 | exact h.2.2.2.2.1 | exact h.2.2.2.2.2))]
    clear h5
    go_enter Try.func19, Try.ntmps19
    go_wp2_with fail
    refine (in_any _ _ _ (decide_eq_true H0.out) _).mono ?_
    rintro e w1 ⟨rfl, rfl⟩
    go_wp2_with fail
    refine (in_any _ _ _ (decide_eq_true H1.out) _).mono ?_
    rintro e w1 ⟨rfl, rfl⟩
    go_wp2_with fail
    refine (in_any _ _ _ (decide_eq_true H2.out) _).mono ?_
    rintro e w1 ⟨rfl, rfl⟩
    go_wp2_with fail
    refine (in_any _ _ _ (decide_eq_true H3.out) _).mono ?_
    rintro e w1 ⟨rfl, rfl⟩
    go_wp2_with fail
    refine (in_any _ _ _ (decide_eq_true H4.out) _).mono ?_
    rintro e w1 ⟨rfl, rfl⟩
    go_wp2_with fail
    refine (in_any _ _ _ (decide_eq_false H5.out) _).mono ?_
    rintro e w1 ⟨rfl, rfl⟩
    go_wp2_with fail
    go_ret
    exact ⟨ret_int (by rw [HM.out]; rfl), HW.out.2⟩
  have H5 := Lib.hid h5
  have HA : Hid (¬¬((0 ≤ s.ses ∧ s.ses ≤ 1073741824) ∧ (1 ≤ s.lim ∧ s.lim ≤ 64) ∧ (1 ≤ s.tmo ∧ s.tmo ≤ 1073741824) ∧ (0 ≤ s.base ∧ s.base ≤ 1073741824) ∧ (0 ≤ s.next ∧ s.next ≤ 1073741824) ∧ (0 ≤ s.cred ∧ s.cred ≤ 64))) := not_not_intro ⟨h0, h1, h2, h3, h4, h5⟩
  clear h0 h2 h4 h5
  by_cases m1 : s.lim < (no : Int)
  · have HM : Hid (chkS s = 6) := by show _ = _; unfold chkS; rw [if_neg HA.out, if_pos (.inl (by rw [HN.out.1] at m1; exact m1))]
    go_enter Try.func19, Try.ntmps19
    go_wp2_with fail
    refine (in_any _ _ _ (decide_eq_true H0.out) _).mono ?_
    rintro e w1 ⟨rfl, rfl⟩
    go_wp2_with fail
    refine (in_any _ _ _ (decide_eq_true H1.out) _).mono ?_
    rintro e w1 ⟨rfl, rfl⟩
    go_wp2_with fail
    refine (in_any _ _ _ (decide_eq_true H2.out) _).mono ?_
    rintro e w1 ⟨rfl, rfl⟩
    go_wp2_with fail
    refine (in_any _ _ _ (decide_eq_true H3.out) _).mono ?_
    rintro e w1 ⟨rfl, rfl⟩
    go_wp2_with fail
    refine (in_any _ _ _ (decide_eq_true H4.out) _).mono ?_
    rintro e w1 ⟨rfl, rfl⟩
    go_wp2_with fail
    refine (in_any _ _ _ (decide_eq_true H5.out) _).mono ?_
    rintro e w1 ⟨rfl, rfl⟩
    go_wp2_with fail
    go_ret
    exact ⟨ret_int (by rw [HM.out]; rfl), HW.out.2⟩
  by_cases m2 : (4096 : Int) < nq
  · have HM : Hid (chkS s = 6) := by show _ = _; unfold chkS; rw [if_neg HA.out, if_pos (.inr (by have h9 := HN.out.2; omega))]
    go_enter Try.func19, Try.ntmps19
    go_wp2_with fail
    refine (in_any _ _ _ (decide_eq_true H0.out) _).mono ?_
    rintro e w1 ⟨rfl, rfl⟩
    go_wp2_with fail
    refine (in_any _ _ _ (decide_eq_true H1.out) _).mono ?_
    rintro e w1 ⟨rfl, rfl⟩
    go_wp2_with fail
    refine (in_any _ _ _ (decide_eq_true H2.out) _).mono ?_
    rintro e w1 ⟨rfl, rfl⟩
    go_wp2_with fail
    refine (in_any _ _ _ (decide_eq_true H3.out) _).mono ?_
    rintro e w1 ⟨rfl, rfl⟩
    go_wp2_with fail
    refine (in_any _ _ _ (decide_eq_true H4.out) _).mono ?_
    rintro e w1 ⟨rfl, rfl⟩
    go_wp2_with fail
    refine (in_any _ _ _ (decide_eq_true H5.out) _).mono ?_
    rintro e w1 ⟨rfl, rfl⟩
    go_wp2_with fail
    go_ret
    exact ⟨ret_int (by rw [HM.out]; rfl), HW.out.2⟩
  have HA2 : Hid (¬ (s.lim < s.out.length ∨ 4096 < s.q.length)) := by
    intro h9
    have h8 := HN.out
    rcases h9 with h9 | h9
    · rw [← h8.1] at h9; exact m1 h9
    · omega
  go_enter Try.func19, Try.ntmps19
  go_wp2_with fail
  refine (in_any _ _ _ (decide_eq_true H0.out) _).mono ?_
  rintro e w1 ⟨rfl, rfl⟩
  go_wp2_with fail
  refine (in_any _ _ _ (decide_eq_true H1.out) _).mono ?_
  rintro e w1 ⟨rfl, rfl⟩
  go_wp2_with fail
  refine (in_any _ _ _ (decide_eq_true H2.out) _).mono ?_
  rintro e w1 ⟨rfl, rfl⟩
  go_wp2_with fail
  refine (in_any _ _ _ (decide_eq_true H3.out) _).mono ?_
  rintro e w1 ⟨rfl, rfl⟩
  go_wp2_with fail
  refine (in_any _ _ _ (decide_eq_true H4.out) _).mono ?_
  rintro e w1 ⟨rfl, rfl⟩
  go_wp2_with fail
  refine (in_any _ _ _ (decide_eq_true H5.out) _).mono ?_
  rintro e w1 ⟨rfl, rfl⟩
  go_wp2_with fail
  generalize (w.alloc (.cells #[.int .i64 s.ses, .int .i64 s.lim, .int .i64 s.tmo, .int .i64 s.base, .int .i64 s.next, .int .i64 s.cred, .slice Ao no co, .slice Aq nq cq] 25)) = W at *
  have b0 : W.cell? ⟨w.heap.size, 0, none⟩ = some (.int .i64 s.ses) := HW.out.1.cell 0
  have b1 : W.cell? ⟨w.heap.size, 1, none⟩ = some (.int .i64 s.lim) := HW.out.1.cell 1
  have b2 : W.cell? ⟨w.heap.size, 2, none⟩ = some (.int .i64 s.tmo) := HW.out.1.cell 2
  have b3 : W.cell? ⟨w.heap.size, 3, none⟩ = some (.int .i64 s.base) := HW.out.1.cell 3
  have b4 : W.cell? ⟨w.heap.size, 4, none⟩ = some (.int .i64 s.next) := HW.out.1.cell 4
  have b5 : W.cell? ⟨w.heap.size, 5, none⟩ = some (.int .i64 s.cred) := HW.out.1.cell 5
  have b6 : W.cell? ⟨w.heap.size, 6, none⟩ = some (.slice Ao no co) := HW.out.1.cell 6
  have b7 : W.cell? ⟨w.heap.size, 7, none⟩ = some (.slice Aq nq cq) := HW.out.1.cell 7
  have lW := HW.out.1.lt
  go_loopw [44] (fun u44 wr => ∃ k : Nat, k ≤ no ∧ u44 = .int .i64 (k : Nat) ∧ (∀ j (h : j < es.length), j < k → outE s.base (0 + j) es[j].om = 0) ∧ Below W.heap.size W wr) (fun u44 _ => no - (intOf u44).toNat)
  case atStart => exact ⟨0, by omega, rfl, fun j _ hj => by omega, Below.refl _ _⟩
  case round =>
    obtain ⟨k, hk, rfl, hz, hbr⟩ := hrel
    have HZ := Lib.hid hz
    have HBR := Lib.hid hbr
    have c0 := (hbr.cell (p := ⟨w.heap.size, 0, none⟩) lW).trans b0
    have c1 := (hbr.cell (p := ⟨w.heap.size, 1, none⟩) lW).trans b1
    have c2 := (hbr.cell (p := ⟨w.heap.size, 2, none⟩) lW).trans b2
    have c3 := (hbr.cell (p := ⟨w.heap.size, 3, none⟩) lW).trans b3
    have c4 := (hbr.cell (p := ⟨w.heap.size, 4, none⟩) lW).trans b4
    have c5 := (hbr.cell (p := ⟨w.heap.size, 5, none⟩) lW).trans b5
    have c6 := (hbr.cell (p := ⟨w.heap.size, 6, none⟩) lW).trans b6
    have c7 := (hbr.cell (p := ⟨w.heap.size, 7, none⟩) lW).trans b7
    clear hz hbr b0 b1 b2 b3 b4 b5 b6 b7
    by_cases hlt : k < no
    · have ik : (k : Int) < no := by omega
      have hkl : k < es.length := by rw [HL.out.1]; exact hlt
      have hbW := HW.out.2.trans (HBR.out.mono HW.out.2.size)
      have hcall := outstanding_any s (.slice Ao es.length co) (.slice Aq nq cq) base es k wr (HE.out.1.up hbW (oeR_ab (by simp))) hkl (by rw [HL.out.1]; omega) h3
      rw [HL.out.1] at hcall
      unfold snC at hcall
      have HC := Lib.hid hcall
      clear hcall hbW
      go_wp2_with fail
      refine HC.out.mono ?_
      clear HC
      rintro z w2 ⟨rfl, hb2⟩
      obtain ⟨ev, hev⟩ : ∃ n, outE s.base k es[k].om = n := ⟨_, rfl⟩
      have HV := Lib.hid hev
      rw [hev]
      have HB2 := Lib.hid (HBR.out.trans (hb2.mono HBR.out.size))
      clear hev hb2
      by_cases he : ev = 0
      · have k0 : ((ev : Int) != 0) = false := by simp [he]
        have HE0 := Lib.hid he
        clear he
        go_wp2_with fail
        go_roundw
        case rel =>
          refine ⟨k + 1, by omega, by go_num, fun j hj hjk => ?_, HB2.out⟩
          by_cases h9 : j < k
          · exact HZ.out j hj h9
          · obtain rfl : j = k := by omega
            rw [Nat.zero_add, HV.out]
            exact HE0.out
        case measure => simp [intOf]; omega
      · have k0 : ((ev : Int) != 0) = true := by simpa using he
        have HM : Hid (chkS s = ev) := by
          show _ = _
          have hl9 : k < s.out.length := by rw [← HN.out.1]; exact hlt
          have hg : ∀ j (h1 : j < es.length) (h2 : j < s.out.length), s.out[j] = es[j].om := fun j h1 h2 => by simp [← HE.out.2.2.1]
          have h1 := outsE_some s.base s.out 0 k hl9 (fun j hj hl => by rw [hg j (by omega) hl]; exact HZ.out j (by omega) hj) (by rw [hg k hkl hl9, Nat.zero_add, HV.out]; exact he)
          rw [hg k hkl hl9, Nat.zero_add, HV.out] at h1
          unfold chkS
          rw [if_neg HA.out, if_neg HA2.out, h1, if_pos he]
        clear he
        go_wp2_with fail
        go_ret
        exact ⟨ret_int (by rw [HM.out]), HW.out.2.trans (HB2.out.mono HW.out.2.size)⟩
    · obtain rfl : k = no := by omega
      have HZ0 : Hid (¬ outsE s.base 0 s.out ≠ 0) := by
        intro h9
        refine h9 (outsE_zero s.base s.out 0 fun j hj => ?_)
        have hg : ∀ (h1 : j < es.length), s.out[j] = es[j].om := fun h1 => by simp [← HE.out.2.2.1]
        have hj2 : j < es.length := by rw [HL.out.2.2.1]; exact hj
        rw [hg hj2]
        exact HZ.out j hj2 (by rw [← HL.out.1]; exact hj2)
      by_cases n1 : s.next = s.base + k
      rotate_left 1
      · have k1 : (s.next != s.base + (k : Int)) = true := by simpa using n1
        have HM : Hid (chkS s = 3) := by show _ = _; unfold chkS; rw [if_neg HA.out, if_neg HA2.out, if_neg HZ0.out, if_pos (by rw [← HN.out.1]; exact n1)]
        clear n1
        go_wp2_with fail
        go_ret
        exact ⟨ret_int (by rw [HM.out]; rfl), HW.out.2.trans (HBR.out.mono HW.out.2.size)⟩
      have k1 : (s.next != s.base + (k : Int)) = false := by simp [n1]
      have HN1 : Hid (¬ s.next ≠ s.base + s.out.length) := by show ¬ _; rw [← HN.out.1]; exact not_not_intro n1
      clear n1
      have hcall := anyLong_any (.slice Aq qs.length cq) base qs wr (HE.out.2.1.up (HW.out.2.trans (HBR.out.mono HW.out.2.size)) (qeR_ab (by simp))) (by rw [HL.out.2.1]; omega)
      rw [HL.out.2.1] at hcall
      have HC := Lib.hid hcall
      clear hcall
      go_wp2_with fail
      refine HC.out.mono ?_
      clear HC
      rintro z w2 ⟨rfl, hb2⟩
      have HB2 := Lib.hid (HW.out.2.trans ((HBR.out.trans (hb2.mono HBR.out.size)).mono HW.out.2.size))
      clear hb2
      cases hq : qs.any longB with
      | true =>
        have HM : Hid (chkS s = 5) := by show _ = _; unfold chkS; rw [if_neg HA.out, if_neg HA2.out, if_neg HZ0.out, if_neg HN1.out, ← HE.out.2.2.2, any_map_len, hq, if_pos rfl]
        clear hq
        go_wp2_with fail
        go_ret
        exact ⟨ret_int (by rw [HM.out]; rfl), HB2.out⟩
      | false =>
        have HM : Hid (chkS s = 0) := by show _ = _; unfold chkS; rw [if_neg HA.out, if_neg HA2.out, if_neg HZ0.out, if_neg HN1.out, ← HE.out.2.2.2, any_map_len, hq, if_neg (by decide)]
        clear hq
        go_wp2_with fail
        go_ret
        exact ⟨ret_int (by rw [HM.out]; rfl), HB2.out⟩
end Go.Proofs.Ytanmndhdhlmjgaa
