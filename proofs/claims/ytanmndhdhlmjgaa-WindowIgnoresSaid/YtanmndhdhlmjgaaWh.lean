/- The walks of the reference of CheckSender, and of Unacknowledged and its reference. Conditions: small. -/
import Derived.Test.YtanmndhdhlmjgaaWe
namespace Go.Proofs.Ytanmndhdhlmjgaa
open Go.RowKit
theorem any_take {es : List Qe} {k : Nat} (hk : k < es.length) (hq : longB es[k] = true) : es.any longB = true := List.any_eq_true.2 ⟨es[k], List.getElem_mem hk, hq⟩
theorem any_none {es : List Qe} (h : ∀ j (_ : j < es.length), longB es[j] = false) : es.any longB = false := by
  rw [List.any_eq_false]
  intro x hx
  obtain ⟨j, hj, rfl⟩ := List.getElem_of_mem hx
  simp [h j hj]
set_option maxRecDepth 100000 in
set_option maxHeartbeats 8000000 in
set_option linter.unusedSimpArgs false in
theorem refCheckSender_any (s : Sm) (v : Value) (base : Nat) (w : World) (hv : SnV w base s v) (hs : Small s) :
    Calls Try.prog 20 #[v] w fun e w' => e = .returned (.int .i64 (chkS s : Nat)) ∧ Below w.heap.size w w' := by
  obtain ⟨vo, vq, rfl, hO, hQ⟩ := hv
  obtain ⟨es, hE, heo⟩ := hO
  obtain ⟨qs, hQe, heq⟩ := hQ
  obtain ⟨Ao, co, rfl, hlo, hmo, -⟩ := hE.val
  obtain ⟨Aq, cq, rfl, hlq, hmq, -⟩ := hQe.val
  have hno : es.length = s.out.length := by rw [← heo, List.length_map]
  have hnq : qs.length = s.q.length := by rw [← heq, List.length_map]
  have ho1 := hs.out
  have hq1 := hs.q
  obtain ⟨no, hnoo⟩ : ∃ n, es.length = n := ⟨_, rfl⟩
  obtain ⟨nq, hnqq⟩ : ∃ n, qs.length = n := ⟨_, rfl⟩
  have HL := Lib.hid (And.intro hnoo (And.intro hnqq (And.intro hno hnq)))
  rw [hnoo] at hno hlo
  rw [hnqq] at hnq hlq
  have HE := Lib.hid (And.intro hE (And.intro hQe (And.intro heo heq)))
  rw [← hno] at ho1
  rw [← hnq] at hq1
  rw [hnoo, hnqq]
  clear hE hQe heo heq hnoo hnqq
  have hk := Blk.new w 25 (snC s (.slice Ao no co) (.slice Aq nq cq))
  have hb : Below w.heap.size w (w.alloc (.cells (snC s (.slice Ao no co) (.slice Aq nq cq)) 25)) := (Below.refl _ w).alloc (Nat.le_refl _) _
  unfold snC at hk hb ⊢
  have HN := Lib.hid (And.intro hno hnq)
  clear hno hnq
  have HW := Lib.hid (And.intro hk hb)
  clear hk hb
  clear hs
  by_cases h0 : 0 ≤ s.ses ∧ s.ses ≤ 1073741824
  rotate_left 1
  · have H0 := Lib.hid h0
    have HM : Hid (chkS s = 2) := by show _ = _; unfold chkS; rw [if_pos (fun h => h0 (by first | exact h.1 | exact h.2.1 | exact h.2.2.1 | exact h.2.2.2.1 | exact h.2.2.2.2.1 | exact h.2.2.2.2.2))]
    clear h0
    go_enter Try.func20, Try.ntmps20
    go_wp2_with fail
    refine (within_any _ _ _ (decide_eq_false H0.out) _).mono ?_
    rintro e w1 ⟨rfl, rfl⟩
    go_wp2_with fail
    go_ret
    exact ⟨ret_int (by rw [HM.out]; rfl), HW.out.2⟩
  have H0 := Lib.hid h0
  by_cases h1 : 1 ≤ s.lim ∧ s.lim ≤ 64
  rotate_left 1
  · have H1 := Lib.hid h1
    have HM : Hid (chkS s = 2) := by show _ = _; unfold chkS; rw [if_pos (fun h => h1 (by first | exact h.1 | exact h.2.1 | exact h.2.2.1 | exact h.2.2.2.1 | exact h.2.2.2.2.1 | exact h.2.2.2.2.2))]
    clear h1
    go_enter Try.func20, Try.ntmps20
    go_wp2_with fail
    refine (within_any _ _ _ (decide_eq_true H0.out) _).mono ?_
    rintro e w1 ⟨rfl, rfl⟩
    go_wp2_with fail
    refine (within_any _ _ _ (decide_eq_false H1.out) _).mono ?_
    rintro e w1 ⟨rfl, rfl⟩
    go_wp2_with fail
    go_ret
    exact ⟨ret_int (by rw [HM.out]; rfl), HW.out.2⟩
  have H1 := Lib.hid h1
  by_cases h2 : 1 ≤ s.tmo ∧ s.tmo ≤ 1073741824
  rotate_left 1
  · have H2 := Lib.hid h2
    have HM : Hid (chkS s = 2) := by show _ = _; unfold chkS; rw [if_pos (fun h => h2 (by first | exact h.1 | exact h.2.1 | exact h.2.2.1 | exact h.2.2.2.1 | exact h.2.2.2.2.1 | exact h.2.2.2.2.2))]
    clear h2
    go_enter Try.func20, Try.ntmps20
    go_wp2_with fail
    refine (within_any _ _ _ (decide_eq_true H0.out) _).mono ?_
    rintro e w1 ⟨rfl, rfl⟩
    go_wp2_with fail
    refine (within_any _ _ _ (decide_eq_true H1.out) _).mono ?_
    rintro e w1 ⟨rfl, rfl⟩
    go_wp2_with fail
    refine (within_any _ _ _ (decide_eq_false H2.out) _).mono ?_
    rintro e w1 ⟨rfl, rfl⟩
    go_wp2_with fail
    go_ret
    exact ⟨ret_int (by rw [HM.out]; rfl), HW.out.2⟩
  have H2 := Lib.hid h2
  by_cases h3 : 0 ≤ s.base ∧ s.base ≤ 1073741824
  rotate_left 1
  · have H3 := Lib.hid h3
    have HM : Hid (chkS s = 2) := by show _ = _; unfold chkS; rw [if_pos (fun h => h3 (by first | exact h.1 | exact h.2.1 | exact h.2.2.1 | exact h.2.2.2.1 | exact h.2.2.2.2.1 | exact h.2.2.2.2.2))]
    clear h3
    go_enter Try.func20, Try.ntmps20
    go_wp2_with fail
    refine (within_any _ _ _ (decide_eq_true H0.out) _).mono ?_
    rintro e w1 ⟨rfl, rfl⟩
    go_wp2_with fail
    refine (within_any _ _ _ (decide_eq_true H1.out) _).mono ?_
    rintro e w1 ⟨rfl, rfl⟩
    go_wp2_with fail
    refine (within_any _ _ _ (decide_eq_true H2.out) _).mono ?_
    rintro e w1 ⟨rfl, rfl⟩
    go_wp2_with fail
    refine (within_any _ _ _ (decide_eq_false H3.out) _).mono ?_
    rintro e w1 ⟨rfl, rfl⟩
    go_wp2_with fail
    go_ret
    exact ⟨ret_int (by rw [HM.out]; rfl), HW.out.2⟩
  have H3 := Lib.hid h3
  by_cases h4 : 0 ≤ s.next ∧ s.next ≤ 1073741824
  rotate_left 1
  · have H4 := Lib.hid h4
    have HM : Hid (chkS s = 2) := by show _ = _; unfold chkS; rw [if_pos (fun h => h4 (by first | exact h.1 | exact h.2.1 | exact h.2.2.1 | exact h.2.2.2.1 | exact h.2.2.2.2.1 | exact h.2.2.2.2.2))]
    clear h4
    go_enter Try.func20, Try.ntmps20
    go_wp2_with fail
    refine (within_any _ _ _ (decide_eq_true H0.out) _).mono ?_
    rintro e w1 ⟨rfl, rfl⟩
    go_wp2_with fail
    refine (within_any _ _ _ (decide_eq_true H1.out) _).mono ?_
    rintro e w1 ⟨rfl, rfl⟩
    go_wp2_with fail
    refine (within_any _ _ _ (decide_eq_true H2.out) _).mono ?_
    rintro e w1 ⟨rfl, rfl⟩
    go_wp2_with fail
    refine (within_any _ _ _ (decide_eq_true H3.out) _).mono ?_
    rintro e w1 ⟨rfl, rfl⟩
    go_wp2_with fail
    refine (within_any _ _ _ (decide_eq_false H4.out) _).mono ?_
    rintro e w1 ⟨rfl, rfl⟩
    go_wp2_with fail
    go_ret
    exact ⟨ret_int (by rw [HM.out]; rfl), HW.out.2⟩
  have H4 := Lib.hid h4
  by_cases h5 : 0 ≤ s.cred ∧ s.cred ≤ 64
  rotate_left 1
  · have H5 := Lib.hid h5
    have HM : Hid (chkS s = 2) := by show _ = _; unfold chkS; rw [if_pos (fun h => h5 (by first | exact h.1 | exact h.2.1 | exact h.2.2.1 | exact h.2.2.2.1 | exact h.2.2.2.2.1 | exact h.2.2.2.2.2))]
    clear h5
    go_enter Try.func20, Try.ntmps20
    go_wp2_with fail
    refine (within_any _ _ _ (decide_eq_true H0.out) _).mono ?_
    rintro e w1 ⟨rfl, rfl⟩
    go_wp2_with fail
    refine (within_any _ _ _ (decide_eq_true H1.out) _).mono ?_
    rintro e w1 ⟨rfl, rfl⟩
    go_wp2_with fail
    refine (within_any _ _ _ (decide_eq_true H2.out) _).mono ?_
    rintro e w1 ⟨rfl, rfl⟩
    go_wp2_with fail
    refine (within_any _ _ _ (decide_eq_true H3.out) _).mono ?_
    rintro e w1 ⟨rfl, rfl⟩
    go_wp2_with fail
    refine (within_any _ _ _ (decide_eq_true H4.out) _).mono ?_
    rintro e w1 ⟨rfl, rfl⟩
    go_wp2_with fail
    refine (within_any _ _ _ (decide_eq_false H5.out) _).mono ?_
    rintro e w1 ⟨rfl, rfl⟩
    go_wp2_with fail
    go_ret
    exact ⟨ret_int (by rw [HM.out]; rfl), HW.out.2⟩
  have H5 := Lib.hid h5
  have HA : Hid (¬¬((0 ≤ s.ses ∧ s.ses ≤ 1073741824) ∧ (1 ≤ s.lim ∧ s.lim ≤ 64) ∧ (1 ≤ s.tmo ∧ s.tmo ≤ 1073741824) ∧ (0 ≤ s.base ∧ s.base ≤ 1073741824) ∧ (0 ≤ s.next ∧ s.next ≤ 1073741824) ∧ (0 ≤ s.cred ∧ s.cred ≤ 64))) := not_not_intro ⟨h0, h1, h2, h3, h4, h5⟩
  clear h0 h2 h4 h5
  by_cases m1 : s.lim < (no : Int)
  · have HM : Hid (chkS s = 6) := by show _ = _; unfold chkS; rw [if_neg HA.out, if_pos (.inl (by rw [HN.out.1] at m1; exact m1))]
    go_enter Try.func20, Try.ntmps20
    go_wp2_with fail
    refine (within_any _ _ _ (decide_eq_true H0.out) _).mono ?_
    rintro e w1 ⟨rfl, rfl⟩
    go_wp2_with fail
    refine (within_any _ _ _ (decide_eq_true H1.out) _).mono ?_
    rintro e w1 ⟨rfl, rfl⟩
    go_wp2_with fail
    refine (within_any _ _ _ (decide_eq_true H2.out) _).mono ?_
    rintro e w1 ⟨rfl, rfl⟩
    go_wp2_with fail
    refine (within_any _ _ _ (decide_eq_true H3.out) _).mono ?_
    rintro e w1 ⟨rfl, rfl⟩
    go_wp2_with fail
    refine (within_any _ _ _ (decide_eq_true H4.out) _).mono ?_
    rintro e w1 ⟨rfl, rfl⟩
    go_wp2_with fail
    refine (within_any _ _ _ (decide_eq_true H5.out) _).mono ?_
    rintro e w1 ⟨rfl, rfl⟩
    go_wp2_with fail
    go_ret
    exact ⟨ret_int (by rw [HM.out]; rfl), HW.out.2⟩
  by_cases m2 : (4096 : Int) < nq
  · have HM : Hid (chkS s = 6) := by show _ = _; unfold chkS; rw [if_neg HA.out, if_pos (.inr (by have h9 := HN.out.2; omega))]
    go_enter Try.func20, Try.ntmps20
    go_wp2_with fail
    refine (within_any _ _ _ (decide_eq_true H0.out) _).mono ?_
    rintro e w1 ⟨rfl, rfl⟩
    go_wp2_with fail
    refine (within_any _ _ _ (decide_eq_true H1.out) _).mono ?_
    rintro e w1 ⟨rfl, rfl⟩
    go_wp2_with fail
    refine (within_any _ _ _ (decide_eq_true H2.out) _).mono ?_
    rintro e w1 ⟨rfl, rfl⟩
    go_wp2_with fail
    refine (within_any _ _ _ (decide_eq_true H3.out) _).mono ?_
    rintro e w1 ⟨rfl, rfl⟩
    go_wp2_with fail
    refine (within_any _ _ _ (decide_eq_true H4.out) _).mono ?_
    rintro e w1 ⟨rfl, rfl⟩
    go_wp2_with fail
    refine (within_any _ _ _ (decide_eq_true H5.out) _).mono ?_
    rintro e w1 ⟨rfl, rfl⟩
    go_wp2_with fail
    go_ret
    exact ⟨ret_int (by rw [HM.out]; rfl), HW.out.2⟩
  have HA2 : Hid (¬ (s.lim < s.out.length ∨ 4096 < s.q.length)) := by
    intro h9
    have h8 := HN.out
    rcases h9 with h9 | h9
    · rw [← h8.1] at h9; exact m1 h9
    · omega
  go_enter Try.func20, Try.ntmps20
  go_wp2_with fail
  refine (within_any _ _ _ (decide_eq_true H0.out) _).mono ?_
  rintro e w1 ⟨rfl, rfl⟩
  go_wp2_with fail
  refine (within_any _ _ _ (decide_eq_true H1.out) _).mono ?_
  rintro e w1 ⟨rfl, rfl⟩
  go_wp2_with fail
  refine (within_any _ _ _ (decide_eq_true H2.out) _).mono ?_
  rintro e w1 ⟨rfl, rfl⟩
  go_wp2_with fail
  refine (within_any _ _ _ (decide_eq_true H3.out) _).mono ?_
  rintro e w1 ⟨rfl, rfl⟩
  go_wp2_with fail
  refine (within_any _ _ _ (decide_eq_true H4.out) _).mono ?_
  rintro e w1 ⟨rfl, rfl⟩
  go_wp2_with fail
  refine (within_any _ _ _ (decide_eq_true H5.out) _).mono ?_
  rintro e w1 ⟨rfl, rfl⟩
  go_wp2_with fail
  generalize (w.alloc (.cells #[.int .i64 s.ses, .int .i64 s.lim, .int .i64 s.tmo, .int .i64 s.base, .int .i64 s.next, .int .i64 s.cred, .slice Ao no co, .slice Aq nq cq] 25)) = W at *
  have b0 : W.cell? ⟨w.heap.size, 0, none⟩ = some (.int .i64 s.ses) := HW.out.1.cell 0
  have b1 : W.cell? ⟨w.heap.size, 1, none⟩ = some (.int .i64 s.lim) := HW.out.1.cell 1
  have b2 : W.cell? ⟨w.heap.size, 2, none⟩ = some (.int .i64 s.tmo) := HW.out.1.cell 2
  have b3 : W.cell? ⟨w.heap.size, 3, none⟩ = some (.int .i64 s.base) := HW.out.1.cell 3
  have b4 : W.cell? ⟨w.heap.size, 4, none⟩ = some (.int .i64 s.next) := HW.out.1.cell 4
  have b5 : W.cell? ⟨w.heap.size, 5, none⟩ = some (.int .i64 s.cred) := HW.out.1.cell 5
  have b6 : W.cell? ⟨w.heap.size, 6, none⟩ = some (.slice Ao no co) := HW.out.1.cell 6
  have b7 : W.cell? ⟨w.heap.size, 7, none⟩ = some (.slice Aq nq cq) := HW.out.1.cell 7
  have lW := HW.out.1.lt
  go_loopw [3] (fun u3 wr => ∃ k : Nat, k ≤ no ∧ u3 = .int .i64 (k : Nat) ∧ (∀ j (h : j < es.length), j < k → outE s.base (0 + j) es[j].om = 0) ∧ Below W.heap.size W wr) (fun u3 _ => no - (intOf u3).toNat)
  case atStart => exact ⟨0, by omega, rfl, fun j _ hj => by omega, Below.refl _ _⟩
  case round =>
    obtain ⟨k, hk, rfl, hz, hbr⟩ := hrel
    have HZ := Lib.hid hz
    have HBR := Lib.hid hbr
    have c0 := (hbr.cell (p := ⟨w.heap.size, 0, none⟩) lW).trans b0
    have c1 := (hbr.cell (p := ⟨w.heap.size, 1, none⟩) lW).trans b1
    have c2 := (hbr.cell (p := ⟨w.heap.size, 2, none⟩) lW).trans b2
    have c3 := (hbr.cell (p := ⟨w.heap.size, 3, none⟩) lW).trans b3
    have c4 := (hbr.cell (p := ⟨w.heap.size, 4, none⟩) lW).trans b4
    have c5 := (hbr.cell (p := ⟨w.heap.size, 5, none⟩) lW).trans b5
    have c6 := (hbr.cell (p := ⟨w.heap.size, 6, none⟩) lW).trans b6
    have c7 := (hbr.cell (p := ⟨w.heap.size, 7, none⟩) lW).trans b7
    have lR : w.heap.size < wr.heap.size := Nat.lt_of_lt_of_le lW hbr.size
    clear hz hbr b0 b1 b2 b3 b4 b5 b6 b7
    by_cases hlt : k < no
    · have ik : (k : Int) < no := by omega
      have hkl : k < es.length := by rw [HL.out.1]; exact hlt
      have hbW := HW.out.2.trans (HBR.out.mono HW.out.2.size)
      obtain ⟨b, off, cc, hv2, _, _, hbw, hc⟩ := HE.out.1.at_ (fun _ => rfl) (by omega) (by omega)
      injection hv2 with hA hn2 hc2
      subst hA hc2
      clear hn2
      have d0 : wr.cell? ⟨b, off + k * 5, none⟩ = some (.int .i64 es[k].seq) := (hbW.cell (p := ⟨b, off + k * 5, none⟩) hbw).trans (hc k hkl 0 _ rfl)
      have d1 : wr.cell? ⟨b, off + k * 5 + 1, none⟩ = some (.int .i64 es[k].time) := (hbW.cell (p := ⟨b, off + k * 5 + 1, none⟩) hbw).trans (hc k hkl 1 _ rfl)
      have d2 : wr.cell? ⟨b, off + k * 5 + 2, none⟩ = some (.int .i64 es[k].cnt) := (hbW.cell (p := ⟨b, off + k * 5 + 2, none⟩) hbw).trans (hc k hkl 2 _ rfl)
      have d3 : wr.cell? ⟨b, off + k * 5 + 3, none⟩ = some (.bool es[k].ak) := (hbW.cell (p := ⟨b, off + k * 5 + 3, none⟩) hbw).trans (hc k hkl 3 _ rfl)
      have d4 : wr.cell? ⟨b, off + k * 5 + 4, none⟩ = some (.slice es[k].A es[k].p.length es[k].c) := (hbW.cell (p := ⟨b, off + k * 5 + 4, none⟩) hbw).trans (hc k hkl 4 _ rfl)
      have HMK : Hid (∀ ev, outE s.base k es[k].om = ev → ev ≠ 0 → chkS s = ev) := by
        intro ev hev he
        have hl9 : k < s.out.length := by rw [← HN.out.1]; exact hlt
        have hg : ∀ j (h1 : j < es.length) (h2 : j < s.out.length), s.out[j] = es[j].om := fun j h1 h2 => by simp [← HE.out.2.2.1]
        have h1 := outsE_some s.base s.out 0 k hl9 (fun j hj hl => by rw [hg j (by omega) hl]; exact HZ.out j (by omega) hj) (by rw [hg k hkl hl9, Nat.zero_add, hev]; exact he)
        rw [hg k hkl hl9, Nat.zero_add, hev] at h1
        unfold chkS
        rw [if_neg HA.out, if_neg HA2.out, h1, if_pos he]
      have HOM : Hid (es[k].om = ⟨es[k].seq, es[k].time, es[k].cnt, es[k].ak, es[k].p⟩) := rfl
      clear hc hbW
      obtain ⟨om, hom⟩ : ∃ o, es[k].om = o := ⟨_, rfl⟩
      rw [hom] at HOM HMK
      have HEQ := Lib.hid hom
      clear hom
      generalize es[k].seq = sq at *
      generalize es[k].time = tm at *
      generalize es[k].cnt = ct at *
      generalize es[k].ak = ak at *
      generalize es[k].A = pA at *
      generalize es[k].c = pc at *
      generalize es[k].p = p at *
      obtain ⟨pl, hpl⟩ : ∃ n, p.length = n := ⟨_, rfl⟩
      have HPL := Lib.hid hpl
      rw [hpl] at d4
      clear hpl
      have HBEL : Hid (Below w.heap.size w (wr.alloc (.cells #[.int .i64 sq, .int .i64 tm, .int .i64 ct, .bool ak, .slice pA pl pc] 82))) := (HW.out.2.trans (HBR.out.mono HW.out.2.size)).alloc (Nat.le_of_lt lR) _
      by_cases c1 : sq = s.base + k
      rotate_left 1
      · have HM : Hid (chkS s = 3) := HMK.out 3 (by rw [HOM.out]; unfold outE; rw [if_pos c1]) (by omega)
        have k1 : (sq != s.base + (k : Int)) = true := by simpa using c1
        clear c1
        go_wp2_with fail
        go_ret
        exact ⟨ret_int (by rw [HM.out]; rfl), (HW.out.2.trans (HBR.out.mono HW.out.2.size)).alloc (Nat.le_of_lt lR) _⟩
      have k1 : (sq != s.base + (k : Int)) = false := by simp [c1]
      have Hc1 := Lib.hid c1
      clear c1
      by_cases c2 : 1 ≤ ct ∧ ct ≤ 1073741824
      rotate_left 1
      · have Hc2 := Lib.hid c2
        have HM : Hid (chkS s = 3) := HMK.out 3 (by rw [HOM.out]; unfold outE; rw [if_neg (not_not_intro Hc1.out), if_pos c2]) (by omega)
        clear c2
        go_wp2_with fail
        refine (within_any _ _ _ (decide_eq_false Hc2.out) _).mono ?_
        rintro e w1 ⟨rfl, rfl⟩
        go_wp2_with fail
        go_ret
        exact ⟨ret_int (by rw [HM.out]; rfl), (HW.out.2.trans (HBR.out.mono HW.out.2.size)).alloc (Nat.le_of_lt lR) _⟩
      have Hc2 := Lib.hid c2
      clear c2
      by_cases c3 : k = 0 ∧ ak = true
      · have HM : Hid (chkS s = 3) := HMK.out 3 (by rw [HOM.out]; unfold outE; rw [if_neg (not_not_intro Hc1.out), if_neg (not_not_intro Hc2.out), if_pos c3]) (by omega)
        obtain ⟨q1, q2⟩ := c3
        have k3 : ((k : Int) == 0) = true := by simp [q1]
        clear q1
        go_wp2_with fail
        refine (within_any _ _ _ (decide_eq_true Hc2.out) _).mono ?_
        rintro e w1 ⟨rfl, rfl⟩
        go_wp2_with fail
        go_ret
        exact ⟨ret_int (by rw [HM.out]; rfl), (HW.out.2.trans (HBR.out.mono HW.out.2.size)).alloc (Nat.le_of_lt lR) _⟩
      have K3 : (((k : Int) == 0) = true ∧ ak = false) ∨ ((k : Int) == 0) = false := by
        by_cases h0 : k = 0
        · refine .inl ⟨by simp [h0], ?_⟩
          cases ak with
          | false => rfl
          | true => exact absurd ⟨h0, rfl⟩ c3
        · exact .inr (by simp; omega)
      have Hc3 := Lib.hid c3
      clear c3
      rcases K3 with ⟨k3, k4⟩ | k3
      all_goals
        by_cases c4 : 0 ≤ tm ∧ tm ≤ 1073741824
        rotate_left 1
        · have Hc4 := Lib.hid c4
          have HM : Hid (chkS s = 24) := HMK.out 24 (by rw [HOM.out]; unfold outE; rw [if_neg (not_not_intro Hc1.out), if_neg (not_not_intro Hc2.out), if_neg Hc3.out, if_pos c4]) (by omega)
          clear c4
          go_wp2_with fail
          refine (within_any _ _ _ (decide_eq_true Hc2.out) _).mono ?_
          rintro e w1 ⟨rfl, rfl⟩
          go_wp2_with fail
          refine (within_any _ _ _ (decide_eq_false Hc4.out) _).mono ?_
          rintro e w1 ⟨rfl, rfl⟩
          go_wp2_with fail
          go_ret
          exact ⟨ret_int (by rw [HM.out]; rfl), (HW.out.2.trans (HBR.out.mono HW.out.2.size)).alloc (Nat.le_of_lt lR) _⟩
        have Hc4 := Lib.hid c4
        clear c4
        by_cases c5 : 4096 < pl
        · have HM : Hid (chkS s = 5) := HMK.out 5 (by rw [HOM.out]; unfold outE; rw [if_neg (not_not_intro Hc1.out), if_neg (not_not_intro Hc2.out), if_neg Hc3.out, if_neg (not_not_intro Hc4.out), if_pos (by dsimp only; rw [HPL.out]; exact c5)]) (by omega)
          have c5i : (4096 : Int) < pl := by omega
          go_wp2_with fail
          refine (within_any _ _ _ (decide_eq_true Hc2.out) _).mono ?_
          rintro e w1 ⟨rfl, rfl⟩
          go_wp2_with fail
          refine (within_any _ _ _ (decide_eq_true Hc4.out) _).mono ?_
          rintro e w1 ⟨rfl, rfl⟩
          go_wp2_with fail
          go_ret
          exact ⟨ret_int (by rw [HM.out]; rfl), (HW.out.2.trans (HBR.out.mono HW.out.2.size)).alloc (Nat.le_of_lt lR) _⟩
        have HM : Hid (outE s.base k om = 0) := by show _ = _; rw [HOM.out]; unfold outE; rw [if_neg (not_not_intro Hc1.out), if_neg (not_not_intro Hc2.out), if_neg Hc3.out, if_neg (not_not_intro Hc4.out), if_neg (by dsimp only; rw [HPL.out]; exact c5)]
        have c5i : ¬ (4096 : Int) < pl := by omega
        go_wp2_with fail
        refine (within_any _ _ _ (decide_eq_true Hc2.out) _).mono ?_
        rintro e w1 ⟨rfl, rfl⟩
        go_wp2_with fail
        refine (within_any _ _ _ (decide_eq_true Hc4.out) _).mono ?_
        rintro e w1 ⟨rfl, rfl⟩
        go_wp2_with fail
        go_roundw
        case rel =>
          refine ⟨k + 1, by omega, by go_num, fun j hj hjk => ?_, HBR.out.alloc HBR.out.size _⟩
          by_cases h9 : j < k
          · exact HZ.out j hj h9
          · obtain rfl : j = k := by omega
            rw [Nat.zero_add]
            rw [HEQ.out]
            exact HM.out
        case measure => simp [intOf]; omega
    · obtain rfl : k = no := by omega
      have HZ0 : Hid (¬ outsE s.base 0 s.out ≠ 0) := by
        intro h9
        refine h9 (outsE_zero s.base s.out 0 fun j hj => ?_)
        have hg : ∀ (h1 : j < es.length), s.out[j] = es[j].om := fun h1 => by simp [← HE.out.2.2.1]
        have hj2 : j < es.length := by rw [HL.out.2.2.1]; exact hj
        rw [hg hj2]
        exact HZ.out j hj2 (by rw [← HL.out.1]; exact hj2)
      by_cases n1 : s.next = s.base + k
      rotate_left 1
      · have k1 : (s.next != s.base + (k : Int)) = true := by simpa using n1
        have HM : Hid (chkS s = 3) := by show _ = _; unfold chkS; rw [if_neg HA.out, if_neg HA2.out, if_neg HZ0.out, if_pos (by rw [← HN.out.1]; exact n1)]
        clear n1
        go_wp2_with fail
        go_ret
        exact ⟨ret_int (by rw [HM.out]; rfl), HW.out.2.trans (HBR.out.mono HW.out.2.size)⟩
      have k1 : (s.next != s.base + (k : Int)) = false := by simp [n1]
      have HN1 : Hid (¬ s.next ≠ s.base + s.out.length) := by show ¬ _; rw [← HN.out.1]; exact not_not_intro n1
      clear n1
      go_wp2_with fail
      clear k1
      go_loopw [5] (fun u5 wv => ∃ j : Nat, j ≤ nq ∧ u5 = .int .i64 (j : Nat) ∧ (∀ i (h : i < qs.length), i < j → longB qs[i] = false) ∧ wv = wr) (fun u5 _ => nq - (intOf u5).toNat)
      case atStart => exact ⟨0, by omega, rfl, fun j _ hj => by omega, rfl⟩
      case round =>
        obtain ⟨j, hj, rfl, hz2, rfl⟩ := hrel
        have HZ2 := Lib.hid hz2
        clear hz2
        by_cases hlt2 : j < nq
        · have ij : (j : Int) < nq := by omega
          have hjl : j < qs.length := by rw [HL.out.2.1]; exact hlt2
          obtain ⟨b, off, cc, hv2, _, _, hbw, hc⟩ := HE.out.2.1.at_ (fun _ => rfl) (by omega) (by omega)
          injection hv2 with hA hn2 hc2
          subst hA hc2
          clear hn2
          have d0 : wr.cell? ⟨b, off + j, none⟩ = some (.slice qs[j].A qs[j].p.length qs[j].c) := ((HW.out.2.trans (HBR.out.mono HW.out.2.size)).cell (p := ⟨b, off + j, none⟩) hbw).trans (by have h := hc j hjl 0 _ rfl; rw [Nat.mul_one] at h; exact h)
          clear hc
          by_cases c5 : 4096 < qs[j].p.length
          · have HM : Hid (chkS s = 5) := by show _ = _; unfold chkS; rw [if_neg HA.out, if_neg HA2.out, if_neg HZ0.out, if_neg HN1.out, ← HE.out.2.2.2, any_map_len, any_take hjl (by simp [longB]; omega), if_pos rfl]
            generalize qs[j].p.length = pl at *
            generalize qs[j].A = pA at *
            generalize qs[j].c = pc at *
            have c5i : (4096 : Int) < pl := by omega
            go_wp2_with fail
            go_ret
            exact ⟨ret_int (by rw [HM.out]; rfl), HW.out.2.trans (HBR.out.mono HW.out.2.size)⟩
          · have HM : Hid (longB qs[j] = false) := by show _ = _; simp [longB]; omega
            generalize qs[j].p.length = pl at *
            generalize qs[j].A = pA at *
            generalize qs[j].c = pc at *
            have c5i : ¬ (4096 : Int) < pl := by omega
            go_wp2_with fail
            go_roundw
            case rel =>
              refine ⟨j + 1, by omega, by go_num, fun i hi hij => ?_, trivial⟩
              by_cases h9 : i < j
              · exact HZ2.out i hi h9
              · obtain rfl : i = j := by omega
                exact HM.out
            case measure => simp [intOf]; omega
        · obtain rfl : j = nq := by omega
          have HM : Hid (chkS s = 0) := by show _ = _; unfold chkS; rw [if_neg HA.out, if_neg HA2.out, if_neg HZ0.out, if_neg HN1.out, ← HE.out.2.2.2, any_map_len, any_none (fun i hi => HZ2.out i hi (by rw [← HL.out.2.1]; exact hi)), if_neg (by decide)]
          go_wp2_with fail
          go_ret
          exact ⟨ret_int (by rw [HM.out]; rfl), HW.out.2.trans (HBR.out.mono HW.out.2.size)⟩
set_option maxRecDepth 100000 in
set_option maxHeartbeats 2000000 in
set_option linter.unusedSimpArgs false in
theorem Unack_any (s : Sm) (v : Value) (base : Nat) (w : World) (hv : SnV w base s v) (hs : Small s) :
    Calls Try.prog 21 #[v] w fun e w' => e = .returned (.int .i64 (unackS s)) ∧ Below w.heap.size w w' := by
  have HV := Lib.hid hv
  obtain ⟨vo, vq, rfl, hO, hQ⟩ := hv
  have hv := 0
  obtain ⟨es, hE, heo⟩ := hO
  obtain ⟨qs, hQe, heq⟩ := hQ
  obtain ⟨Ao, co, rfl, hlo, hmo, -⟩ := hE.val
  obtain ⟨Aq, cq, rfl, hlq, hmq, -⟩ := hQe.val
  have hno : es.length = s.out.length := by rw [← heo, List.length_map]
  have hnq : qs.length = s.q.length := by rw [← heq, List.length_map]
  have ho1 := hs.out
  have hq1 := hs.q
  obtain ⟨no, hnoo⟩ : ∃ n, es.length = n := ⟨_, rfl⟩
  obtain ⟨nq, hnqq⟩ : ∃ n, qs.length = n := ⟨_, rfl⟩
  have HL := Lib.hid (And.intro hnoo (And.intro hnqq (And.intro hno hnq)))
  rw [hnoo] at hno hlo
  rw [hnqq] at hnq hlq
  have HE := Lib.hid (And.intro hE (And.intro hQe (And.intro heo heq)))
  rw [← hno] at ho1
  rw [← hnq] at hq1
  rw [hnoo, hnqq]
  have HS := Lib.hid hs
  clear hE hQe heo heq hnoo hnqq hs hv
  have hk := Blk.new w 25 (snC s (.slice Ao no co) (.slice Aq nq cq))
  have hb : Below w.heap.size w (w.alloc (.cells (snC s (.slice Ao no co) (.slice Aq nq cq)) 25)) := (Below.refl _ w).alloc (Nat.le_refl _) _
  unfold snC at hk hb ⊢
  have HN := Lib.hid (And.intro hno hnq)
  clear hno hnq
  have HW := Lib.hid (And.intro hk hb)
  clear hk hb
  obtain ⟨ev, hev⟩ : ∃ n, chkS s = n := ⟨_, rfl⟩
  have hcall := CheckSender_any s _ base (w.alloc (.cells #[.int .i64 s.ses, .int .i64 s.lim, .int .i64 s.tmo, .int .i64 s.base, .int .i64 s.next, .int .i64 s.cred, .slice Ao no co, .slice Aq nq cq] 25)) (HV.out.up HW.out.2) HS.out
  rw [hev] at hcall
  unfold snC at hcall
  rw [HL.out.1, HL.out.2.1] at hcall
  have HC := Lib.hid hcall
  have HEV := Lib.hid hev
  clear hcall hev
  go_enter Try.func21, Try.ntmps21
  go_wp2_with fail
  refine HC.out.mono ?_
  rintro z w1 ⟨rfl, hb1⟩
  have HB1 := Lib.hid (HW.out.2.trans (hb1.mono HW.out.2.size))
  by_cases he : ev = 0
  rotate_left 1
  · have k0 : ((ev : Int) != 0) = true := by simpa using he
    have HM : Hid (unackS s = 0) := by show _ = _; unfold unackS; rw [if_pos (by rw [HEV.out]; exact he)]
    clear he
    go_wp2_with fail
    go_ret
    exact ⟨ret_int HM.out.symm, HB1.out⟩
  have k0 : ((ev : Int) != 0) = false := by simp [he]
  have HM : Hid (unackS s = s.q.length + (s.out.filter fun o => !o.ak).length) := by show _ = _; unfold unackS; rw [if_neg (by rw [HEV.out]; exact not_not_intro he)]
  clear he
  have b0 : w1.cell? ⟨w.heap.size, 0, none⟩ = some (.int .i64 s.ses) := (HW.out.1.below hb1 (by simp)).cell 0
  have b1 : w1.cell? ⟨w.heap.size, 1, none⟩ = some (.int .i64 s.lim) := (HW.out.1.below hb1 (by simp)).cell 1
  have b2 : w1.cell? ⟨w.heap.size, 2, none⟩ = some (.int .i64 s.tmo) := (HW.out.1.below hb1 (by simp)).cell 2
  have b3 : w1.cell? ⟨w.heap.size, 3, none⟩ = some (.int .i64 s.base) := (HW.out.1.below hb1 (by simp)).cell 3
  have b4 : w1.cell? ⟨w.heap.size, 4, none⟩ = some (.int .i64 s.next) := (HW.out.1.below hb1 (by simp)).cell 4
  have b5 : w1.cell? ⟨w.heap.size, 5, none⟩ = some (.int .i64 s.cred) := (HW.out.1.below hb1 (by simp)).cell 5
  have b6 : w1.cell? ⟨w.heap.size, 6, none⟩ = some (.slice Ao no co) := (HW.out.1.below hb1 (by simp)).cell 6
  have b7 : w1.cell? ⟨w.heap.size, 7, none⟩ = some (.slice Aq nq cq) := (HW.out.1.below hb1 (by simp)).cell 7
  have lW := (HW.out.1.below hb1 (by simp)).lt
  clear hb1
  go_wp2_with fail
  clear k0
  go_loopw [3, 15] (fun u3 u15 wr => ∃ k : Nat, k ≤ no ∧ u15 = .int .i64 (k : Nat) ∧ u3 = .int .i64 ((nq : Nat) + (((es.take k).filter fun o => !o.ak).length : Nat)) ∧ Below w1.heap.size w1 wr) (fun _ u15 _ => no - (intOf u15).toNat)
  case atStart => exact ⟨0, by omega, rfl, by simp, Below.refl _ _⟩
  case round =>
    obtain ⟨k, hk, rfl, rfl, hbr⟩ := hrel
    have HBR := Lib.hid hbr
    have c0 := (hbr.cell (p := ⟨w.heap.size, 0, none⟩) lW).trans b0
    have c1 := (hbr.cell (p := ⟨w.heap.size, 1, none⟩) lW).trans b1
    have c2 := (hbr.cell (p := ⟨w.heap.size, 2, none⟩) lW).trans b2
    have c3 := (hbr.cell (p := ⟨w.heap.size, 3, none⟩) lW).trans b3
    have c4 := (hbr.cell (p := ⟨w.heap.size, 4, none⟩) lW).trans b4
    have c5 := (hbr.cell (p := ⟨w.heap.size, 5, none⟩) lW).trans b5
    have c6 := (hbr.cell (p := ⟨w.heap.size, 6, none⟩) lW).trans b6
    have c7 := (hbr.cell (p := ⟨w.heap.size, 7, none⟩) lW).trans b7
    have lR : w.heap.size < wr.heap.size := Nat.lt_of_lt_of_le lW hbr.size
    clear hbr b0 b1 b2 b3 b4 b5 b6 b7
    have hfl : ((es.take k).filter fun o => !o.ak).length ≤ k := Nat.le_trans (List.length_filter_le _ _) (by simp; omega)
    by_cases hlt : k < no
    · have ik : (k : Int) < no := by omega
      have hkl : k < es.length := by rw [HL.out.1]; exact hlt
      have hbW := HB1.out.trans (HBR.out.mono HB1.out.size)
      obtain ⟨b, off, cc, hv2, _, _, hbw, hc⟩ := HE.out.1.at_ (fun _ => rfl) (by omega) (by omega)
      injection hv2 with hA hn2 hc2
      subst hA hc2
      clear hn2
      have d0 : wr.cell? ⟨b, off + k * 5, none⟩ = some (.int .i64 es[k].seq) := (hbW.cell (p := ⟨b, off + k * 5, none⟩) hbw).trans (hc k hkl 0 _ rfl)
      have d1 : wr.cell? ⟨b, off + k * 5 + 1, none⟩ = some (.int .i64 es[k].time) := (hbW.cell (p := ⟨b, off + k * 5 + 1, none⟩) hbw).trans (hc k hkl 1 _ rfl)
      have d2 : wr.cell? ⟨b, off + k * 5 + 2, none⟩ = some (.int .i64 es[k].cnt) := (hbW.cell (p := ⟨b, off + k * 5 + 2, none⟩) hbw).trans (hc k hkl 2 _ rfl)
      have d3 : wr.cell? ⟨b, off + k * 5 + 3, none⟩ = some (.bool es[k].ak) := (hbW.cell (p := ⟨b, off + k * 5 + 3, none⟩) hbw).trans (hc k hkl 3 _ rfl)
      have d4 : wr.cell? ⟨b, off + k * 5 + 4, none⟩ = some (.slice es[k].A es[k].p.length es[k].c) := (hbW.cell (p := ⟨b, off + k * 5 + 4, none⟩) hbw).trans (hc k hkl 4 _ rfl)
      have HT : Hid (((es.take (k + 1)).filter fun o => !o.ak).length = ((es.take k).filter fun o => !o.ak).length + if es[k].ak = true then 0 else 1) := by
        show _ = _
        rw [List.take_succ_eq_append_getElem hkl, List.filter_append, List.length_append]
        cases h : es[k].ak <;> simp [h]
      clear hc hbW
      generalize ((es.take k).filter fun o => !o.ak).length = N at *
      generalize es[k].seq = sq at *
      generalize es[k].time = tm at *
      generalize es[k].cnt = ct at *
      generalize es[k].A = pA at *
      generalize es[k].c = pc at *
      generalize es[k].p.length = pl at *
      cases hak : es[k].ak with
      | true =>
        rw [hak] at d3 HT
        clear hak
        go_wp2_with fail
        go_roundw
        case rel => exact ⟨k + 1, by omega, by go_num, by have h := HT.out; rw [if_pos rfl] at h; rw [h]; rfl, HBR.out.alloc HBR.out.size _⟩
        case measure => simp [intOf]; omega
      | false =>
        rw [hak] at d3 HT
        clear hak
        go_wp2_with fail
        go_roundw
        case rel => exact ⟨k + 1, by omega, by go_num, by have h := HT.out; rw [if_neg (by decide)] at h; rw [h]; go_num, HBR.out.alloc HBR.out.size _⟩
        case measure => simp [intOf]; omega
    · obtain rfl : k = no := by omega
      have HM2 : Hid (unackS s = (nq : Nat) + (((es.take k).filter fun o => !o.ak).length : Nat)) := by
        show _ = _
        rw [HM.out, ← HN.out.2, ← HE.out.2.2.1, List.filter_map, List.length_map, List.take_of_length_le (by rw [HL.out.1]; exact Nat.le_refl _)]
        rfl
      go_wp2_with fail
      go_ret
      exact ⟨ret_int HM2.out.symm, HB1.out.trans (HBR.out.mono HB1.out.size)⟩
set_option maxRecDepth 100000 in
set_option maxHeartbeats 2000000 in
set_option linter.unusedSimpArgs false in
theorem refUnack_any (s : Sm) (v : Value) (base : Nat) (w : World) (hv : SnV w base s v) (hs : Small s) :
    Calls Try.prog 22 #[v] w fun e w' => e = .returned (.int .i64 (unackS s)) ∧ Below w.heap.size w w' := by
  have HV := Lib.hid hv
  obtain ⟨vo, vq, rfl, hO, hQ⟩ := hv
  have hv := 0
  obtain ⟨es, hE, heo⟩ := hO
  obtain ⟨qs, hQe, heq⟩ := hQ
  obtain ⟨Ao, co, rfl, hlo, hmo, -⟩ := hE.val
  obtain ⟨Aq, cq, rfl, hlq, hmq, -⟩ := hQe.val
  have hno : es.length = s.out.length := by rw [← heo, List.length_map]
  have hnq : qs.length = s.q.length := by rw [← heq, List.length_map]
  have ho1 := hs.out
  have hq1 := hs.q
  obtain ⟨no, hnoo⟩ : ∃ n, es.length = n := ⟨_, rfl⟩
  obtain ⟨nq, hnqq⟩ : ∃ n, qs.length = n := ⟨_, rfl⟩
  have HL := Lib.hid (And.intro hnoo (And.intro hnqq (And.intro hno hnq)))
  rw [hnoo] at hno hlo
  rw [hnqq] at hnq hlq
  have HE := Lib.hid (And.intro hE (And.intro hQe (And.intro heo heq)))
  rw [← hno] at ho1
  rw [← hnq] at hq1
  rw [hnoo, hnqq]
  have HS := Lib.hid hs
  clear hE hQe heo heq hnoo hnqq hs hv
  have hk := Blk.new w 25 (snC s (.slice Ao no co) (.slice Aq nq cq))
  have hb : Below w.heap.size w (w.alloc (.cells (snC s (.slice Ao no co) (.slice Aq nq cq)) 25)) := (Below.refl _ w).alloc (Nat.le_refl _) _
  unfold snC at hk hb ⊢
  have HN := Lib.hid (And.intro hno hnq)
  clear hno hnq
  have HW := Lib.hid (And.intro hk hb)
  clear hk hb
  obtain ⟨ev, hev⟩ : ∃ n, chkS s = n := ⟨_, rfl⟩
  have hcall := refCheckSender_any s _ base (w.alloc (.cells #[.int .i64 s.ses, .int .i64 s.lim, .int .i64 s.tmo, .int .i64 s.base, .int .i64 s.next, .int .i64 s.cred, .slice Ao no co, .slice Aq nq cq] 25)) (HV.out.up HW.out.2) HS.out
  rw [hev] at hcall
  unfold snC at hcall
  rw [HL.out.1, HL.out.2.1] at hcall
  have HC := Lib.hid hcall
  have HEV := Lib.hid hev
  clear hcall hev
  go_enter Try.func22, Try.ntmps22
  go_wp2_with fail
  refine HC.out.mono ?_
  rintro z w1 ⟨rfl, hb1⟩
  have HB1 := Lib.hid (HW.out.2.trans (hb1.mono HW.out.2.size))
  by_cases he : ev = 0
  rotate_left 1
  · have k0 : ((ev : Int) != 0) = true := by simpa using he
    have HM : Hid (unackS s = 0) := by show _ = _; unfold unackS; rw [if_pos (by rw [HEV.out]; exact he)]
    clear he
    go_wp2_with fail
    go_ret
    exact ⟨ret_int HM.out.symm, HB1.out⟩
  have k0 : ((ev : Int) != 0) = false := by simp [he]
  have HM : Hid (unackS s = s.q.length + (s.out.filter fun o => !o.ak).length) := by show _ = _; unfold unackS; rw [if_neg (by rw [HEV.out]; exact not_not_intro he)]
  clear he
  have b0 : w1.cell? ⟨w.heap.size, 0, none⟩ = some (.int .i64 s.ses) := (HW.out.1.below hb1 (by simp)).cell 0
  have b1 : w1.cell? ⟨w.heap.size, 1, none⟩ = some (.int .i64 s.lim) := (HW.out.1.below hb1 (by simp)).cell 1
  have b2 : w1.cell? ⟨w.heap.size, 2, none⟩ = some (.int .i64 s.tmo) := (HW.out.1.below hb1 (by simp)).cell 2
  have b3 : w1.cell? ⟨w.heap.size, 3, none⟩ = some (.int .i64 s.base) := (HW.out.1.below hb1 (by simp)).cell 3
  have b4 : w1.cell? ⟨w.heap.size, 4, none⟩ = some (.int .i64 s.next) := (HW.out.1.below hb1 (by simp)).cell 4
  have b5 : w1.cell? ⟨w.heap.size, 5, none⟩ = some (.int .i64 s.cred) := (HW.out.1.below hb1 (by simp)).cell 5
  have b6 : w1.cell? ⟨w.heap.size, 6, none⟩ = some (.slice Ao no co) := (HW.out.1.below hb1 (by simp)).cell 6
  have b7 : w1.cell? ⟨w.heap.size, 7, none⟩ = some (.slice Aq nq cq) := (HW.out.1.below hb1 (by simp)).cell 7
  have lW := (HW.out.1.below hb1 (by simp)).lt
  clear hb1
  go_wp2_with fail
  clear k0
  go_loopw [3, 4] (fun u3 u4 wr => ∃ k : Nat, k ≤ no ∧ u4 = .int .i64 (k : Nat) ∧ u3 = .int .i64 ((nq : Nat) + (((es.take k).filter fun o => !o.ak).length : Nat)) ∧ Below w1.heap.size w1 wr) (fun _ u4 _ => no - (intOf u4).toNat)
  case atStart => exact ⟨0, by omega, rfl, by simp, Below.refl _ _⟩
  case round =>
    obtain ⟨k, hk, rfl, rfl, hbr⟩ := hrel
    have HBR := Lib.hid hbr
    have c0 := (hbr.cell (p := ⟨w.heap.size, 0, none⟩) lW).trans b0
    have c1 := (hbr.cell (p := ⟨w.heap.size, 1, none⟩) lW).trans b1
    have c2 := (hbr.cell (p := ⟨w.heap.size, 2, none⟩) lW).trans b2
    have c3 := (hbr.cell (p := ⟨w.heap.size, 3, none⟩) lW).trans b3
    have c4 := (hbr.cell (p := ⟨w.heap.size, 4, none⟩) lW).trans b4
    have c5 := (hbr.cell (p := ⟨w.heap.size, 5, none⟩) lW).trans b5
    have c6 := (hbr.cell (p := ⟨w.heap.size, 6, none⟩) lW).trans b6
    have c7 := (hbr.cell (p := ⟨w.heap.size, 7, none⟩) lW).trans b7
    have lR : w.heap.size < wr.heap.size := Nat.lt_of_lt_of_le lW hbr.size
    clear hbr b0 b1 b2 b3 b4 b5 b6 b7
    have hfl : ((es.take k).filter fun o => !o.ak).length ≤ k := Nat.le_trans (List.length_filter_le _ _) (by simp; omega)
    by_cases hlt : k < no
    · have ik : (k : Int) < no := by omega
      have hkl : k < es.length := by rw [HL.out.1]; exact hlt
      have hbW := HB1.out.trans (HBR.out.mono HB1.out.size)
      obtain ⟨b, off, cc, hv2, _, _, hbw, hc⟩ := HE.out.1.at_ (fun _ => rfl) (by omega) (by omega)
      injection hv2 with hA hn2 hc2
      subst hA hc2
      clear hn2
      have d0 : wr.cell? ⟨b, off + k * 5, none⟩ = some (.int .i64 es[k].seq) := (hbW.cell (p := ⟨b, off + k * 5, none⟩) hbw).trans (hc k hkl 0 _ rfl)
      have d1 : wr.cell? ⟨b, off + k * 5 + 1, none⟩ = some (.int .i64 es[k].time) := (hbW.cell (p := ⟨b, off + k * 5 + 1, none⟩) hbw).trans (hc k hkl 1 _ rfl)
      have d2 : wr.cell? ⟨b, off + k * 5 + 2, none⟩ = some (.int .i64 es[k].cnt) := (hbW.cell (p := ⟨b, off + k * 5 + 2, none⟩) hbw).trans (hc k hkl 2 _ rfl)
      have d3 : wr.cell? ⟨b, off + k * 5 + 3, none⟩ = some (.bool es[k].ak) := (hbW.cell (p := ⟨b, off + k * 5 + 3, none⟩) hbw).trans (hc k hkl 3 _ rfl)
      have d4 : wr.cell? ⟨b, off + k * 5 + 4, none⟩ = some (.slice es[k].A es[k].p.length es[k].c) := (hbW.cell (p := ⟨b, off + k * 5 + 4, none⟩) hbw).trans (hc k hkl 4 _ rfl)
      have HT : Hid (((es.take (k + 1)).filter fun o => !o.ak).length = ((es.take k).filter fun o => !o.ak).length + if es[k].ak = true then 0 else 1) := by
        show _ = _
        rw [List.take_succ_eq_append_getElem hkl, List.filter_append, List.length_append]
        cases h : es[k].ak <;> simp [h]
      clear hc hbW
      generalize ((es.take k).filter fun o => !o.ak).length = N at *
      generalize es[k].seq = sq at *
      generalize es[k].time = tm at *
      generalize es[k].cnt = ct at *
      generalize es[k].A = pA at *
      generalize es[k].c = pc at *
      generalize es[k].p.length = pl at *
      cases hak : es[k].ak with
      | true =>
        rw [hak] at d3 HT
        clear hak
        go_wp2_with fail
        go_roundw
        case rel => exact ⟨k + 1, by omega, by go_num, by have h := HT.out; rw [if_pos rfl] at h; rw [h]; rfl, HBR.out⟩
        case measure => simp [intOf]; omega
      | false =>
        rw [hak] at d3 HT
        clear hak
        go_wp2_with fail
        go_roundw
        case rel => exact ⟨k + 1, by omega, by go_num, by have h := HT.out; rw [if_neg (by decide)] at h; rw [h]; go_num, HBR.out⟩
        case measure => simp [intOf]; omega
    · obtain rfl : k = no := by omega
      have HM2 : Hid (unackS s = (nq : Nat) + (((es.take k).filter fun o => !o.ak).length : Nat)) := by
        show _ = _
        rw [HM.out, ← HN.out.2, ← HE.out.2.2.1, List.filter_map, List.length_map, List.take_of_length_le (by rw [HL.out.1]; exact Nat.le_refl _)]
        rfl
      go_wp2_with fail
      go_ret
      exact ⟨ret_int HM2.out.symm, HB1.out.trans (HBR.out.mono HB1.out.size)⟩
end Go.Proofs.Ytanmndhdhlmjgaa
