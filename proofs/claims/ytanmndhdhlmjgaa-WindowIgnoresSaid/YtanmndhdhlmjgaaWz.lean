/- The walks of FewPacket, FewReceiver. Conditions: no slice is longer than may be. -/
import Derived.Test.YtanmndhdhlmjgaaMathD
namespace Go.Proofs.Ytanmndhdhlmjgaa
open Go.RowKit
/-- what a few function answers -/
structure FewR (w : World) (l : Prop) (e : Ending) (w' : World) : Prop where
  ret : ∃ b, e = .returned (.bool b) ∧ (b = true → l)
  bel : Below w.heap.size w w'
set_option linter.unusedSimpArgs false in
set_option maxRecDepth 100000 in
set_option maxHeartbeats 2000000 in
theorem FewPacket_any (p : Pm) (v : Value) (base : Nat) (w : World) (h : PkV w base p v) :
    Calls Try.prog 28 #[v] w (FewR w (p.p.length ≤ 9000 ∧ p.sel.length ≤ 80)) := by
  obtain ⟨vs, vp, rfl, hX, Ap, cp, rfl, -⟩ := h
  obtain ⟨As, cs, rfl, -, -⟩ := hX.form
  obtain ⟨ns, hns⟩ : ∃ n, p.sel.length = n := ⟨_, rfl⟩
  obtain ⟨np, hnp⟩ : ∃ n, p.p.length = n := ⟨_, rfl⟩
  unfold pkC
  have HL := Lib.hid (And.intro hns hnp)
  rw [hns, hnp]
  clear hns hnp hX
  have hb : Below w.heap.size w (w.alloc (.cells #[.int .i64 p.kind, .int .i64 p.ses, .int .i64 p.seq, .int .i64 p.ack, .int .i64 p.cred, .slice As ns cs, .slice Ap np cp] 55)) := (Below.refl _ w).alloc (Nat.le_refl _) _
  have HB := Lib.hid hb
  clear hb
  by_cases h1 : np ≤ 9000
  rotate_left 1
  · have h1i : ¬ (np : Int) ≤ 9000 := by omega
    go_enter Try.func28, Try.ntmps28
    go_wp2_with fail
    go_ret
    exact ⟨⟨_, rfl, by simp⟩, HB.out⟩
  have h1i : (np : Int) ≤ 9000 := by omega
  by_cases h2 : ns ≤ 80
  rotate_left 1
  · have h2i : ¬ (ns : Int) ≤ 80 := by omega
    go_enter Try.func28, Try.ntmps28
    go_wp2_with fail
    go_ret
    exact ⟨⟨_, rfl, by simp⟩, HB.out⟩
  · have h2i : (ns : Int) ≤ 80 := by omega
    go_enter Try.func28, Try.ntmps28
    go_wp2_with fail
    go_ret
    exact ⟨⟨_, rfl, fun _ => ⟨h1, h2⟩⟩, HB.out⟩
set_option linter.unusedSimpArgs false in
set_option maxRecDepth 100000 in
set_option maxHeartbeats 2000000 in
theorem FewReceiver_any (r : Rm) (v : Value) (base : Nat) (w : World) (h : RcV w base r v) :
    Calls Try.prog 31 #[v] w (FewR w (r.early.length ≤ 80)) := by
  obtain ⟨ve, rfl, es, hV, he⟩ := h
  obtain ⟨m, hlen⟩ : ∃ m, r.early.length = m := ⟨_, rfl⟩
  have h1 : es.length = m := by rw [← hlen, ← he, List.length_map]
  have HX := Lib.hid (And.intro hV (And.intro h1 hlen))
  obtain ⟨A, c, rfl, hlc, hcm, -⟩ := hV.val
  rw [h1] at hlc ⊢
  clear hV h1 hlen he
  unfold rcC
  have HW : Hid (Blk (w.alloc (.cells #[.int .i64 r.ses, .int .i64 r.lim, .int .i64 r.next, .slice A m c] 33)) w.heap.size 33 #[.int .i64 r.ses, .int .i64 r.lim, .int .i64 r.next, .slice A m c] ∧ Below w.heap.size w (w.alloc (.cells #[.int .i64 r.ses, .int .i64 r.lim, .int .i64 r.next, .slice A m c] 33))) := ⟨Blk.new w 33 _, (Below.refl _ w).alloc (Nat.le_refl _) _⟩
  unfold maxLen at hcm
  go_enter Try.func31, Try.ntmps31
  go_wp2_with fail
  generalize (w.alloc (.cells #[.int .i64 r.ses, .int .i64 r.lim, .int .i64 r.next, .slice A m c] 33)) = W at *
  go_loopw [3, 4] (fun a i wr => ∃ (k : Nat) (S : Int), k ≤ m ∧ k ≤ 100 ∧ i = .int .i64 k ∧ a = .int .i64 S ∧ Below W.heap.size W wr) (fun _ i _ => 100 - (intOf i).toNat)
  case atStart => exact ⟨0, 0, by omega, by omega, rfl, rfl, Below.refl _ _⟩
  case round =>
    obtain ⟨k, S, hk, hk2, rfl, rfl, hbw⟩ := hrel
    have e1 := HW.out.1.below hbw HW.out.1.lt
    have HB := Lib.hid (And.intro hbw (HW.out.2.trans (hbw.mono HW.out.2.size)))
    have xr3 : wr.cell? ⟨w.heap.size, 3, none⟩ = some (.slice A m c) := e1.cell 3
    have l1 := e1.lt
    clear e1 hbw
    by_cases hlt : k < m
    · have i0 : (k : Int) < m := by omega
      by_cases hl2 : k < 100
      · have i1 : (k : Int) < 100 := by omega
        have hkl : k < es.length := by rw [HX.out.2.1]; exact hlt
        have hU := HX.out.1.up HB.out.2 (aeR_ab (by simp))
        obtain ⟨b1, o1, d1, hv1, _, _, lb1, hc1⟩ := hU.at_ (fun _ => rfl) (by omega) (by omega)
        injection hv1 with hA hn hc
        subst hA hc
        clear hn
        have xd1 : wr.cell? ⟨b1, o1 + k * 2 + 1, none⟩ = some (.slice es[k].A es[k].p.length es[k].c) := hc1 k hkl 1 _ rfl
        clear hc1 hU
        generalize es[k] = x at *
        clear hkl
        obtain ⟨xq, xA, xc, xp⟩ := x
        dsimp only at xd1
        generalize xp.length = pl at *
        go_wp2_with fail
        go_roundw
        case rel => exact ⟨k + 1, _, by omega, by omega, by go_num, rfl, HB.out.1⟩
        case measure => simp [intOf]; omega
      · have i1 : ¬ (k : Int) < 100 := by omega
        have i2 : ¬ (m : Int) ≤ 80 := by omega
        go_wp2_with fail
        go_ret
        exact ⟨⟨_, rfl, by simp⟩, HB.out.2⟩
    · obtain rfl : k = m := by omega
      by_cases h80 : k ≤ 80
      rotate_left 1
      · have i2 : ¬ (k : Int) ≤ 80 := by omega
        go_wp2_with fail
        go_ret
        exact ⟨⟨_, rfl, by simp⟩, HB.out.2⟩
      have i2 : (k : Int) ≤ 80 := by omega
      go_wp2_with fail
      go_ret
      exact ⟨⟨_, rfl, fun _ => by rw [HX.out.2.2]; exact h80⟩, HB.out.2⟩
end Go.Proofs.Ytanmndhdhlmjgaa

/- The walk of FewSender. No condition. -/
namespace Go.Proofs.Ytanmndhdhlmjgaa
open Go.RowKit
set_option linter.unusedSimpArgs false in
set_option maxRecDepth 100000 in
set_option maxHeartbeats 2000000 in
theorem FewSender_any (s : Sm) (v : Value) (base : Nat) (w : World) (h : SnV w base s v) :
    Calls Try.prog 18 #[v] w (FewR w (s.out.length ≤ 80 ∧ s.q.length ≤ 80)) := by
  obtain ⟨vo, vq, rfl, ⟨es, hV, he⟩, ⟨qs, hQ, hqe⟩⟩ := h
  obtain ⟨no, hlen⟩ : ∃ m, s.out.length = m := ⟨_, rfl⟩
  obtain ⟨nq, hlenq⟩ : ∃ m, s.q.length = m := ⟨_, rfl⟩
  have h1 : es.length = no := by rw [← hlen, ← he, List.length_map]
  have h2 : qs.length = nq := by rw [← hlenq, ← hqe, List.length_map]
  have HX := Lib.hid (And.intro hV (And.intro h1 (And.intro hQ (And.intro h2 (And.intro hlen hlenq)))))
  obtain ⟨Ao, co, rfl, hlc, hcm, -⟩ := hV.val
  obtain ⟨Aq, cq, rfl, hlcq, hcmq, -⟩ := hQ.val
  rw [h1] at hlc ⊢
  rw [h2] at hlcq ⊢
  clear hV h1 hlen he hQ h2 hlenq hqe
  unfold snC
  have HW : Hid (Blk (w.alloc (.cells #[.int .i64 s.ses, .int .i64 s.lim, .int .i64 s.tmo, .int .i64 s.base, .int .i64 s.next, .int .i64 s.cred, .slice Ao no co, .slice Aq nq cq] 25)) w.heap.size 25 #[.int .i64 s.ses, .int .i64 s.lim, .int .i64 s.tmo, .int .i64 s.base, .int .i64 s.next, .int .i64 s.cred, .slice Ao no co, .slice Aq nq cq] ∧ Below w.heap.size w (w.alloc (.cells #[.int .i64 s.ses, .int .i64 s.lim, .int .i64 s.tmo, .int .i64 s.base, .int .i64 s.next, .int .i64 s.cred, .slice Ao no co, .slice Aq nq cq] 25))) := ⟨Blk.new w 25 _, (Below.refl _ w).alloc (Nat.le_refl _) _⟩
  unfold maxLen at hcm hcmq
  go_enter Try.func18, Try.ntmps18
  go_wp2_with fail
  generalize (w.alloc (.cells #[.int .i64 s.ses, .int .i64 s.lim, .int .i64 s.tmo, .int .i64 s.base, .int .i64 s.next, .int .i64 s.cred, .slice Ao no co, .slice Aq nq cq] 25)) = W at *
  go_loopw [3, 4] (fun a i wr => ∃ (k : Nat) (S : Int), k ≤ no ∧ k ≤ 100 ∧ i = .int .i64 k ∧ a = .int .i64 S ∧ Below W.heap.size W wr) (fun _ i _ => 100 - (intOf i).toNat)
  case atStart => exact ⟨0, 0, by omega, by omega, rfl, rfl, Below.refl _ _⟩
  case round =>
    obtain ⟨k, S, hk, hk2, rfl, rfl, hbw⟩ := hrel
    have e1 := HW.out.1.below hbw HW.out.1.lt
    have HB := Lib.hid (And.intro hbw (HW.out.2.trans (hbw.mono HW.out.2.size)))
    have xr6 : wr.cell? ⟨w.heap.size, 6, none⟩ = some (.slice Ao no co) := e1.cell 6
    have xr7 : wr.cell? ⟨w.heap.size, 7, none⟩ = some (.slice Aq nq cq) := e1.cell 7
    have l1 := e1.lt
    clear e1 hbw
    by_cases hgo : k < no ∧ k < 100
    · have i0 : (k : Int) < no := by omega
      have i1 : (k : Int) < 100 := by omega
      have hkl : k < es.length := by rw [HX.out.2.1]; exact hgo.1
      have hU := HX.out.1.up HB.out.2 (oeR_ab (by simp))
      obtain ⟨b1, o1, d1, hv1, _, _, lb1, hc1⟩ := hU.at_ (fun _ => rfl) (by omega) (by omega)
      injection hv1 with hA hn hc
      subst hA hc
      clear hn
      have xd1 : wr.cell? ⟨b1, o1 + k * 5 + 4, none⟩ = some (.slice es[k].A es[k].p.length es[k].c) := hc1 k hkl 4 _ rfl
      clear hc1 hU
      generalize es[k].A = xA at *
      generalize es[k].c = xc at *
      generalize es[k].p.length = pl at *
      clear hkl
      go_wp2_with fail
      go_roundw
      case rel => exact ⟨k + 1, _, by omega, by omega, by go_num, rfl, HB.out.1⟩
      case measure => simp [intOf]; omega
    · have HD : Hid (k = no ∨ k = 100) := by show _ ∨ _; omega
      clear xr6 xr7 l1
      by_cases c0 : k < no
      · have i0 : (k : Int) < no := by omega
        have i1 : ¬ (k : Int) < 100 := by omega
        have e1 := HW.out.1.below HB.out.1 HW.out.1.lt
        have xr6 : wr.cell? ⟨w.heap.size, 6, none⟩ = some (.slice Ao no co) := e1.cell 6
        have xr7 : wr.cell? ⟨w.heap.size, 7, none⟩ = some (.slice Aq nq cq) := e1.cell 7
        have l1 := e1.lt
        clear e1
        go_wp2_with fail
        clear xr6 xr7 l1
        obtain ⟨wo, hwo⟩ : ∃ x, x = wr := ⟨_, rfl⟩
        subst hwo
        go_loopw [3, 5] (fun a i wp => ∃ (j : Nat) (T : Int), j ≤ nq ∧ j ≤ 100 ∧ i = .int .i64 j ∧ a = .int .i64 T ∧ Below wo.heap.size wo wp) (fun _ i _ => 100 - (intOf i).toNat)
        case atStart => exact ⟨0, _, by omega, by omega, rfl, rfl, Below.refl _ _⟩
        case round =>
          obtain ⟨j, T, hj, hj2, rfl, rfl, hbp⟩ := hrel
          have hbt := HB.out.1.trans (hbp.mono HB.out.1.size)
          have e1 := HW.out.1.below hbt HW.out.1.lt
          have HC := Lib.hid (And.intro hbp (HW.out.2.trans (hbt.mono HW.out.2.size)))
          have yr6 : wr.cell? ⟨w.heap.size, 6, none⟩ = some (.slice Ao no co) := e1.cell 6
          have yr7 : wr.cell? ⟨w.heap.size, 7, none⟩ = some (.slice Aq nq cq) := e1.cell 7
          have l1 := e1.lt
          clear e1 hbp hbt
          by_cases hgq : j < nq ∧ j < 100
          · have j0 : (j : Int) < nq := by omega
            have j1 : (j : Int) < 100 := by omega
            have hjl : j < qs.length := by rw [HX.out.2.2.2.1]; exact hgq.1
            have hU := HX.out.2.2.1.up HC.out.2 (qeR_ab (by simp))
            obtain ⟨b1, o1, d1, hv1, _, _, lb1, hc1⟩ := hU.at_ (fun _ => rfl) (by omega) (by omega)
            injection hv1 with hA hn hc
            subst hA hc
            clear hn
            have xd1 : wr.cell? ⟨b1, o1 + j, none⟩ = some (.slice qs[j].A qs[j].p.length qs[j].c) := by have h := hc1 j hjl 0 _ rfl; rw [Nat.mul_one] at h; exact h
            clear hc1 hU
            generalize qs[j].A = xA at *
            generalize qs[j].c = xc at *
            generalize qs[j].p.length = pl at *
            clear hjl
            go_wp2_with fail
            go_roundw
            case rel => exact ⟨j + 1, _, by omega, by omega, by go_num, rfl, HC.out.1⟩
            case measure => simp [intOf]; omega
          · by_cases c1 : j < nq
            · have j0 : (j : Int) < nq := by omega
              have j1 : ¬ (j : Int) < 100 := by omega
              have j2 : ¬ (nq : Int) ≤ 80 := by omega
              go_wp2_with fail
              all_goals (go_ret; exact ⟨⟨_, rfl, by simp⟩, HC.out.2⟩)
            · have j0 : ¬ (j : Int) < nq := by omega
              by_cases n1 : no ≤ 80
              rotate_left 1
              · have k1 : ¬ (no : Int) ≤ 80 := by omega
                go_wp2_with fail
                all_goals (go_ret; exact ⟨⟨_, rfl, by simp⟩, HC.out.2⟩)
              exfalso
              omega
      · have i0 : ¬ (k : Int) < no := by omega
        have e1 := HW.out.1.below HB.out.1 HW.out.1.lt
        have xr6 : wr.cell? ⟨w.heap.size, 6, none⟩ = some (.slice Ao no co) := e1.cell 6
        have xr7 : wr.cell? ⟨w.heap.size, 7, none⟩ = some (.slice Aq nq cq) := e1.cell 7
        have l1 := e1.lt
        clear e1
        go_wp2_with fail
        clear xr6 xr7 l1
        obtain ⟨wo, hwo⟩ : ∃ x, x = wr := ⟨_, rfl⟩
        subst hwo
        go_loopw [3, 5] (fun a i wp => ∃ (j : Nat) (T : Int), j ≤ nq ∧ j ≤ 100 ∧ i = .int .i64 j ∧ a = .int .i64 T ∧ Below wo.heap.size wo wp) (fun _ i _ => 100 - (intOf i).toNat)
        case atStart => exact ⟨0, _, by omega, by omega, rfl, rfl, Below.refl _ _⟩
        case round =>
          obtain ⟨j, T, hj, hj2, rfl, rfl, hbp⟩ := hrel
          have hbt := HB.out.1.trans (hbp.mono HB.out.1.size)
          have e1 := HW.out.1.below hbt HW.out.1.lt
          have HC := Lib.hid (And.intro hbp (HW.out.2.trans (hbt.mono HW.out.2.size)))
          have yr6 : wr.cell? ⟨w.heap.size, 6, none⟩ = some (.slice Ao no co) := e1.cell 6
          have yr7 : wr.cell? ⟨w.heap.size, 7, none⟩ = some (.slice Aq nq cq) := e1.cell 7
          have l1 := e1.lt
          clear e1 hbp hbt
          by_cases hgq : j < nq ∧ j < 100
          · have j0 : (j : Int) < nq := by omega
            have j1 : (j : Int) < 100 := by omega
            have hjl : j < qs.length := by rw [HX.out.2.2.2.1]; exact hgq.1
            have hU := HX.out.2.2.1.up HC.out.2 (qeR_ab (by simp))
            obtain ⟨b1, o1, d1, hv1, _, _, lb1, hc1⟩ := hU.at_ (fun _ => rfl) (by omega) (by omega)
            injection hv1 with hA hn hc
            subst hA hc
            clear hn
            have xd1 : wr.cell? ⟨b1, o1 + j, none⟩ = some (.slice qs[j].A qs[j].p.length qs[j].c) := by have h := hc1 j hjl 0 _ rfl; rw [Nat.mul_one] at h; exact h
            clear hc1 hU
            generalize qs[j].A = xA at *
            generalize qs[j].c = xc at *
            generalize qs[j].p.length = pl at *
            clear hjl
            go_wp2_with fail
            go_roundw
            case rel => exact ⟨j + 1, _, by omega, by omega, by go_num, rfl, HC.out.1⟩
            case measure => simp [intOf]; omega
          · by_cases c1 : j < nq
            · have j0 : (j : Int) < nq := by omega
              have j1 : ¬ (j : Int) < 100 := by omega
              have j2 : ¬ (nq : Int) ≤ 80 := by omega
              go_wp2_with fail
              all_goals (go_ret; exact ⟨⟨_, rfl, by simp⟩, HC.out.2⟩)
            · have j0 : ¬ (j : Int) < nq := by omega
              by_cases n1 : no ≤ 80
              rotate_left 1
              · have k1 : ¬ (no : Int) ≤ 80 := by omega
                go_wp2_with fail
                all_goals (go_ret; exact ⟨⟨_, rfl, by simp⟩, HC.out.2⟩)
              have k1 : (no : Int) ≤ 80 := by omega
              by_cases n2 : nq ≤ 80
              rotate_left 1
              · have k2 : ¬ (nq : Int) ≤ 80 := by omega
                go_wp2_with fail
                all_goals (go_ret; exact ⟨⟨_, rfl, by simp⟩, HC.out.2⟩)
              have k2 : (nq : Int) ≤ 80 := by omega
              go_wp2_with fail
              all_goals (go_ret; exact ⟨⟨_, rfl, fun _ => by rw [HX.out.2.2.2.2.1, HX.out.2.2.2.2.2]; exact ⟨n1, n2⟩⟩, HC.out.2⟩)
end Go.Proofs.Ytanmndhdhlmjgaa
