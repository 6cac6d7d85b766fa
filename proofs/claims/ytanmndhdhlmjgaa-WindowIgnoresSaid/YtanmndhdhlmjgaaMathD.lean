/- The walk of acceptable. Conditions: small. -/
import Derived.Test.YtanmndhdhlmjgaaWv
import Derived.Test.YtanmndhdhlmjgaaWe
import Derived.Test.YtanmndhdhlmjgaaWj
import Derived.Test.YtanmndhdhlmjgaaWc
namespace Go.Proofs.Ytanmndhdhlmjgaa
open Go.RowKit
theorem selB_bd : ∀ (l : List Xm) (ack e : Int), 0 ≤ e → ack ≤ 1073741824 → selB ack e l = true → BdX l
  | [], _, _, _, _, _ => nofun
  | x :: l, ack, e, he, ha, h => by
    rw [selB] at h
    split at h
    · cases h
    · intro y hy
      rcases List.mem_cons.1 hy with rfl | hy
      · omega
      · exact selB_bd l ack (x.s + x.c) (by omega) ha h y hy
theorem chkP_bd {p : Pm} (h : chkP p = 0) : BdX p.sel := by
  have h2 := chkP_ok h
  unfold chkP at h
  split at h
  · cases h
  split at h
  · cases h
  split at h
  · cases h
  · rename_i h3
    exact selB_bd p.sel p.ack p.ack h2.2.1.1 h2.2.1.2 (by simpa using h3)
set_option linter.unusedSimpArgs false in
set_option maxRecDepth 100000 in
set_option maxHeartbeats 2000000 in
theorem acceptable_any (s : Sm) (p : Pm) (now : Int) (v pv : Value) (base base' : Nat) (w : World) (hv : SnV w base s v) (hs : Small s) (hp : PkV w base' p pv) (hsp : SmallP p) :
    Calls Try.prog 58 #[v, .int .i64 now, pv] w fun e w' => e = .returned (.bool (acceptB s now p)) ∧ Below w.heap.size w w' := by
  have HV := Lib.hid hv
  have HP := Lib.hid hp
  obtain ⟨vo, vq, rfl, hO, hQ⟩ := hv
  obtain ⟨Ao, co, rfl, -, -⟩ := hO.form
  obtain ⟨Aq, cq, rfl, -, -⟩ := hQ.form
  obtain ⟨vs, vp, rfl, hX, Ap, cp, rfl, hB⟩ := hp
  have HXS := Lib.hid hX
  obtain ⟨As, cs, rfl, -, -⟩ := hX.form
  clear hO hQ hX hB
  obtain ⟨no, hno⟩ : ∃ n, s.out.length = n := ⟨_, rfl⟩
  obtain ⟨nq, hnq⟩ : ∃ n, s.q.length = n := ⟨_, rfl⟩
  obtain ⟨ns, hns⟩ : ∃ n, p.sel.length = n := ⟨_, rfl⟩
  obtain ⟨np, hnp⟩ : ∃ n, p.p.length = n := ⟨_, rfl⟩
  rw [hno, hnq] at HV ⊢
  rw [hns, hnp] at HP ⊢
  rw [hns] at HXS
  clear hno hnq hns hnp
  have HSM := Lib.hid (And.intro hs hsp)
  clear hs hsp
  unfold snC at HV ⊢
  unfold pkC at HP ⊢
  have HW : Hid (Blk ((w.alloc (.cells #[.int .i64 s.ses, .int .i64 s.lim, .int .i64 s.tmo, .int .i64 s.base, .int .i64 s.next, .int .i64 s.cred, .slice Ao no co, .slice Aq nq cq] 25)).alloc (.cells #[.int .i64 p.kind, .int .i64 p.ses, .int .i64 p.seq, .int .i64 p.ack, .int .i64 p.cred, .slice As ns cs, .slice Ap np cp] 55)) (w.heap.size) 25 #[.int .i64 s.ses, .int .i64 s.lim, .int .i64 s.tmo, .int .i64 s.base, .int .i64 s.next, .int .i64 s.cred, .slice Ao no co, .slice Aq nq cq] ∧ Blk ((w.alloc (.cells #[.int .i64 s.ses, .int .i64 s.lim, .int .i64 s.tmo, .int .i64 s.base, .int .i64 s.next, .int .i64 s.cred, .slice Ao no co, .slice Aq nq cq] 25)).alloc (.cells #[.int .i64 p.kind, .int .i64 p.ses, .int .i64 p.seq, .int .i64 p.ack, .int .i64 p.cred, .slice As ns cs, .slice Ap np cp] 55)) (w.heap.size + 1) 55 #[.int .i64 p.kind, .int .i64 p.ses, .int .i64 p.seq, .int .i64 p.ack, .int .i64 p.cred, .slice As ns cs, .slice Ap np cp] ∧ Below w.heap.size w ((w.alloc (.cells #[.int .i64 s.ses, .int .i64 s.lim, .int .i64 s.tmo, .int .i64 s.base, .int .i64 s.next, .int .i64 s.cred, .slice Ao no co, .slice Aq nq cq] 25)).alloc (.cells #[.int .i64 p.kind, .int .i64 p.ses, .int .i64 p.seq, .int .i64 p.ack, .int .i64 p.cred, .slice As ns cs, .slice Ap np cp] 55))) := by
    have h1 := (Blk.new w 25 #[.int .i64 s.ses, .int .i64 s.lim, .int .i64 s.tmo, .int .i64 s.base, .int .i64 s.next, .int .i64 s.cred, .slice Ao no co, .slice Aq nq cq]).alloc (.cells #[.int .i64 p.kind, .int .i64 p.ses, .int .i64 p.seq, .int .i64 p.ack, .int .i64 p.cred, .slice As ns cs, .slice Ap np cp] 55)
    have h2 := Blk.new (w.alloc (.cells #[.int .i64 s.ses, .int .i64 s.lim, .int .i64 s.tmo, .int .i64 s.base, .int .i64 s.next, .int .i64 s.cred, .slice Ao no co, .slice Aq nq cq] 25)) 55 #[.int .i64 p.kind, .int .i64 p.ses, .int .i64 p.seq, .int .i64 p.ack, .int .i64 p.cred, .slice As ns cs, .slice Ap np cp]
    rw [World.size_alloc] at h2
    exact ⟨h1, h2, ((Below.refl _ w).alloc (Nat.le_refl _) _).alloc (by simp) _⟩
  obtain ⟨ev, hev⟩ : ∃ n, chkS s = n := ⟨_, rfl⟩
  obtain ⟨pe, hpe⟩ : ∃ n, chkP p = n := ⟨_, rfl⟩
  have hc1 := CheckSender_any s _ base ((w.alloc (.cells #[.int .i64 s.ses, .int .i64 s.lim, .int .i64 s.tmo, .int .i64 s.base, .int .i64 s.next, .int .i64 s.cred, .slice Ao no co, .slice Aq nq cq] 25)).alloc (.cells #[.int .i64 p.kind, .int .i64 p.ses, .int .i64 p.seq, .int .i64 p.ack, .int .i64 p.cred, .slice As ns cs, .slice Ap np cp] 55)) (HV.out.up HW.out.2.2) HSM.out.1
  rw [hev] at hc1
  have HC1 := Lib.hid hc1
  have HE := Lib.hid (And.intro hev hpe)
  clear hc1 hev hpe
  go_enter Try.func58, Try.ntmps58
  go_wp2_with fail
  generalize ((w.alloc (.cells #[.int .i64 s.ses, .int .i64 s.lim, .int .i64 s.tmo, .int .i64 s.base, .int .i64 s.next, .int .i64 s.cred, .slice Ao no co, .slice Aq nq cq] 25)).alloc (.cells #[.int .i64 p.kind, .int .i64 p.ses, .int .i64 p.seq, .int .i64 p.ack, .int .i64 p.cred, .slice As ns cs, .slice Ap np cp] 55)) = W at *
  refine HC1.out.mono ?_
  clear HC1
  rintro e w1 ⟨rfl, hb1⟩
  have HW1 := Lib.hid (And.intro (HW.out.1.below hb1 HW.out.1.lt) (And.intro (HW.out.2.1.below hb1 HW.out.2.1.lt) (HW.out.2.2.trans (hb1.mono HW.out.2.2.size))))
  clear hb1
  have xc0 : w1.cell? ⟨w.heap.size, 0, none⟩ = some (.int .i64 s.ses) := HW1.out.1.cell 0
  have xc1 : w1.cell? ⟨w.heap.size, 1, none⟩ = some (.int .i64 s.lim) := HW1.out.1.cell 1
  have xc2 : w1.cell? ⟨w.heap.size, 2, none⟩ = some (.int .i64 s.tmo) := HW1.out.1.cell 2
  have xc3 : w1.cell? ⟨w.heap.size, 3, none⟩ = some (.int .i64 s.base) := HW1.out.1.cell 3
  have xc4 : w1.cell? ⟨w.heap.size, 4, none⟩ = some (.int .i64 s.next) := HW1.out.1.cell 4
  have xc5 : w1.cell? ⟨w.heap.size, 5, none⟩ = some (.int .i64 s.cred) := HW1.out.1.cell 5
  have xc6 : w1.cell? ⟨w.heap.size, 6, none⟩ = some (.slice Ao no co) := HW1.out.1.cell 6
  have xc7 : w1.cell? ⟨w.heap.size, 7, none⟩ = some (.slice Aq nq cq) := HW1.out.1.cell 7
  have xk0 : w1.cell? ⟨w.heap.size + 1, 0, none⟩ = some (.int .i64 p.kind) := HW1.out.2.1.cell 0
  have xk1 : w1.cell? ⟨w.heap.size + 1, 1, none⟩ = some (.int .i64 p.ses) := HW1.out.2.1.cell 1
  have xk2 : w1.cell? ⟨w.heap.size + 1, 2, none⟩ = some (.int .i64 p.seq) := HW1.out.2.1.cell 2
  have xk3 : w1.cell? ⟨w.heap.size + 1, 3, none⟩ = some (.int .i64 p.ack) := HW1.out.2.1.cell 3
  have xk4 : w1.cell? ⟨w.heap.size + 1, 4, none⟩ = some (.int .i64 p.cred) := HW1.out.2.1.cell 4
  have xk5 : w1.cell? ⟨w.heap.size + 1, 5, none⟩ = some (.slice As ns cs) := HW1.out.2.1.cell 5
  have xk6 : w1.cell? ⟨w.heap.size + 1, 6, none⟩ = some (.slice Ap np cp) := HW1.out.2.1.cell 6
  have lR := HW1.out.1.lt
  have lK := HW1.out.2.1.lt
  by_cases he : ev = 0
  rotate_left 1
  · have k0 : ((ev : Int) != 0) = true := by simpa using he
    have HM : Hid (acceptB s now p = false) := by show _ = _; unfold acceptB; rw [decide_eq_false (fun h => he (by rw [← HE.out.1]; exact h.1)), Bool.false_and]
    go_wp2_with fail
    go_ret
    exact ⟨ret_bool HM.out.symm, HW1.out.2.2⟩
  have k0 : ((ev : Int) != 0) = false := by simp [he]
  have HE0 := Lib.hid he
  clear he
  by_cases hn : 0 ≤ now ∧ now ≤ 1073741824
  rotate_left 1
  · have HN := Lib.hid hn
    go_wp2_with fail
    refine (in_any _ _ _ (decide_eq_false hn) _).mono ?_
    rintro e w9 ⟨rfl, rfl⟩
    have HM : Hid (acceptB s now p = false) := by show _ = _; unfold acceptB; rw [decide_eq_false (fun h => HN.out h.2.1), Bool.false_and]
    go_wp2_with fail
    go_ret
    exact ⟨ret_bool HM.out.symm, HW1.out.2.2⟩
  have HN := Lib.hid hn
  go_wp2_with fail
  refine (in_any _ _ _ (decide_eq_true hn) _).mono ?_
  rintro e w9 ⟨rfl, rfl⟩
  clear hn
  have hc2 := PCheck_any p _ base' w1 (HP.out.up HW1.out.2.2) HSM.out.2
  rw [HE.out.2] at hc2
  have HC2 := Lib.hid hc2
  clear hc2
  go_wp2_with fail
  refine HC2.out.mono ?_
  clear HC2
  rintro e w2 ⟨rfl, hb1⟩
  clear xc0 xc1 xc2 xc3 xc4 xc5 xc6 xc7 xk0 xk1 xk2 xk3 xk4 xk5 xk6 lR lK
  have HW2 := Lib.hid (And.intro (HW1.out.1.below hb1 HW1.out.1.lt) (And.intro (HW1.out.2.1.below hb1 HW1.out.2.1.lt) (HW1.out.2.2.trans (hb1.mono HW1.out.2.2.size))))
  clear hb1
  have xc0 : w2.cell? ⟨w.heap.size, 0, none⟩ = some (.int .i64 s.ses) := HW2.out.1.cell 0
  have xc1 : w2.cell? ⟨w.heap.size, 1, none⟩ = some (.int .i64 s.lim) := HW2.out.1.cell 1
  have xc2 : w2.cell? ⟨w.heap.size, 2, none⟩ = some (.int .i64 s.tmo) := HW2.out.1.cell 2
  have xc3 : w2.cell? ⟨w.heap.size, 3, none⟩ = some (.int .i64 s.base) := HW2.out.1.cell 3
  have xc4 : w2.cell? ⟨w.heap.size, 4, none⟩ = some (.int .i64 s.next) := HW2.out.1.cell 4
  have xc5 : w2.cell? ⟨w.heap.size, 5, none⟩ = some (.int .i64 s.cred) := HW2.out.1.cell 5
  have xc6 : w2.cell? ⟨w.heap.size, 6, none⟩ = some (.slice Ao no co) := HW2.out.1.cell 6
  have xc7 : w2.cell? ⟨w.heap.size, 7, none⟩ = some (.slice Aq nq cq) := HW2.out.1.cell 7
  have xk0 : w2.cell? ⟨w.heap.size + 1, 0, none⟩ = some (.int .i64 p.kind) := HW2.out.2.1.cell 0
  have xk1 : w2.cell? ⟨w.heap.size + 1, 1, none⟩ = some (.int .i64 p.ses) := HW2.out.2.1.cell 1
  have xk2 : w2.cell? ⟨w.heap.size + 1, 2, none⟩ = some (.int .i64 p.seq) := HW2.out.2.1.cell 2
  have xk3 : w2.cell? ⟨w.heap.size + 1, 3, none⟩ = some (.int .i64 p.ack) := HW2.out.2.1.cell 3
  have xk4 : w2.cell? ⟨w.heap.size + 1, 4, none⟩ = some (.int .i64 p.cred) := HW2.out.2.1.cell 4
  have xk5 : w2.cell? ⟨w.heap.size + 1, 5, none⟩ = some (.slice As ns cs) := HW2.out.2.1.cell 5
  have xk6 : w2.cell? ⟨w.heap.size + 1, 6, none⟩ = some (.slice Ap np cp) := HW2.out.2.1.cell 6
  have lR := HW2.out.1.lt
  have lK := HW2.out.2.1.lt
  by_cases hp : pe = 0
  rotate_left 1
  · have k1 : ((pe : Int) != 0) = true := by simpa using hp
    have HM : Hid (acceptB s now p = false) := by show _ = _; unfold acceptB; rw [decide_eq_false (fun h => hp (by rw [← HE.out.2]; exact h.2.2.1)), Bool.false_and]
    go_wp2_with fail
    go_ret
    exact ⟨ret_bool HM.out.symm, HW2.out.2.2⟩
  have k1 : ((pe : Int) != 0) = false := by simp [hp]
  have HP0 := Lib.hid hp
  clear hp
  by_cases hk : p.kind = 1
  rotate_left 1
  · have k2 : (p.kind != 1) = true := by simpa using hk
    have HK := Lib.hid hk
    clear hk
    have HM : Hid (acceptB s now p = false) := by show _ = _; unfold acceptB; rw [decide_eq_false (fun h => HK.out h.2.2.2.1), Bool.false_and]
    go_wp2_with fail
    go_ret
    exact ⟨ret_bool HM.out.symm, HW2.out.2.2⟩
  have k2 : (p.kind != 1) = false := by simpa using hk
  have HK1 := Lib.hid hk
  clear hk
  by_cases hd : p.ses = s.ses
  rotate_left 1
  · have k3 : (p.ses != s.ses) = true := by simpa using hd
    have HK := Lib.hid hd
    clear hd
    have HM : Hid (acceptB s now p = false) := by show _ = _; unfold acceptB; rw [decide_eq_false (fun h => HK.out h.2.2.2.2.1), Bool.false_and]
    go_wp2_with fail
    go_ret
    exact ⟨ret_bool HM.out.symm, HW2.out.2.2⟩
  have k3 : (p.ses != s.ses) = false := by simpa using hd
  have HK3 := Lib.hid hd
  clear hd
  by_cases ha : s.base ≤ p.ack ∧ p.ack ≤ s.next
  rotate_left 1
  · have HA := Lib.hid ha
    go_wp2_with fail
    refine (in_any _ _ _ (decide_eq_false ha) _).mono ?_
    rintro e w9 ⟨rfl, rfl⟩
    have HM : Hid (acceptB s now p = false) := by show _ = _; unfold acceptB; rw [decide_eq_false (fun h => HA.out h.2.2.2.2.2), Bool.false_and]
    go_wp2_with fail
    go_ret
    exact ⟨ret_bool HM.out.symm, HW2.out.2.2⟩
  have HA := Lib.hid ha
  go_wp2_with fail
  refine (in_any _ _ _ (decide_eq_true ha) _).mono ?_
  rintro e w9 ⟨rfl, rfl⟩
  clear ha
  have HM : Hid (acceptB s now p = !(p.sel.any (farX s.next))) := by
    show _ = _
    unfold acceptB
    rw [decide_eq_true ⟨by rw [HE.out.1]; exact HE0.out, HN.out, by rw [HE.out.2]; exact HP0.out, HK1.out, HK3.out, HA.out.1, HA.out.2⟩, Bool.true_and]
    rfl
  have hbd := chkP_bd (p := p) (by rw [HE.out.2]; exact HP0.out)
  have HBD := Lib.hid hbd
  clear hbd
  go_wp2_with fail
  refine (anyFar_any _ base' p.sel s.next (w.heap.size) w2 (HXS.out.up HW2.out.2.2) (Nat.le_trans HSM.out.2.sel (by omega)) HBD.out (HW2.out.1.cell 4) HW2.out.1.lt).mono ?_
  rintro e w3 ⟨rfl, hb3⟩
  have hbF := HW2.out.2.2.trans (hb3.mono HW2.out.2.2.size)
  have HBF := Lib.hid hbF
  clear hb3 hbF
  obtain ⟨bb, hbb⟩ : ∃ b, p.sel.any (farX s.next) = b := ⟨_, rfl⟩
  rw [hbb] at HM ⊢
  clear hbb
  go_wp2_with fail
  go_ret
  exact ⟨ret_bool HM.out.symm, HBF.out⟩
end Go.Proofs.Ytanmndhdhlmjgaa

/- The walk of Ack's closure acked. Conditions: small. -/
namespace Go.Proofs.Ytanmndhdhlmjgaa
open Go.RowKit
set_option linter.unusedSimpArgs false in
set_option maxRecDepth 100000 in
set_option maxHeartbeats 2000000 in
theorem acked_any (p : Pm) (n : Int) (vs : Value) (P base : Nat) (w : World) (h3 : w.cell? ⟨P, 3, none⟩ = some (.int .i64 p.ack)) (h5 : w.cell? ⟨P, 5, none⟩ = some vs) (hP : P < w.heap.size) (hX : XsV w base p.sel vs) (hbd : BdX p.sel) (hs : p.sel.length ≤ 10000) :
    Calls Try.prog 59 #[.int .i64 n, .pointer (some ⟨P, 0, none⟩)] w fun e w' => e = .returned (.bool (ackedB p n)) ∧ Below w.heap.size w w' := by
  have HX := Lib.hid (And.intro hX (And.intro hbd hs))
  obtain ⟨As, cs, rfl, -, -⟩ := hX.form
  obtain ⟨ns, hns⟩ : ∃ n, p.sel.length = n := ⟨_, rfl⟩
  rw [hns] at h5 HX
  clear hX hbd hs hns
  have hb : Below w.heap.size w (w.alloc (.cells #[.int .i64 n] 3)) := (Below.refl _ w).alloc (Nat.le_refl _) _
  have HB := Lib.hid (And.intro hb (Blk.new w 3 #[.int .i64 n]))
  clear hb
  by_cases hlt : n < p.ack
  · have HM : Hid (ackedB p n = true) := by show _ = _; unfold ackedB; rw [decide_eq_true hlt, Bool.true_or]
    go_enter Try.func59, Try.ntmps59
    go_wp2_with fail
    go_ret
    exact ⟨ret_bool HM.out.symm, HB.out.1⟩
  · have HM : Hid (ackedB p n = p.sel.any (inX n)) := by show _ = _; unfold ackedB; rw [decide_eq_false hlt, Bool.false_or]; rfl
    go_enter Try.func59, Try.ntmps59
    go_wp2_with fail
    refine (anyIn_any _ base p.sel n w.heap.size _ (HX.out.1.up HB.out.1) (Nat.le_trans (by rw [← (show p.sel.length = ns from by obtain ⟨A, c, h, _⟩ := HX.out.1.form; injection h with _ h _; exact h.symm)] at HX; exact HX.out.2.2) (by omega)) HX.out.2.1 (HB.out.2.cell 0) HB.out.2.lt).mono ?_
    rintro e w1 ⟨rfl, hb1⟩
    have HB1 := Lib.hid (HB.out.1.trans (hb1.mono HB.out.1.size))
    clear hb1
    obtain ⟨bb, hbb⟩ : ∃ b, p.sel.any (inX n) = b := ⟨_, rfl⟩
    rw [hbb] at HM ⊢
    clear hbb
    go_wp2_with fail
    go_ret
    exact ⟨ret_bool HM.out.symm, HB1.out⟩
end Go.Proofs.Ytanmndhdhlmjgaa

/- Plain laws for Ack: what an accepted answer tells, and one payload after the other. No condition. -/
namespace Go.Proofs.Ytanmndhdhlmjgaa
open Go.RowKit
theorem accept_ok {s : Sm} {now : Int} {p : Pm} (h : acceptB s now p = true) : chkS s = 0 ∧ (0 ≤ now ∧ now ≤ 1073741824) ∧ chkP p = 0 := by
  unfold acceptB at h
  rw [Bool.and_eq_true, decide_eq_true_eq] at h
  exact ⟨h.1.1, h.1.2.1, h.1.2.2.1⟩
structure SRng (s : Sm) : Prop where
  ses : 0 ≤ s.ses ∧ s.ses ≤ 1073741824
  lim : 1 ≤ s.lim ∧ s.lim ≤ 64
  tmo : 1 ≤ s.tmo ∧ s.tmo ≤ 1073741824
  base : 0 ≤ s.base ∧ s.base ≤ 1073741824
  next : 0 ≤ s.next ∧ s.next ≤ 1073741824
  cred : 0 ≤ s.cred ∧ s.cred ≤ 64
  out : (s.out.length : Int) ≤ s.lim
  q : s.q.length ≤ 4096
  end_ : s.next = s.base + s.out.length
  qs : ∀ p ∈ s.q, p.length ≤ 4096
  outs : outsE s.base 0 s.out = 0
theorem chkS_rng {s : Sm} (h : chkS s = 0) : SRng s := by
  unfold chkS at h
  split at h
  · cases h
  rename_i h1
  have h1 := Decidable.not_not.1 h1
  split at h
  · cases h
  rename_i h2
  split at h
  · rename_i h0
    exact absurd h h0
  rename_i h3
  split at h
  · cases h
  rename_i h4
  split at h
  · cases h
  rename_i h5
  refine ⟨h1.1, h1.2.1, h1.2.2.1, h1.2.2.2.1, h1.2.2.2.2.1, h1.2.2.2.2.2, by omega, by omega, Decidable.not_not.1 h4, fun p hp => ?_, Decidable.not_not.1 h3⟩
  simp only [Bool.not_eq_true, List.any_eq_false, decide_eq_true_eq] at h5
  have := h5 p hp
  omega
theorem chkS_of {s : Sm} (h : SRng s) : chkS s = 0 := by
  unfold chkS
  rw [if_neg (not_not_intro ⟨h.ses, h.lim, h.tmo, h.base, h.next, h.cred⟩), if_neg (by have := h.out; have := h.q; omega), if_neg (not_not_intro h.outs), if_neg (not_not_intro h.end_), if_neg]
  simp only [Bool.not_eq_true, List.any_eq_false, decide_eq_true_eq]
  intro p hp
  have := h.qs p hp
  omega
theorem outE_ok {base : Int} {i : Nat} {o : Om} (h : outE base i o = 0) : o.seq = base + i ∧ (1 ≤ o.cnt ∧ o.cnt ≤ 1073741824) ∧ ¬ (i = 0 ∧ o.ak = true) ∧ (0 ≤ o.time ∧ o.time ≤ 1073741824) ∧ o.p.length ≤ 4096 := by
  unfold outE at h
  split at h
  · cases h
  rename_i h1
  split at h
  · cases h
  rename_i h2
  split at h
  · cases h
  rename_i h3
  split at h
  · cases h
  rename_i h4
  split at h
  · cases h
  exact ⟨Decidable.not_not.1 h1, Decidable.not_not.1 h2, h3, Decidable.not_not.1 h4, by omega⟩
theorem outE_of {base : Int} {i : Nat} {o : Om} (h : o.seq = base + i ∧ (1 ≤ o.cnt ∧ o.cnt ≤ 1073741824) ∧ ¬ (i = 0 ∧ o.ak = true) ∧ (0 ≤ o.time ∧ o.time ≤ 1073741824) ∧ o.p.length ≤ 4096) : outE base i o = 0 := by
  unfold outE
  rw [if_neg (not_not_intro h.1), if_neg (not_not_intro h.2.1), if_neg h.2.2.1, if_neg (not_not_intro h.2.2.2.1), if_neg (by omega)]
theorem outsE_at (base : Int) : ∀ (l : List Om) (i : Nat), outsE base i l = 0 → ∀ k (h : k < l.length), outE base (i + k) l[k] = 0
  | [], _, _ => nofun
  | o :: l, i, h => by
    rw [outsE] at h
    split at h
    · rename_i h0
      intro k hk
      cases k with
      | zero => exact h0
      | succ k =>
        have h2 := outsE_at base l (i + 1) h k (by simpa using hk)
        rw [show i + (k + 1) = i + 1 + k by omega]
        exact h2
    · rename_i h0
      exact absurd h h0
/-- what Ack does to one payload in memory -/
def ackE (p : Pm) (e : Oe) : Oe := if (!e.ak && ackedB p e.seq) = true then { e with ak := true } else e
theorem ackE_om (p : Pm) (e : Oe) : (ackE p e).om = ackO p e.om := by
  unfold ackE ackO Oe.om
  dsimp only
  split <;> rfl
def updE (f : Oe → Oe) (k : Nat) (es : List Oe) : List Oe := (es.take k).map f ++ es.drop k
theorem updE_zero (f : Oe → Oe) (es : List Oe) : updE f 0 es = es := by simp [updE]
theorem updE_all (f : Oe → Oe) {n : Nat} (es : List Oe) (h : es.length = n) : updE f n es = es.map f := by
  subst h
  simp [updE]
theorem updE_len (f : Oe → Oe) (k : Nat) (es : List Oe) : (updE f k es).length = es.length := by
  simp [updE]
  omega
theorem updE_at (f : Oe → Oe) {k : Nat} (es : List Oe) (h : k < es.length) (h' : k < (updE f k es).length) : (updE f k es)[k] = es[k] := by
  have h2 : k = ((es.take k).map f).length := by simp; omega
  simp only [updE]
  rw [List.getElem_append_right (by omega)]
  simp only [List.length_map, List.length_take, List.getElem_drop]
  congr 1
  omega
theorem updE_set (f : Oe → Oe) {k : Nat} (es : List Oe) (h : k < es.length) : (updE f k es).set k (f es[k]) = updE f (k + 1) es := by
  unfold updE
  have h2 : ((es.take k).map f).length = k := by simp; omega
  rw [List.set_append, if_neg (by omega), h2, Nat.sub_self, List.drop_eq_getElem_cons h, List.set_cons_zero, List.take_add_one, List.getElem?_eq_getElem h, List.map_append]
  simp only [Option.toList_some, List.map_cons, List.map_nil, List.append_assoc, List.cons_append, List.nil_append]
theorem updE_same (f : Oe → Oe) {k : Nat} (es : List Oe) (h : k < es.length) (hf : f es[k] = es[k]) : updE f (k + 1) es = updE f k es := by
  rw [← updE_set f es h, hf]
  apply List.ext_getElem (by simp)
  intro j h1 h2
  rw [List.getElem_set]
  split
  · rename_i e
    subst e
    rw [updE_at f es h]
  · rfl
theorem fold_succ {α β : Type} (f : β → α → β) (z : β) (l : List α) (k : Nat) (h : k < l.length) : (l.take (k + 1)).foldl f z = f ((l.take k).foldl f z) l[k] := by
  rw [List.take_add_one, List.getElem?_eq_getElem h, List.foldl_append]
  rfl
theorem tw_len {α : Type} (f : α → Bool) (l : List α) : ((l.takeWhile (fun x => !f x)).length : Int) = if idxI f l < 0 then (l.length : Int) else idxI f l := by
  induction l with
  | nil => simp [idxI, idxB]
  | cons x l ih =>
    rw [List.takeWhile_cons]
    cases hx : f x with
    | true => simp [idxI, idxB, hx]
    | false =>
      simp only [Bool.not_false, if_true, List.length_cons]
      unfold idxI at ih ⊢
      rw [idxB, hx]
      cases hq : idxB f l with
      | none =>
        rw [hq] at ih
        simp at ih ⊢
        omega
      | some q =>
        rw [hq] at ih
        have h1 : ¬ ((q : Int) < 0) := by omega
        simp [h1] at ih ⊢
        have h2 : ¬ ((q : Int) + 1 < 0) := by omega
        rw [if_neg h2]
        omega
theorem tw_map (l : List Oe) : (((l.map Oe.om).takeWhile (·.ak)).length : Int) = if idxI freeO l < 0 then (l.length : Int) else idxI freeO l := by
  rw [← tw_len, List.takeWhile_map, List.length_map]
  have : ((fun x : Om => x.ak) ∘ Oe.om) = fun x => !freeO x := by
    funext x
    simp [freeO, Oe.om]
  rw [this]
end Go.Proofs.Ytanmndhdhlmjgaa
