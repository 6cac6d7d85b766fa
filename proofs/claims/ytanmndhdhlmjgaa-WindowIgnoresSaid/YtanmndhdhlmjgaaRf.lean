/- The walk of the transmission's answer. Conditions: small. -/
import Derived.Test.YtanmndhdhlmjgaaRd
import Derived.Test.YtanmndhdhlmjgaaXa
import Derived.Test.YtanmndhdhlmjgaaLibW
namespace Go.Proofs.Ytanmndhdhlmjgaa
open Go.RowKit
set_option maxRecDepth 100000 in
set_option maxHeartbeats 2000000 in
set_option linter.unusedSimpArgs false in
theorem runAnswer_any (m : RunM) (u : RVal) (X base : Nat) (p : Pm) (pv : Value) (W : World) (h : RunI W base X m u) (hX : base ≤ X) (hs : Small m.s) (hp : PkV W base p pv) (hsp : SmallP p) :
    Calls Try.prog 41 #[.pointer (some ⟨X, 0, none⟩), pv] W fun e W' => (∃ v, e = .returned v) ∧ (∃ vo vq, RunI W' base X { m with s := (ackS m.s m.now p).1 } { u with vo := vo, vq := vq }) ∧ Below base W W' := by
  obtain ⟨vo, vq, ve, vpu, vdl, vpk, van, pu, dl, pk, an⟩ := u
  have hso := h.rows.so.form
  have hsq := h.rows.sq.form
  have hre := h.rows.re.form
  have hpu := h.rows.pu.vform
  have hdl := h.rows.dl.vform
  have hpk := h.rows.pk.vform
  have han := h.rows.an.vform
  dsimp only at hso hsq hre hpu hdl hpk han
  obtain ⟨Ao, co, rfl, -, -⟩ := hso
  obtain ⟨Aq, cq, rfl, -, -⟩ := hsq
  obtain ⟨Ae, ce, rfl, -, -⟩ := hre
  obtain ⟨Apu, cpu, rfl, -, -⟩ := hpu
  obtain ⟨Adl, cdl, rfl, -, -⟩ := hdl
  obtain ⟨Apk, cpk, rfl, -, -⟩ := hpk
  obtain ⟨Aan, can, rfl, -, -⟩ := han
  have e1 : pu.length = m.pu.length := by rw [← h.rows.puM, List.length_map]
  have e2 : dl.length = m.dl.length := by rw [← h.rows.dlM, List.length_map]
  have e3 : pk.length = m.pk.length := by rw [← h.rows.pkM, List.length_map]
  have e4 : an.length = m.an.length := by rw [← h.rows.anM, List.length_map]
  obtain ⟨no, hno⟩ : ∃ n, m.s.out.length = n := ⟨_, rfl⟩
  obtain ⟨nq, hnq⟩ : ∃ n, m.s.q.length = n := ⟨_, rfl⟩
  obtain ⟨ne, hne⟩ : ∃ n, m.r.early.length = n := ⟨_, rfl⟩
  obtain ⟨npu, hnpu⟩ : ∃ n, pu.length = n := ⟨_, rfl⟩
  obtain ⟨ndl, hndl⟩ : ∃ n, dl.length = n := ⟨_, rfl⟩
  obtain ⟨npk, hnpk⟩ : ∃ n, pk.length = n := ⟨_, rfl⟩
  obtain ⟨nan, hnan⟩ : ∃ n, an.length = n := ⟨_, rfl⟩
  rw [hno, hnq, hne, hnpu, hndl, hnpk, hnan] at h
  try rw [hno]
  try rw [hnq]
  try rw [hne]
  try rw [hnpu]
  try rw [hndl]
  try rw [hnpk]
  try rw [hnan]
  have HLN := Lib.hid (And.intro hno (And.intro hnq (And.intro hne (And.intro hnpu (And.intro hndl (And.intro hnpk hnan))))))
  have HLE := Lib.hid (And.intro e1 (And.intro e2 (And.intro e3 e4)))
  have lX := h.blk.lt
  have hbk := h.blk
  unfold runC at hbk
  dsimp only at hbk
  have HR := Lib.hid (And.intro h.rows hbk)
  clear hno hnq hne hnpu hndl hnpk hnan e1 e2 e3 e4 h hbk
  have HP := Lib.hid hp
  obtain ⟨vs, vp, rfl, hXs, Ap, cp, rfl, hB⟩ := hp
  obtain ⟨As, cs, rfl, -, -⟩ := hXs.form
  clear hXs hB
  obtain ⟨ns, hns⟩ : ∃ n, p.sel.length = n := ⟨_, rfl⟩
  obtain ⟨np, hnp⟩ : ∃ n, p.p.length = n := ⟨_, rfl⟩
  rw [hns, hnp] at HP ⊢
  clear hns hnp
  unfold pkC at HP ⊢
  have hbW : base ≤ W.heap.size := by omega
  obtain ⟨⟨s2, sm⟩, hs2⟩ : ∃ q, ackS m.s m.now p = q := ⟨_, rfl⟩
  rw [hs2]
  dsimp only
  have HS2 := Lib.hid (And.intro hs2 (And.intro hs hsp))
  clear hs hsp hs2
  have hbk : Below W.heap.size W (W.alloc (.cells #[.int .i64 p.kind, .int .i64 p.ses, .int .i64 p.seq, .int .i64 p.ack, .int .i64 p.cred, .slice As ns cs, .slice Ap np cp] 55)) := (Below.refl _ W).alloc (Nat.le_refl _) _
  have HP0 := Lib.hid (And.intro (HR.out.1.below hbk) (And.intro (HR.out.2.below hbk lX) (And.intro (hbk.mono hbW) (And.intro (Blk.new W 55 #[.int .i64 p.kind, .int .i64 p.ses, .int .i64 p.seq, .int .i64 p.ack, .int .i64 p.cred, .slice As ns cs, .slice Ap np cp]) (HP.out.up hbk)))))
  have hXK : X < W.heap.size := lX
  clear hbk
  go_enter Try.func41, Try.ntmps41
  go_upto_region 1 with fail
  obtain ⟨K, hK⟩ : ∃ x, x = W.heap.size := ⟨_, rfl⟩
  rw [← hK] at HP0 hXK ⊢
  clear hK
  generalize (W.alloc (.cells #[.int .i64 p.kind, .int .i64 p.ses, .int .i64 p.seq, .int .i64 p.ack, .int .i64 p.cred, .slice As ns cs, .slice Ap np cp] 55)) = W1 at *
  have hXW : X < W1.heap.size := HP0.out.2.1.lt
  have hKW : K < W1.heap.size := HP0.out.2.2.2.1.lt
  have hbW1 : base ≤ W1.heap.size := by omega
  have xr0 : W1.cell? ⟨X, 0, none⟩ = some (.int .i64 m.s.ses) := HP0.out.2.1.cell 0
  have xr1 : W1.cell? ⟨X, 1, none⟩ = some (.int .i64 m.s.lim) := HP0.out.2.1.cell 1
  have xr2 : W1.cell? ⟨X, 2, none⟩ = some (.int .i64 m.s.tmo) := HP0.out.2.1.cell 2
  have xr3 : W1.cell? ⟨X, 3, none⟩ = some (.int .i64 m.s.base) := HP0.out.2.1.cell 3
  have xr4 : W1.cell? ⟨X, 4, none⟩ = some (.int .i64 m.s.next) := HP0.out.2.1.cell 4
  have xr5 : W1.cell? ⟨X, 5, none⟩ = some (.int .i64 m.s.cred) := HP0.out.2.1.cell 5
  have xr6 : W1.cell? ⟨X, 6, none⟩ = some (.slice Ao no co) := HP0.out.2.1.cell 6
  have xr7 : W1.cell? ⟨X, 7, none⟩ = some (.slice Aq nq cq) := HP0.out.2.1.cell 7
  have xr16 : W1.cell? ⟨X, 16, none⟩ = some (.int .i64 m.now) := HP0.out.2.1.cell 16
  have xk0 : W1.cell? ⟨K, 0, none⟩ = some (.int .i64 p.kind) := HP0.out.2.2.2.1.cell 0
  have xk1 : W1.cell? ⟨K, 1, none⟩ = some (.int .i64 p.ses) := HP0.out.2.2.2.1.cell 1
  have xk2 : W1.cell? ⟨K, 2, none⟩ = some (.int .i64 p.seq) := HP0.out.2.2.2.1.cell 2
  have xk3 : W1.cell? ⟨K, 3, none⟩ = some (.int .i64 p.ack) := HP0.out.2.2.2.1.cell 3
  have xk4 : W1.cell? ⟨K, 4, none⟩ = some (.int .i64 p.cred) := HP0.out.2.2.2.1.cell 4
  have xk5 : W1.cell? ⟨K, 5, none⟩ = some (.slice As ns cs) := HP0.out.2.2.2.1.cell 5
  have xk6 : W1.cell? ⟨K, 6, none⟩ = some (.slice Ap np cp) := HP0.out.2.2.2.1.cell 6
  refine wp_region_lexY [(0, 2), (1, 2), (5, 2), (9, 1), (2, 2), (6, 2), (3, 2), (7, 2), (4, 1), (8, 1), (10, 0), (11, 2), (12, 2), (13, 2), (14, 2), (15, 2), (16, 0)] [10, 16] (fun w9 => w9.cell? ⟨X, 0, none⟩ = some (.int .i64 m.s.ses) ∧ w9.cell? ⟨X, 1, none⟩ = some (.int .i64 m.s.lim) ∧ w9.cell? ⟨X, 2, none⟩ = some (.int .i64 m.s.tmo) ∧ w9.cell? ⟨X, 3, none⟩ = some (.int .i64 m.s.base) ∧ w9.cell? ⟨X, 4, none⟩ = some (.int .i64 m.s.next) ∧ w9.cell? ⟨X, 5, none⟩ = some (.int .i64 m.s.cred) ∧ w9.cell? ⟨X, 6, none⟩ = some (.slice Ao no co) ∧ w9.cell? ⟨X, 7, none⟩ = some (.slice Aq nq cq) ∧ w9.cell? ⟨X, 16, none⟩ = some (.int .i64 m.now) ∧ w9.cell? ⟨K, 0, none⟩ = some (.int .i64 p.kind) ∧ w9.cell? ⟨K, 1, none⟩ = some (.int .i64 p.ses) ∧ w9.cell? ⟨K, 2, none⟩ = some (.int .i64 p.seq) ∧ w9.cell? ⟨K, 3, none⟩ = some (.int .i64 p.ack) ∧ w9.cell? ⟨K, 4, none⟩ = some (.int .i64 p.cred) ∧ w9.cell? ⟨K, 5, none⟩ = some (.slice As ns cs) ∧ w9.cell? ⟨K, 6, none⟩ = some (.slice Ap np cp)) (by kernel_rfl) (by kernel_rfl) (by kernel_rfl) (by kernel_rfl) (by kernel_rfl) ⟨xr0, xr1, xr2, xr3, xr4, xr5, xr6, xr7, xr16, xk0, xk1, xk2, xk3, xk4, xk5, xk6⟩ ?_
  repeat ((first | (refine lexY_late rfl (fun _ => trivial) (by rfl) (by intro w9; go_simp <;> with_reducible rfl) ?_) | (refine lexY_read rfl (by rfl) (by first | exact wanted_none rfl | exact wanted_some (b := true) (c := true) rfl rfl rfl | exact wanted_some (b := false) (c := false) rfl rfl rfl) (by intro w9 hS9; (try dsimp only at hS9); go_simp <;> with_reducible rfl) ?_) | (refine lexY_skip rfl (fun _ => trivial) (by first | exact wanted_some (b := true) (c := false) rfl rfl rfl | exact wanted_some (b := false) (c := true) rfl rfl rfl) ?_) | (refine lexY_builtin rfl (fun _ => trivial) (by first | exact wanted_none rfl | exact wanted_some (b := true) (c := true) rfl rfl rfl | exact wanted_some (b := false) (c := false) rfl rfl rfl) (by intro w9 hS9; (try dsimp only at hS9); go_simp <;> with_reducible rfl) ?_)); (try simp only [Act.put, List.getElem_toArray, List.getElem_cons_succ, List.getElem_cons_zero, List.setIfInBounds_toArray, List.set_cons_zero, List.set_cons_succ]))
  have hv1 : SnV W1.drew base m.s (.agg (snC m.s (.slice Ao no co) (.slice Aq nq cq))) := ⟨_, _, rfl, HP0.out.1.so.up (Below.refl _ W1).drew, HP0.out.1.sq.up (Below.refl _ W1).drew⟩
  have hc := Fr.Ack_any m.s m.now p _ _ base W1.drew hv1 HS2.out.2.1 (HP0.out.2.2.2.2.up (Below.refl _ W1).drew) HS2.out.2.2 hbW1
  unfold snC at hc
  clear hv1
  refine lexY_eff rfl (fun _ => trivial) ?_
  go_simp
  refine CallsIn.mono ((callsIn_wide (n := 0)).2 hc) ?_
  rintro e w2 ⟨⟨sv, n2, rfl, hsv, hn2, hfr⟩, hb2⟩
  dsimp only
  rw [HS2.out.1] at hsv hn2
  dsimp only at hsv hn2
  subst hn2
  obtain ⟨vo2, vq2, rfl, hO2, hQ2⟩ := hsv
  obtain ⟨Ao2, co2, rfl, -, -⟩ := hO2.form
  obtain ⟨Aq2, cq2, rfl, -, -⟩ := hQ2.form
  obtain ⟨no2, hno2⟩ : ∃ n, s2.out.length = n := ⟨_, rfl⟩
  obtain ⟨nq2, hnq2⟩ : ∃ n, s2.q.length = n := ⟨_, rfl⟩
  rw [hno2] at hO2 hfr ⊢
  rw [hnq2] at hQ2 hfr ⊢
  unfold snC at hfr ⊢
  have hb12 : Below W1.heap.size W1 w2 := (Below.refl _ W1).drew.trans hb2
  have hap := apart_next (HP0.out.1.below (Below.refl _ W1).drew) (next_q hfr) (slice_len HLN.out.2.1 hnq2)
  have hk2 := HP0.out.2.1.below hb12 hXW
  have hrw := (HP0.out.1.below hb12).sender (s := s2) hO2 hQ2 hap
  have hkk := HP0.out.2.2.2.1.below hb12 hKW
  have HQ9 := Lib.hid (And.intro hrw (And.intro hk2 (HP0.out.2.2.1.trans (hb12.mono hbW1))))
  have hbw2 : base ≤ w2.heap.size := Nat.le_trans hbW1 hb12.size
  have yr0 : w2.cell? ⟨X, 0, none⟩ = some (.int .i64 m.s.ses) := hk2.cell 0
  have yr1 : w2.cell? ⟨X, 1, none⟩ = some (.int .i64 m.s.lim) := hk2.cell 1
  have yr2 : w2.cell? ⟨X, 2, none⟩ = some (.int .i64 m.s.tmo) := hk2.cell 2
  have yr3 : w2.cell? ⟨X, 3, none⟩ = some (.int .i64 m.s.base) := hk2.cell 3
  have yr4 : w2.cell? ⟨X, 4, none⟩ = some (.int .i64 m.s.next) := hk2.cell 4
  have yr5 : w2.cell? ⟨X, 5, none⟩ = some (.int .i64 m.s.cred) := hk2.cell 5
  have yr6 : w2.cell? ⟨X, 6, none⟩ = some (.slice Ao no co) := hk2.cell 6
  have yr7 : w2.cell? ⟨X, 7, none⟩ = some (.slice Aq nq cq) := hk2.cell 7
  have yr16 : w2.cell? ⟨X, 16, none⟩ = some (.int .i64 m.now) := hk2.cell 16
  have yk0 : w2.cell? ⟨K, 0, none⟩ = some (.int .i64 p.kind) := hkk.cell 0
  have yk1 : w2.cell? ⟨K, 1, none⟩ = some (.int .i64 p.ses) := hkk.cell 1
  have yk2 : w2.cell? ⟨K, 2, none⟩ = some (.int .i64 p.seq) := hkk.cell 2
  have yk3 : w2.cell? ⟨K, 3, none⟩ = some (.int .i64 p.ack) := hkk.cell 3
  have yk4 : w2.cell? ⟨K, 4, none⟩ = some (.int .i64 p.cred) := hkk.cell 4
  have yk5 : w2.cell? ⟨K, 5, none⟩ = some (.slice As ns cs) := hkk.cell 5
  have yk6 : w2.cell? ⟨K, 6, none⟩ = some (.slice Ap np cp) := hkk.cell 6
  have yz0 := hk2.frozen 0
  have yz1 := hk2.frozen 1
  have yz2 := hk2.frozen 2
  have yz3 := hk2.frozen 3
  have yz4 := hk2.frozen 4
  have yz5 := hk2.frozen 5
  have yz6 := hk2.frozen 6
  have yz7 := hk2.frozen 7
  have lX2 := hk2.lt
  have lK2 := hkk.lt
  clear hc hfr hb12 hb2 hap hrw hk2 hkk hO2 hQ2 xr0 xr1 xr2 xr3 xr4 xr5 xr6 xr7 xr16 xk0 xk1 xk2 xk3 xk4 xk5 xk6
  (try simp only [Act.put, List.getElem_toArray, List.getElem_cons_succ, List.getElem_cons_zero, List.setIfInBounds_toArray, List.set_cons_zero, List.set_cons_succ])
  repeat ((first | (refine lexY_late rfl (fun _ => trivial) (by rfl) (by intro w9; go_simp <;> with_reducible rfl) ?_) | (refine lexY_read rfl (by rfl) (by first | exact wanted_none rfl | exact wanted_some (b := true) (c := true) rfl rfl rfl | exact wanted_some (b := false) (c := false) rfl rfl rfl) (by intro w9 hS9; (try dsimp only at hS9); go_simp <;> with_reducible rfl) ?_) | (refine lexY_skip rfl (fun _ => trivial) (by first | exact wanted_some (b := true) (c := false) rfl rfl rfl | exact wanted_some (b := false) (c := true) rfl rfl rfl) ?_) | (refine lexY_builtin rfl (fun _ => trivial) (by first | exact wanted_none rfl | exact wanted_some (b := true) (c := true) rfl rfl rfl | exact wanted_some (b := false) (c := false) rfl rfl rfl) (by intro w9 hS9; (try dsimp only at hS9); go_simp <;> with_reducible rfl) ?_)); (try simp only [Act.put, List.getElem_toArray, List.getElem_cons_succ, List.getElem_cons_zero, List.setIfInBounds_toArray, List.set_cons_zero, List.set_cons_succ]))
  refine lexY_eff rfl (fun _ => trivial) ?_
  go_simp
  (try simp only [Act.put, List.getElem_toArray, List.getElem_cons_succ, List.getElem_cons_zero, List.setIfInBounds_toArray, List.set_cons_zero, List.set_cons_succ])
  repeat ((first | (refine lexY_late rfl (fun _ => trivial) (by rfl) (by intro w9; go_simp <;> with_reducible rfl) ?_) | (refine lexY_read rfl (by rfl) (by first | exact wanted_none rfl | exact wanted_some (b := true) (c := true) rfl rfl rfl | exact wanted_some (b := false) (c := false) rfl rfl rfl) (by intro w9 hS9; (try dsimp only at hS9); go_simp <;> with_reducible rfl) ?_) | (refine lexY_skip rfl (fun _ => trivial) (by first | exact wanted_some (b := true) (c := false) rfl rfl rfl | exact wanted_some (b := false) (c := true) rfl rfl rfl) ?_) | (refine lexY_builtin rfl (fun _ => trivial) (by first | exact wanted_none rfl | exact wanted_some (b := true) (c := true) rfl rfl rfl | exact wanted_some (b := false) (c := false) rfl rfl rfl) (by intro w9 hS9; (try dsimp only at hS9); go_simp <;> with_reducible rfl) ?_)); (try simp only [Act.put, List.getElem_toArray, List.getElem_cons_succ, List.getElem_cons_zero, List.setIfInBounds_toArray, List.set_cons_zero, List.set_cons_succ]))
  refine lexY_nil (panQ_normal ?_)
  have hk3 := set73s_blk HQ9.out.2.1 (.int .i64 s2.ses) (.int .i64 s2.lim) (.int .i64 s2.tmo) (.int .i64 s2.base) (.int .i64 s2.next) (.int .i64 s2.cred) (.slice Ao2 no2 co2) (.slice Aq2 nq2 cq2)
  have hT3 := set73s_turn HQ9.out.2.1 hX (.int .i64 s2.ses) (.int .i64 s2.lim) (.int .i64 s2.tmo) (.int .i64 s2.base) (.int .i64 s2.next) (.int .i64 s2.cred) (.slice Ao2 no2 co2) (.slice Aq2 nq2 cq2)
  have hrF := HQ9.out.1.t73 hT3
  have hbF := Turn.belowT (B := base) HQ9.out.2.2 hT3 (Nat.le_refl _) hbw2
  have HF := Lib.hid (And.intro hrF (And.intro hk3 hbF))
  clear hk3 hT3 hrF hbF
  go_wp2_with fail
  ((try simp only [Exit.inBlock, Exit.then]); first | refine bodyPost_ret (results_none rfl _ _ _) rfl ?_ | refine bodyPost_end (results_none rfl _ _ _) rfl ?_)
  exact ⟨⟨_, rfl⟩, ⟨.slice Ao2 no2 co2, .slice Aq2 nq2 cq2, ⟨HF.out.1, HF.out.2.1⟩⟩, HF.out.2.2⟩
end Go.Proofs.Ytanmndhdhlmjgaa
