/- The walk of the transmission's arrive. Conditions: small. -/
import Derived.Test.YtanmndhdhlmjgaaRd
import Derived.Test.YtanmndhdhlmjgaaWq
import Derived.Test.YtanmndhdhlmjgaaLibW
namespace Go.Proofs.Ytanmndhdhlmjgaa
open Go.RowKit
section
variable {α : Type} {E : α → List Value} {R : World → Nat → α → Prop} {t : TypeId} {sz : Nat} {base low : Nat} {l l2 : List α} {w : World} {v : Value} {P : Program}
theorem lexY_pushN {F : Fence} {n0 : Nat} {ops : Array Oper} {Q : Exit → Act → World → Prop} {S : World → Prop} {Z : List Nat} {i : Nat} {is : List (Nat × Nat)} {o : Oper} {a : Act} (hi : ops[i]? = some o) (hF : ∀ f, F.fn f) (s x : Operand) (st : TypeId) (ho : o.op = .call { callee := .builtin .append, args := #[s, x], argTypes := #[st, st] }) (z : Value) (bytes : Nat) (ht : P.underlying st = some (.slice t)) (hinf : (P.info? t).map (fun i => (i.zero, i.size, i.bytes)) = some (some z, sz, bytes)) (hzs : z.cells.size = sz) (hsz : 0 < sz) (hE1 : ∀ e ∈ l2, ∀ u ∈ E e, u.oneCell' = true)
    (hs : a.eval s = v) (h : Own1 E R t sz w base low v l) (hl : base ≤ low) (hR : Abides R [t]) (hrb : ∀ e ∈ l2, R w base e) {A : Option Addr} {n c : Nat} (hx : a.eval x = .slice A n c) (hg : Reads w w.heap.size sz A n (l2.flatMap E)) (hn2 : l2.length = n) (hn : l.length + n ≤ 1000000) (hby : bytes ≤ 100) (hlow : low ≤ w.heap.size)
    (hK : ∀ v' w', PushedN E R t sz base low l l2 w v v' w' → (Z.contains i = true ∨ S w') ∧ lexY F n0 P ops Q S Z is (a.put o.dst v') w') : lexY F n0 P ops Q S Z ((i, 0) :: is) a w := by
  obtain ⟨v', w', hrun, hp⟩ := run_pushN (P := P) st o.type z bytes ht hinf hzs hsz hE1 h hl hR hrb (c := c) hg hn2 hn hby hlow
  refine lexY_eff hi hF ?_
  simp only [execOp, ho, resolve, invoke, builtin, Sem.run_bind, Sem.run_pure, Result.andThen_ok, List.map_toArray, List.map_cons, List.map_nil, hs, hx, hrun]
  exact hK v' w' hp
end
set_option maxRecDepth 100000 in
set_option maxHeartbeats 2000000 in
set_option linter.unusedSimpArgs false in
theorem runArrive_any (m : RunM) (u : RVal) (X base : Nat) (p : Pm) (pv : Value) (W : World) (h : RunI W base X m u) (hX : base ≤ X) (hs : SmallR m.r) (hp : PkV W base p pv) (hsp : SmallP p) (hd : m.dl.length + (recvR m.r p).2.1.length ≤ 100000) (ha : m.an.length + (recvR m.r p).2.2.length ≤ 100000) :
    Calls Try.prog 40 #[.pointer (some ⟨X, 0, none⟩), pv] W fun e W' => (∃ v, e = .returned v) ∧ (∃ ve vdl van dl an, RunI W' base X { m with r := (recvR m.r p).1, dl := m.dl ++ (recvR m.r p).2.1, an := m.an ++ (recvR m.r p).2.2 } { u with ve := ve, vdl := vdl, van := van, dl := dl, an := an }) ∧ Below base W W' := by
  obtain ⟨vo, vq, ve, vpu, vdl, vpk, van, pu, dl, pk, an⟩ := u
  have hso := h.rows.so.form
  have hsq := h.rows.sq.form
  have hre := h.rows.re.form
  have hpu := h.rows.pu.vform
  have hdl := h.rows.dl.vform
  have hpk := h.rows.pk.vform
  have han := h.rows.an.vform
  dsimp only at hso hsq hre hpu hdl hpk han
  obtain ⟨Ao, co, rfl, -, -⟩ := hso
  obtain ⟨Aq, cq, rfl, -, -⟩ := hsq
  obtain ⟨Ae, ce, rfl, -, -⟩ := hre
  obtain ⟨Apu, cpu, rfl, -, -⟩ := hpu
  obtain ⟨Adl, cdl, rfl, -, -⟩ := hdl
  obtain ⟨Apk, cpk, rfl, -, -⟩ := hpk
  obtain ⟨Aan, can, rfl, -, -⟩ := han
  have e1 : pu.length = m.pu.length := by rw [← h.rows.puM, List.length_map]
  have e2 : dl.length = m.dl.length := by rw [← h.rows.dlM, List.length_map]
  have e3 : pk.length = m.pk.length := by rw [← h.rows.pkM, List.length_map]
  have e4 : an.length = m.an.length := by rw [← h.rows.anM, List.length_map]
  obtain ⟨no, hno⟩ : ∃ n, m.s.out.length = n := ⟨_, rfl⟩
  obtain ⟨nq, hnq⟩ : ∃ n, m.s.q.length = n := ⟨_, rfl⟩
  obtain ⟨ne, hne⟩ : ∃ n, m.r.early.length = n := ⟨_, rfl⟩
  obtain ⟨npu, hnpu⟩ : ∃ n, pu.length = n := ⟨_, rfl⟩
  obtain ⟨ndl, hndl⟩ : ∃ n, dl.length = n := ⟨_, rfl⟩
  obtain ⟨npk, hnpk⟩ : ∃ n, pk.length = n := ⟨_, rfl⟩
  obtain ⟨nan, hnan⟩ : ∃ n, an.length = n := ⟨_, rfl⟩
  rw [hno, hnq, hne, hnpu, hndl, hnpk, hnan] at h
  try rw [hno]
  try rw [hnq]
  try rw [hne]
  try rw [hnpu]
  try rw [hndl]
  try rw [hnpk]
  try rw [hnan]
  have HLN := Lib.hid (And.intro hno (And.intro hnq (And.intro hne (And.intro hnpu (And.intro hndl (And.intro hnpk hnan))))))
  have HLE := Lib.hid (And.intro e1 (And.intro e2 (And.intro e3 e4)))
  have lX := h.blk.lt
  have hbk := h.blk
  unfold runC at hbk
  dsimp only at hbk
  have HR := Lib.hid (And.intro h.rows hbk)
  clear hno hnq hne hnpu hndl hnpk hnan e1 e2 e3 e4 h hbk
  have HP := Lib.hid hp
  obtain ⟨vs, vp, rfl, hXs, Ap, cp, rfl, hB⟩ := hp
  obtain ⟨As, cs, rfl, -, -⟩ := hXs.form
  clear hXs hB
  obtain ⟨ns, hns⟩ : ∃ n, p.sel.length = n := ⟨_, rfl⟩
  obtain ⟨np, hnp⟩ : ∃ n, p.p.length = n := ⟨_, rfl⟩
  rw [hns, hnp] at HP ⊢
  clear hns hnp
  unfold pkC at HP ⊢
  have hbW : base ≤ W.heap.size := by omega
  obtain ⟨⟨r2, dl2, an2⟩, hr2⟩ : ∃ q, recvR m.r p = q := ⟨_, rfl⟩
  rw [hr2] at hd ha ⊢
  dsimp only at hd ha ⊢
  have HS2 := Lib.hid (And.intro hr2 (And.intro hs hsp))
  have hdn : ndl + dl2.length ≤ 100000 := by rw [← HLN.out.2.2.2.2.1, HLE.out.2.1]; exact hd
  have han : nan + an2.length ≤ 100000 := by rw [← HLN.out.2.2.2.2.2.2, HLE.out.2.2.2]; exact ha
  clear hs hsp hr2 hd ha
  have hbk : Below W.heap.size W (W.alloc (.cells #[.int .i64 p.kind, .int .i64 p.ses, .int .i64 p.seq, .int .i64 p.ack, .int .i64 p.cred, .slice As ns cs, .slice Ap np cp] 55)) := (Below.refl _ W).alloc (Nat.le_refl _) _
  have HP0 := Lib.hid (And.intro (HR.out.1.below hbk) (And.intro (HR.out.2.below hbk lX) (And.intro (hbk.mono hbW) (And.intro (Blk.new W 55 #[.int .i64 p.kind, .int .i64 p.ses, .int .i64 p.seq, .int .i64 p.ack, .int .i64 p.cred, .slice As ns cs, .slice Ap np cp]) (HP.out.up hbk)))))
  have hXK : X < W.heap.size := lX
  clear hbk
  go_enter Try.func40, Try.ntmps40
  go_upto_region 1 with fail
  obtain ⟨K, hK⟩ : ∃ x, x = W.heap.size := ⟨_, rfl⟩
  rw [← hK] at HP0 hXK ⊢
  clear hK
  generalize (W.alloc (.cells #[.int .i64 p.kind, .int .i64 p.ses, .int .i64 p.seq, .int .i64 p.ack, .int .i64 p.cred, .slice As ns cs, .slice Ap np cp] 55)) = W1 at *
  have hXW : X < W1.heap.size := HP0.out.2.1.lt
  have hKW : K < W1.heap.size := HP0.out.2.2.2.1.lt
  have hbW1 : base ≤ W1.heap.size := by omega
  have xr8 : W1.cell? ⟨X, 8, none⟩ = some (.int .i64 m.r.ses) := HP0.out.2.1.cell 8
  have xr9 : W1.cell? ⟨X, 9, none⟩ = some (.int .i64 m.r.lim) := HP0.out.2.1.cell 9
  have xr10 : W1.cell? ⟨X, 10, none⟩ = some (.int .i64 m.r.next) := HP0.out.2.1.cell 10
  have xr11 : W1.cell? ⟨X, 11, none⟩ = some (.slice Ae ne ce) := HP0.out.2.1.cell 11
  have xk0 : W1.cell? ⟨K, 0, none⟩ = some (.int .i64 p.kind) := HP0.out.2.2.2.1.cell 0
  have xk1 : W1.cell? ⟨K, 1, none⟩ = some (.int .i64 p.ses) := HP0.out.2.2.2.1.cell 1
  have xk2 : W1.cell? ⟨K, 2, none⟩ = some (.int .i64 p.seq) := HP0.out.2.2.2.1.cell 2
  have xk3 : W1.cell? ⟨K, 3, none⟩ = some (.int .i64 p.ack) := HP0.out.2.2.2.1.cell 3
  have xk4 : W1.cell? ⟨K, 4, none⟩ = some (.int .i64 p.cred) := HP0.out.2.2.2.1.cell 4
  have xk5 : W1.cell? ⟨K, 5, none⟩ = some (.slice As ns cs) := HP0.out.2.2.2.1.cell 5
  have xk6 : W1.cell? ⟨K, 6, none⟩ = some (.slice Ap np cp) := HP0.out.2.2.2.1.cell 6
  refine wp_region_lexV (.op 0 1 (.op 4 1 (.op 1 1 (.op 2 1 (.op 3 1 (.two 5 10 (.op 6 1 (.op 7 1 (.op 8 1 (.op 9 1 (.op 10 0 (.op 11 0 (.op 12 1 (.op 13 1 .nil)))))))) (.op 5 0 (.op 6 1 (.op 7 1 (.op 8 1 (.op 9 1 (.op 11 0 (.op 12 1 (.op 13 1 .nil)))))))))))))) [] (fun w9 => w9.cell? ⟨X, 8, none⟩ = some (.int .i64 m.r.ses) ∧ w9.cell? ⟨X, 9, none⟩ = some (.int .i64 m.r.lim) ∧ w9.cell? ⟨X, 10, none⟩ = some (.int .i64 m.r.next) ∧ w9.cell? ⟨X, 11, none⟩ = some (.slice Ae ne ce) ∧ w9.cell? ⟨K, 0, none⟩ = some (.int .i64 p.kind) ∧ w9.cell? ⟨K, 1, none⟩ = some (.int .i64 p.ses) ∧ w9.cell? ⟨K, 2, none⟩ = some (.int .i64 p.seq) ∧ w9.cell? ⟨K, 3, none⟩ = some (.int .i64 p.ack) ∧ w9.cell? ⟨K, 4, none⟩ = some (.int .i64 p.cred) ∧ w9.cell? ⟨K, 5, none⟩ = some (.slice As ns cs) ∧ w9.cell? ⟨K, 6, none⟩ = some (.slice Ap np cp)) (by kernel_rfl) (by kernel_rfl) (by kernel_rfl) (by kernel_rfl) (by kernel_rfl) ⟨xr8, xr9, xr10, xr11, xk0, xk1, xk2, xk3, xk4, xk5, xk6⟩ ?_
  repeat ((first | (refine lexV_read rfl (by rfl) (by first | exact wanted_none rfl | exact wanted_some (b := true) (c := true) rfl rfl rfl | exact wanted_some (b := false) (c := false) rfl rfl rfl) (by intro w9 hS9; (try dsimp only at hS9); go_simp <;> with_reducible rfl) ?_) | (refine lexV_skip rfl (fun _ => trivial) (by first | exact wanted_some (b := true) (c := false) rfl rfl rfl | exact wanted_some (b := false) (c := true) rfl rfl rfl) ?_) | (refine lexV_builtin rfl (fun _ => trivial) (by first | exact wanted_none rfl | exact wanted_some (b := true) (c := true) rfl rfl rfl | exact wanted_some (b := false) (c := false) rfl rfl rfl) (by intro w9 hS9; (try dsimp only at hS9); go_simp <;> with_reducible rfl) ?_)); (try simp only [Act.put, List.getElem_toArray, List.getElem_cons_succ, List.getElem_cons_zero, List.setIfInBounds_toArray, List.set_cons_zero, List.set_cons_succ]))
  refine lexV_two ?_ ?_
  · have hv1 : RcV W1.drew base m.r (.agg (rcC m.r (.slice Ae ne ce))) := ⟨_, rfl, (HP0.out.1.below (Below.refl _ W1).drew).re⟩
    have hc := Receive_any m.r p _ _ base W1.drew hv1 HS2.out.2.1 (HP0.out.2.2.2.2.up (Below.refl _ W1).drew) HS2.out.2.2 hbW1
    unfold rcC at hc
    clear hv1
    refine lexV_eff rfl (fun _ => trivial) ?_
    go_simp
    refine CallsIn.mono ((callsIn_wide (n := 0)).2 hc) ?_
    rintro e w2 ⟨⟨sv, qv, kv, rfl, hsv, hqv, hkv⟩, hb2⟩
    dsimp only
    rw [HS2.out.1] at hsv hqv hkv
    dsimp only at hsv hqv hkv
    obtain ⟨ve2, rfl, hE2⟩ := hsv
    obtain ⟨Ae2, ce2, rfl, -, -⟩ := hE2.form
    obtain ⟨qes, hQV, hqm⟩ := hqv
    obtain ⟨Aq2, cq2, rfl, -, -, hQR⟩ := hQV.val
    obtain ⟨kes, hKV, hkm⟩ := hkv
    obtain ⟨Ak2, ck2, rfl, -, -, hKR⟩ := hKV.val
    obtain ⟨ne2, hne2⟩ : ∃ n, r2.early.length = n := ⟨_, rfl⟩
    obtain ⟨nq2, hnq2⟩ : ∃ n, qes.length = n := ⟨_, rfl⟩
    obtain ⟨nk2, hnk2⟩ : ∃ n, kes.length = n := ⟨_, rfl⟩
    rw [hne2] at hE2 ⊢
    rw [hnq2] at hQR ⊢
    rw [hnk2] at hKR ⊢
    have hqn : ndl + nq2 ≤ 100000 := by rw [← hnq2, ← List.length_map (f := Qe.p), hqm]; exact hdn
    have hkn : nan + nk2 ≤ 100000 := by rw [← hnk2, ← List.length_map (f := Ke.pm), hkm]; exact han
    unfold rcC
    have hk12 := HP0.out.2.1.drew.below hb2 hXW
    have hkk2 := HP0.out.2.2.2.1.drew.below hb2 hKW
    have HP1 := Lib.hid (And.intro ((HP0.out.1.below (Below.refl _ W1).drew).below hb2) (And.intro hk12 (And.intro hE2 (And.intro (And.intro hQR (And.intro hQV.el hqm)) (And.intro (And.intro hKR (And.intro hKV.el hkm)) (HP0.out.2.2.1.drew.trans (hb2.mono hbW1)))))))
    have HNK := Lib.hid (And.intro hnq2 hnk2)
    have ys8 : w2.cell? ⟨X, 8, none⟩ = some (.int .i64 m.r.ses) := hk12.cell 8
    have ys9 : w2.cell? ⟨X, 9, none⟩ = some (.int .i64 m.r.lim) := hk12.cell 9
    have ys10 : w2.cell? ⟨X, 10, none⟩ = some (.int .i64 m.r.next) := hk12.cell 10
    have ys11 : w2.cell? ⟨X, 11, none⟩ = some (.slice Ae ne ce) := hk12.cell 11
    have yk0 : w2.cell? ⟨K, 0, none⟩ = some (.int .i64 p.kind) := hkk2.cell 0
    have yk1 : w2.cell? ⟨K, 1, none⟩ = some (.int .i64 p.ses) := hkk2.cell 1
    have yk2 : w2.cell? ⟨K, 2, none⟩ = some (.int .i64 p.seq) := hkk2.cell 2
    have yk3 : w2.cell? ⟨K, 3, none⟩ = some (.int .i64 p.ack) := hkk2.cell 3
    have yk4 : w2.cell? ⟨K, 4, none⟩ = some (.int .i64 p.cred) := hkk2.cell 4
    have yk5 : w2.cell? ⟨K, 5, none⟩ = some (.slice As ns cs) := hkk2.cell 5
    have yk6 : w2.cell? ⟨K, 6, none⟩ = some (.slice Ap np cp) := hkk2.cell 6
    have lX2 := hk12.lt
    have lK2 := hkk2.lt
    have hbw2 : base ≤ w2.heap.size := Nat.le_trans hbW1 hb2.size
    clear hc hk12 hkk2 hE2 hQV hQR hqm hKV hKR hkm hne2 hnq2 hnk2 hb2 xr8 xr9 xr10 xr11 xk0 xk1 xk2 xk3 xk4 xk5 xk6
    refine ⟨⟨ys8, ys9, ys10, ys11, yk0, yk1, yk2, yk3, yk4, yk5, yk6⟩, ?_⟩
    (try simp only [Act.put, List.getElem_toArray, List.getElem_cons_succ, List.getElem_cons_zero, List.setIfInBounds_toArray, List.set_cons_zero, List.set_cons_succ])
    repeat ((first | (refine lexV_read rfl (by rfl) (by first | exact wanted_none rfl | exact wanted_some (b := true) (c := true) rfl rfl rfl | exact wanted_some (b := false) (c := false) rfl rfl rfl) (by intro w9 hS9; (try dsimp only at hS9); go_simp <;> with_reducible rfl) ?_) | (refine lexV_skip rfl (fun _ => trivial) (by first | exact wanted_some (b := true) (c := false) rfl rfl rfl | exact wanted_some (b := false) (c := true) rfl rfl rfl) ?_) | (refine lexV_builtin rfl (fun _ => trivial) (by first | exact wanted_none rfl | exact wanted_some (b := true) (c := true) rfl rfl rfl | exact wanted_some (b := false) (c := false) rfl rfl rfl) (by intro w9 hS9; (try dsimp only at hS9); go_simp <;> with_reducible rfl) ?_)); (try simp only [Act.put, List.getElem_toArray, List.getElem_cons_succ, List.getElem_cons_zero, List.setIfInBounds_toArray, List.set_cons_zero, List.set_cons_succ]))
    refine lexV_eff rfl (fun _ => trivial) ?_
    go_simp
    (try simp only [Act.put, List.getElem_toArray, List.getElem_cons_succ, List.getElem_cons_zero, List.setIfInBounds_toArray, List.set_cons_zero, List.set_cons_succ])
    refine lexV_eff rfl (fun _ => trivial) ?_
    go_simp
    (try simp only [Act.put, List.getElem_toArray, List.getElem_cons_succ, List.getElem_cons_zero, List.setIfInBounds_toArray, List.set_cons_zero, List.set_cons_succ])
    repeat ((first | (refine lexV_read rfl (by rfl) (by first | exact wanted_none rfl | exact wanted_some (b := true) (c := true) rfl rfl rfl | exact wanted_some (b := false) (c := false) rfl rfl rfl) (by intro w9 hS9; (try dsimp only at hS9); go_simp <;> with_reducible rfl) ?_) | (refine lexV_skip rfl (fun _ => trivial) (by first | exact wanted_some (b := true) (c := false) rfl rfl rfl | exact wanted_some (b := false) (c := true) rfl rfl rfl) ?_) | (refine lexV_builtin rfl (fun _ => trivial) (by first | exact wanted_none rfl | exact wanted_some (b := true) (c := true) rfl rfl rfl | exact wanted_some (b := false) (c := false) rfl rfl rfl) (by intro w9 hS9; (try dsimp only at hS9); go_simp <;> with_reducible rfl) ?_)); (try simp only [Act.put, List.getElem_toArray, List.getElem_cons_succ, List.getElem_cons_zero, List.setIfInBounds_toArray, List.set_cons_zero, List.set_cons_succ]))
    refine lexV_nil (panQ_normal ?_)
    clear ys8 ys9 ys10 ys11 yk0 yk1 yk2 yk3 yk4 yk5 yk6
    have hb3 : Below w2.heap.size w2 (w2.alloc (.cells #[.int .i64 r2.ses, .int .i64 r2.lim, .int .i64 r2.next, .slice Ae2 ne2 ce2] 33)) := (Below.refl _ w2).alloc (Nat.le_refl _) _
    have hr3 := (HP1.out.1.below hb3).receiver (r := r2) (HP1.out.2.2.1.up hb3)
    have hkx3 := HP1.out.2.1.below hb3 lX2
    have hkq3 := Blk.new w2 33 #[.int .i64 r2.ses, .int .i64 r2.lim, .int .i64 r2.next, .slice Ae2 ne2 ce2]
    have hqr3 := And.intro (HP1.out.2.2.2.1.1.up hb3) (fun (e : Qe) he => qeR_ab (T := []) (by simp) _ _ _ _ (Turn.of_below hb3) (HP1.out.2.2.2.1.2.1 e he))
    have hkr3 := And.intro (HP1.out.2.2.2.2.1.1.up hb3) (fun (e : Ke) he => keR_ab (T := []) (by simp) (by simp) _ _ _ _ (Turn.of_below hb3) (HP1.out.2.2.2.2.1.2.1 e he))
    have hbl3 := HP1.out.2.2.2.2.2.trans (hb3.mono hbw2)
    have hXB2 : X < w2.heap.size := lX2
    clear hb3
    have HP2 := Lib.hid (And.intro hr3 (And.intro hkx3 (And.intro hkq3 (And.intro hqr3 (And.intro hkr3 hbl3)))))
    have HKM := Lib.hid (And.intro HP1.out.2.2.2.1.2.2 HP1.out.2.2.2.2.1.2.2)
    clear hr3 hkx3 hkq3 hqr3 hkr3 hbl3 HP1 HP0
    go_upto_region 2 with fail
    obtain ⟨B2, hB3⟩ : ∃ x, x = w2.heap.size := ⟨_, rfl⟩
    rw [← hB3] at HP2 lX2 hXB2 hbw2 ⊢
    clear hB3
    generalize (w2.alloc (.cells #[.int .i64 r2.ses, .int .i64 r2.lim, .int .i64 r2.next, .slice Ae2 ne2 ce2] 33)) = W2 at *
    have xb0 : W2.cell? ⟨B2, 0, none⟩ = some (.int .i64 r2.ses) := HP2.out.2.2.1.cell 0
    have xb1 : W2.cell? ⟨B2, 1, none⟩ = some (.int .i64 r2.lim) := HP2.out.2.2.1.cell 1
    have xb2 : W2.cell? ⟨B2, 2, none⟩ = some (.int .i64 r2.next) := HP2.out.2.2.1.cell 2
    have xb3 : W2.cell? ⟨B2, 3, none⟩ = some (.slice Ae2 ne2 ce2) := HP2.out.2.2.1.cell 3
    have xr13 : W2.cell? ⟨X, 13, none⟩ = some (.slice Adl ndl cdl) := HP2.out.2.1.cell 13
    have xr15 : W2.cell? ⟨X, 15, none⟩ = some (.slice Aan nan can) := HP2.out.2.1.cell 15
    have lX3 := HP2.out.2.1.lt
    have lB2 := HP2.out.2.2.1.lt
    refine wp_region_lexY [(0, 2), (1, 2), (2, 2), (3, 1), (4, 2), (8, 2), (10, 2), (14, 2), (5, 2), (11, 2), (6, 2), (12, 2), (7, 1), (13, 1), (9, 0), (15, 0), (16, 2), (17, 2), (18, 0), (19, 2), (20, 2), (21, 0), (22, 2), (23, 2), (24, 0)] [18, 21, 24] (fun w9 => w9.cell? ⟨B2, 0, none⟩ = some (.int .i64 r2.ses) ∧ w9.cell? ⟨B2, 1, none⟩ = some (.int .i64 r2.lim) ∧ w9.cell? ⟨B2, 2, none⟩ = some (.int .i64 r2.next) ∧ w9.cell? ⟨B2, 3, none⟩ = some (.slice Ae2 ne2 ce2) ∧ w9.cell? ⟨X, 13, none⟩ = some (.slice Adl ndl cdl) ∧ w9.cell? ⟨X, 15, none⟩ = some (.slice Aan nan can)) (by kernel_rfl) (by kernel_rfl) (by kernel_rfl) (by kernel_rfl) (by kernel_rfl) ⟨xb0, xb1, xb2, xb3, xr13, xr15⟩ ?_
    repeat ((first | (refine lexY_late rfl (fun _ => trivial) (by rfl) (by intro w9; go_simp <;> with_reducible rfl) ?_) | (refine lexY_read rfl (by rfl) (by first | exact wanted_none rfl | exact wanted_some (b := true) (c := true) rfl rfl rfl | exact wanted_some (b := false) (c := false) rfl rfl rfl) (by intro w9 hS9; (try dsimp only at hS9); go_simp <;> with_reducible rfl) ?_) | (refine lexY_skip rfl (fun _ => trivial) (by first | exact wanted_some (b := true) (c := false) rfl rfl rfl | exact wanted_some (b := false) (c := true) rfl rfl rfl) ?_) | (refine lexY_builtin rfl (fun _ => trivial) (by first | exact wanted_none rfl | exact wanted_some (b := true) (c := true) rfl rfl rfl | exact wanted_some (b := false) (c := false) rfl rfl rfl) (by intro w9 hS9; (try dsimp only at hS9); go_simp <;> with_reducible rfl) ?_)); (try simp only [Act.put, List.getElem_toArray, List.getElem_cons_succ, List.getElem_cons_zero, List.setIfInBounds_toArray, List.set_cons_zero, List.set_cons_succ]))
    have hbN : Below W2.heap.size W2 W2.drew := (Below.refl _ W2).drew
    have HN := Lib.hid (And.intro (HP2.out.1.below hbN) (And.intro (HP2.out.2.1.below hbN lX3) (And.intro (HP2.out.2.2.1.drew) (And.intro (And.intro (HP2.out.2.2.2.1.1.up hbN) (fun (e : Qe) he => qeR_ab (T := []) (by simp) _ _ _ _ (Turn.of_below hbN) (HP2.out.2.2.2.1.2 e he))) (And.intro (And.intro (HP2.out.2.2.2.2.1.1.up hbN) (fun (e : Ke) he => keR_ab (T := []) (by simp) (by simp) _ _ _ _ (Turn.of_below hbN) (HP2.out.2.2.2.2.1.2 e he))) HP2.out.2.2.2.2.2.drew)))))
    have hbWN : base ≤ W2.drew.heap.size := by show base ≤ W2.heap.size; omega
    have hXN : X < W2.drew.heap.size := lX3
    have hln1 := HLN.out.2.2.2.2.1
    have hln2 := HLN.out.2.2.2.2.2.2
    have hE1 : ∀ e ∈ kes, ∀ v ∈ encK e, v.oneCell' = true := fun e he => by
      obtain ⟨As, cs, hvs, -, -⟩ := XsV.form (HN.out.2.2.2.2.1.2 e he).1
      exact Fr.encK_one e _ _ _ hvs
    have zr13 : W2.drew.cell? ⟨X, 13, none⟩ = some (.slice Adl ndl cdl) := xr13
    have zr15 : W2.drew.cell? ⟨X, 15, none⟩ = some (.slice Aan nan can) := xr15
    have zb0 : W2.drew.cell? ⟨B2, 0, none⟩ = some (.int .i64 r2.ses) := xb0
    have zb1 : W2.drew.cell? ⟨B2, 1, none⟩ = some (.int .i64 r2.lim) := xb1
    have zb2 : W2.drew.cell? ⟨B2, 2, none⟩ = some (.int .i64 r2.next) := xb2
    have zb3 : W2.drew.cell? ⟨B2, 3, none⟩ = some (.slice Ae2 ne2 ce2) := xb3
    have lB3 : B2 < W2.drew.heap.size := lB2
    clear hbN HP2 xr13 xr15 lX3 lB2 xb0 xb1 xb2 xb3
    generalize W2.drew = V2 at *
    refine lexY_pushN (E := encQ) (R := QeR) (t := 42) (sz := 1) (base := base) (low := base) (l := dl) (l2 := qes) (v := .slice Adl ndl cdl) rfl (fun _ => trivial) _ _ 23 (by rfl) _ 24 Try.underlying23 info42 rfl (by omega) (fun e _ => encQ_one e) (by rfl) HN.out.1.dl (Nat.le_refl _) (qeR_ab (by simp)) HN.out.2.2.2.1.2 (by rfl) HN.out.2.2.2.1.1.rd HNK.out.1 (by omega) (by omega) hbWN ?_
    intro vw8 w8 hp8
    obtain ⟨Ad9, cd9, rfl, -, -⟩ := hp8.own.vform
    have hrw8 := HN.out.1.pushDl hp8
    obtain ⟨nd9, hnd9⟩ : ∃ n, (dl ++ qes).length = n := ⟨_, rfl⟩
    rw [hnd9] at hrw8 ⊢
    clear hnd9
    have hkw8 := HN.out.2.1.turn hp8.turn (by simp)
    have hqw8 := HN.out.2.2.1.turn hp8.turn (by simp)
    have hbbw8 := Turn.belowT (B := base) HN.out.2.2.2.2.2 hp8.turn (Nat.le_refl _) hbWN
    have hbWw8 := Nat.le_trans hbWN hp8.turn.size
    have hrestw8 := And.intro (HN.out.2.2.2.2.1.1.turn hp8.turn (by simp)) (fun (e : Ke) he => keR_ab (T := [42]) (by simp) (by simp) _ _ _ _ hp8.turn (HN.out.2.2.2.2.1.2 e he))
    have mb0 : w8.cell? ⟨B2, 0, none⟩ = some (.int .i64 r2.ses) := hqw8.cell 0
    have mb1 : w8.cell? ⟨B2, 1, none⟩ = some (.int .i64 r2.lim) := hqw8.cell 1
    have mb2 : w8.cell? ⟨B2, 2, none⟩ = some (.int .i64 r2.next) := hqw8.cell 2
    have mb3 : w8.cell? ⟨B2, 3, none⟩ = some (.slice Ae2 ne2 ce2) := hqw8.cell 3
    have mr13 : w8.cell? ⟨X, 13, none⟩ = some (.slice Adl ndl cdl) := hkw8.cell 13
    have mr15 : w8.cell? ⟨X, 15, none⟩ = some (.slice Aan nan can) := hkw8.cell 15
    refine ⟨.inr ⟨mb0, mb1, mb2, mb3, mr13, mr15⟩, ?_⟩
    (try simp only [Act.put, List.getElem_toArray, List.getElem_cons_succ, List.getElem_cons_zero, List.setIfInBounds_toArray, List.set_cons_zero, List.set_cons_succ])
    repeat ((first | (refine lexY_late rfl (fun _ => trivial) (by rfl) (by intro w9; go_simp <;> with_reducible rfl) ?_) | (refine lexY_read rfl (by rfl) (by first | exact wanted_none rfl | exact wanted_some (b := true) (c := true) rfl rfl rfl | exact wanted_some (b := false) (c := false) rfl rfl rfl) (by intro w9 hS9; (try dsimp only at hS9); go_simp <;> with_reducible rfl) ?_) | (refine lexY_skip rfl (fun _ => trivial) (by first | exact wanted_some (b := true) (c := false) rfl rfl rfl | exact wanted_some (b := false) (c := true) rfl rfl rfl) ?_) | (refine lexY_builtin rfl (fun _ => trivial) (by first | exact wanted_none rfl | exact wanted_some (b := true) (c := true) rfl rfl rfl | exact wanted_some (b := false) (c := false) rfl rfl rfl) (by intro w9 hS9; (try dsimp only at hS9); go_simp <;> with_reducible rfl) ?_)); (try simp only [Act.put, List.getElem_toArray, List.getElem_cons_succ, List.getElem_cons_zero, List.setIfInBounds_toArray, List.set_cons_zero, List.set_cons_succ]))
    refine lexY_pushN (E := encK) (R := KeR) (t := 55) (sz := 7) (base := base) (low := base) (l := an) (l2 := kes) (v := .slice Aan nan can) rfl (fun _ => trivial) _ _ 48 (by rfl) _ 88 Try.underlying48 info55 rfl (by omega) hE1 (by rfl) hrw8.an (Nat.le_refl _) (keR_ab (by simp) (by simp)) hrestw8.2 (by rfl) hrestw8.1.rd HNK.out.2 (by omega) (by omega) hbWw8 ?_
    intro vw9 w9 hp9
    obtain ⟨An9, cn9, rfl, -, -⟩ := hp9.own.vform
    have hrw9 := hrw8.pushAn hp9
    obtain ⟨nn9, hnn9⟩ : ∃ n, (an ++ kes).length = n := ⟨_, rfl⟩
    rw [hnn9] at hrw9 ⊢
    clear hnn9
    have hkw9 := hkw8.turn hp9.turn (by simp)
    have hqw9 := hqw8.turn hp9.turn (by simp)
    have hbbw9 := Turn.belowT (B := base) hbbw8 hp9.turn (Nat.le_refl _) hbWw8
    have hbWw9 := Nat.le_trans hbWw8 hp9.turn.size
    have nb0 : w9.cell? ⟨B2, 0, none⟩ = some (.int .i64 r2.ses) := hqw9.cell 0
    have nb1 : w9.cell? ⟨B2, 1, none⟩ = some (.int .i64 r2.lim) := hqw9.cell 1
    have nb2 : w9.cell? ⟨B2, 2, none⟩ = some (.int .i64 r2.next) := hqw9.cell 2
    have nb3 : w9.cell? ⟨B2, 3, none⟩ = some (.slice Ae2 ne2 ce2) := hqw9.cell 3
    have nr13 : w9.cell? ⟨X, 13, none⟩ = some (.slice Adl ndl cdl) := hkw9.cell 13
    have nr15 : w9.cell? ⟨X, 15, none⟩ = some (.slice Aan nan can) := hkw9.cell 15
    have HQ9 := Lib.hid (And.intro hrw9 (And.intro hkw9 hbbw9))
    have nx8 : w9.cell? ⟨X, 8, none⟩ = some (.int .i64 m.r.ses) := hkw9.cell 8
    have nx9 : w9.cell? ⟨X, 9, none⟩ = some (.int .i64 m.r.lim) := hkw9.cell 9
    have nx10 : w9.cell? ⟨X, 10, none⟩ = some (.int .i64 m.r.next) := hkw9.cell 10
    have nx11 : w9.cell? ⟨X, 11, none⟩ = some (.slice Ae ne ce) := hkw9.cell 11
    have nz8 := hkw9.frozen 8
    have nz9 := hkw9.frozen 9
    have nz10 := hkw9.frozen 10
    have nz11 := hkw9.frozen 11
    have nz13 := hkw9.frozen 13
    have nz15 := hkw9.frozen 15
    have lX9 := hkw9.lt
    have lB9 := hqw9.lt
    clear hrw9 hkw9 hqw9 hbbw9 hp9 mb0 mb1 mb2 mb3 mr13 mr15
    refine ⟨.inr ⟨nb0, nb1, nb2, nb3, nr13, nr15⟩, ?_⟩
    (try simp only [Act.put, List.getElem_toArray, List.getElem_cons_succ, List.getElem_cons_zero, List.setIfInBounds_toArray, List.set_cons_zero, List.set_cons_succ])
    repeat ((first | (refine lexY_late rfl (fun _ => trivial) (by rfl) (by intro w9; go_simp <;> with_reducible rfl) ?_) | (refine lexY_read rfl (by rfl) (by first | exact wanted_none rfl | exact wanted_some (b := true) (c := true) rfl rfl rfl | exact wanted_some (b := false) (c := false) rfl rfl rfl) (by intro w9 hS9; (try dsimp only at hS9); go_simp <;> with_reducible rfl) ?_) | (refine lexY_skip rfl (fun _ => trivial) (by first | exact wanted_some (b := true) (c := false) rfl rfl rfl | exact wanted_some (b := false) (c := true) rfl rfl rfl) ?_) | (refine lexY_builtin rfl (fun _ => trivial) (by first | exact wanted_none rfl | exact wanted_some (b := true) (c := true) rfl rfl rfl | exact wanted_some (b := false) (c := false) rfl rfl rfl) (by intro w9 hS9; (try dsimp only at hS9); go_simp <;> with_reducible rfl) ?_)); (try simp only [Act.put, List.getElem_toArray, List.getElem_cons_succ, List.getElem_cons_zero, List.setIfInBounds_toArray, List.set_cons_zero, List.set_cons_succ]))
    refine lexY_eff rfl (fun _ => trivial) ?_
    go_simp
    (try simp only [Act.put, List.getElem_toArray, List.getElem_cons_succ, List.getElem_cons_zero, List.setIfInBounds_toArray, List.set_cons_zero, List.set_cons_succ])
    repeat ((first | (refine lexY_late rfl (fun _ => trivial) (by rfl) (by intro w9; go_simp <;> with_reducible rfl) ?_) | (refine lexY_read rfl (by rfl) (by first | exact wanted_none rfl | exact wanted_some (b := true) (c := true) rfl rfl rfl | exact wanted_some (b := false) (c := false) rfl rfl rfl) (by intro w9 hS9; (try dsimp only at hS9); go_simp <;> with_reducible rfl) ?_) | (refine lexY_skip rfl (fun _ => trivial) (by first | exact wanted_some (b := true) (c := false) rfl rfl rfl | exact wanted_some (b := false) (c := true) rfl rfl rfl) ?_) | (refine lexY_builtin rfl (fun _ => trivial) (by first | exact wanted_none rfl | exact wanted_some (b := true) (c := true) rfl rfl rfl | exact wanted_some (b := false) (c := false) rfl rfl rfl) (by intro w9 hS9; (try dsimp only at hS9); go_simp <;> with_reducible rfl) ?_)); (try simp only [Act.put, List.getElem_toArray, List.getElem_cons_succ, List.getElem_cons_zero, List.setIfInBounds_toArray, List.set_cons_zero, List.set_cons_succ]))
    refine lexY_eff rfl (fun _ => trivial) ?_
    go_simp
    (try simp only [Act.put, List.getElem_toArray, List.getElem_cons_succ, List.getElem_cons_zero, List.setIfInBounds_toArray, List.set_cons_zero, List.set_cons_succ])
    repeat ((first | (refine lexY_late rfl (fun _ => trivial) (by rfl) (by intro w9; go_simp <;> with_reducible rfl) ?_) | (refine lexY_read rfl (by rfl) (by first | exact wanted_none rfl | exact wanted_some (b := true) (c := true) rfl rfl rfl | exact wanted_some (b := false) (c := false) rfl rfl rfl) (by intro w9 hS9; (try dsimp only at hS9); go_simp <;> with_reducible rfl) ?_) | (refine lexY_skip rfl (fun _ => trivial) (by first | exact wanted_some (b := true) (c := false) rfl rfl rfl | exact wanted_some (b := false) (c := true) rfl rfl rfl) ?_) | (refine lexY_builtin rfl (fun _ => trivial) (by first | exact wanted_none rfl | exact wanted_some (b := true) (c := true) rfl rfl rfl | exact wanted_some (b := false) (c := false) rfl rfl rfl) (by intro w9 hS9; (try dsimp only at hS9); go_simp <;> with_reducible rfl) ?_)); (try simp only [Act.put, List.getElem_toArray, List.getElem_cons_succ, List.getElem_cons_zero, List.setIfInBounds_toArray, List.set_cons_zero, List.set_cons_succ]))
    refine lexY_eff rfl (fun _ => trivial) ?_
    go_simp
    (try simp only [Act.put, List.getElem_toArray, List.getElem_cons_succ, List.getElem_cons_zero, List.setIfInBounds_toArray, List.set_cons_zero, List.set_cons_succ])
    refine lexY_nil (panQ_normal ?_)
    have hk2 := set73r_blk HQ9.out.2.1 (.int .i64 r2.ses) (.int .i64 r2.lim) (.int .i64 r2.next) (.slice Ae2 ne2 ce2)
    have hT2 := set73r_turn HQ9.out.2.1 hX (.int .i64 r2.ses) (.int .i64 r2.lim) (.int .i64 r2.next) (.slice Ae2 ne2 ce2)
    have hT3 := set73_turn hk2 hX 13 (.slice Ad9 nd9 cd9)
    have hk3 := hk2.set_ 13 (.slice Ad9 nd9 cd9)
    have hT4 := set73_turn hk3 hX 15 (.slice An9 nn9 cn9)
    have hk4 := hk3.set_ 15 (.slice An9 nn9 cn9)
    simp only [List.setIfInBounds_toArray, List.set_cons_zero, List.set_cons_succ] at hk4
    have hrF := ((HQ9.out.1.t73 hT2).t73 hT3).t73 hT4
    have hbF := Turn.belowT (B := base) HQ9.out.2.2 ((hT2.trans hT3).trans hT4) (Nat.le_refl _) hbWw9
    rw [HKM.out.1, HKM.out.2] at hrF
    have HF := Lib.hid (And.intro hrF (And.intro hk4 hbF))
    clear hk2 hT2 hT3 hk3 hT4 hk4 hrF hbF
    go_wp2_with fail
    ((try simp only [Exit.inBlock, Exit.then]); first | refine bodyPost_ret (results_none rfl _ _ _) rfl ?_ | refine bodyPost_end (results_none rfl _ _ _) rfl ?_)
    exact ⟨⟨_, rfl⟩, ⟨.slice Ae2 ne2 ce2, .slice Ad9 nd9 cd9, .slice An9 nn9 cn9, dl ++ qes, an ++ kes, ⟨HF.out.1, HF.out.2.1⟩⟩, HF.out.2.2⟩
  · have hbz : Below W1.heap.size W1 (W1.alloc (.cells #[.int .i64 0, .int .i64 0, .int .i64 0, .slice none 0 0] 33)).drew := ((Below.refl _ W1).alloc (Nat.le_refl _) _).drew
    have HZ := Lib.hid (And.intro (HP0.out.1.below hbz) (And.intro (HP0.out.2.1.below hbz hXW) (And.intro (HP0.out.2.2.1.trans (hbz.mono hbW1)) (And.intro (Blk.new W1 33 #[.int .i64 0, .int .i64 0, .int .i64 0, .slice none 0 0]).drew (And.intro (HP0.out.2.2.2.1.below hbz hKW) (HP0.out.2.2.2.2.up hbz))))))
    have hXV : X < (W1.alloc (.cells #[.int .i64 0, .int .i64 0, .int .i64 0, .slice none 0 0] 33)).drew.heap.size := Nat.lt_of_lt_of_le hXW hbz.size
    have hKV2 : K < (W1.alloc (.cells #[.int .i64 0, .int .i64 0, .int .i64 0, .slice none 0 0] 33)).drew.heap.size := Nat.lt_of_lt_of_le hKW hbz.size
    have hbV : base ≤ (W1.alloc (.cells #[.int .i64 0, .int .i64 0, .int .i64 0, .slice none 0 0] 33)).drew.heap.size := Nat.le_trans hbW1 hbz.size
    clear hbz
    refine lexV_eff rfl (fun _ => trivial) ?_
    go_simp
    (try simp only [Act.put, List.getElem_toArray, List.getElem_cons_succ, List.getElem_cons_zero, List.setIfInBounds_toArray, List.set_cons_zero, List.set_cons_succ])
    repeat ((first | (refine lexV_read rfl (by rfl) (by first | exact wanted_none rfl | exact wanted_some (b := true) (c := true) rfl rfl rfl | exact wanted_some (b := false) (c := false) rfl rfl rfl) (by intro w9 hS9; (try dsimp only at hS9); go_simp <;> with_reducible rfl) ?_) | (refine lexV_skip rfl (fun _ => trivial) (by first | exact wanted_some (b := true) (c := false) rfl rfl rfl | exact wanted_some (b := false) (c := true) rfl rfl rfl) ?_) | (refine lexV_builtin rfl (fun _ => trivial) (by first | exact wanted_none rfl | exact wanted_some (b := true) (c := true) rfl rfl rfl | exact wanted_some (b := false) (c := false) rfl rfl rfl) (by intro w9 hS9; (try dsimp only at hS9); go_simp <;> with_reducible rfl) ?_)); (try simp only [Act.put, List.getElem_toArray, List.getElem_cons_succ, List.getElem_cons_zero, List.setIfInBounds_toArray, List.set_cons_zero, List.set_cons_succ]))
    obtain ⟨B2, hB3⟩ : ∃ x, x = W1.heap.size := ⟨_, rfl⟩
    have hXB2 : X < B2 := by rw [hB3]; exact hXW
    have hKB2 : K < B2 := by rw [hB3]; exact hKW
    have hbB2 : base ≤ B2 := by rw [hB3]; exact hbW1
    rw [← hB3] at HZ ⊢
    clear hB3
    generalize (W1.alloc (.cells #[.int .i64 0, .int .i64 0, .int .i64 0, .slice none 0 0] 33)).drew = V at *
    have hv1 : RcV V base m.r (.agg (rcC m.r (.slice Ae ne ce))) := ⟨_, rfl, HZ.out.1.re⟩
    have hc := Receive_any m.r p _ _ base V hv1 HS2.out.2.1 (HZ.out.2.2.2.2.2) HS2.out.2.2 hbV
    unfold rcC at hc
    clear hv1
    refine lexV_eff rfl (fun _ => trivial) ?_
    go_simp
    refine CallsIn.mono ((callsIn_wide (n := 0)).2 hc) ?_
    rintro e w2 ⟨⟨sv, qv, kv, rfl, hsv, hqv, hkv⟩, hb2⟩
    dsimp only
    rw [HS2.out.1] at hsv hqv hkv
    dsimp only at hsv hqv hkv
    obtain ⟨ve2, rfl, hE2⟩ := hsv
    obtain ⟨Ae2, ce2, rfl, -, -⟩ := hE2.form
    obtain ⟨qes, hQV, hqm⟩ := hqv
    obtain ⟨Aq2, cq2, rfl, -, -, hQR⟩ := hQV.val
    obtain ⟨kes, hKV, hkm⟩ := hkv
    obtain ⟨Ak2, ck2, rfl, -, -, hKR⟩ := hKV.val
    obtain ⟨ne2, hne2⟩ : ∃ n, r2.early.length = n := ⟨_, rfl⟩
    obtain ⟨nq2, hnq2⟩ : ∃ n, qes.length = n := ⟨_, rfl⟩
    obtain ⟨nk2, hnk2⟩ : ∃ n, kes.length = n := ⟨_, rfl⟩
    rw [hne2] at hE2 ⊢
    rw [hnq2] at hQR ⊢
    rw [hnk2] at hKR ⊢
    have hqn : ndl + nq2 ≤ 100000 := by rw [← hnq2, ← List.length_map (f := Qe.p), hqm]; exact hdn
    have hkn : nan + nk2 ≤ 100000 := by rw [← hnk2, ← List.length_map (f := Ke.pm), hkm]; exact han
    unfold rcC
    have hk12 := HZ.out.2.1.below hb2 hXV
    have hkk2 := HZ.out.2.2.2.2.1.below hb2 hKV2
    have HP1 := Lib.hid (And.intro (HZ.out.1.below hb2) (And.intro hk12 (And.intro hE2 (And.intro (And.intro hQR (And.intro hQV.el hqm)) (And.intro (And.intro hKR (And.intro hKV.el hkm)) (HZ.out.2.2.1.trans (hb2.mono hbV)))))))
    have HNK := Lib.hid (And.intro hnq2 hnk2)
    have ys8 : w2.cell? ⟨X, 8, none⟩ = some (.int .i64 m.r.ses) := hk12.cell 8
    have ys9 : w2.cell? ⟨X, 9, none⟩ = some (.int .i64 m.r.lim) := hk12.cell 9
    have ys10 : w2.cell? ⟨X, 10, none⟩ = some (.int .i64 m.r.next) := hk12.cell 10
    have ys11 : w2.cell? ⟨X, 11, none⟩ = some (.slice Ae ne ce) := hk12.cell 11
    have yk0 : w2.cell? ⟨K, 0, none⟩ = some (.int .i64 p.kind) := hkk2.cell 0
    have yk1 : w2.cell? ⟨K, 1, none⟩ = some (.int .i64 p.ses) := hkk2.cell 1
    have yk2 : w2.cell? ⟨K, 2, none⟩ = some (.int .i64 p.seq) := hkk2.cell 2
    have yk3 : w2.cell? ⟨K, 3, none⟩ = some (.int .i64 p.ack) := hkk2.cell 3
    have yk4 : w2.cell? ⟨K, 4, none⟩ = some (.int .i64 p.cred) := hkk2.cell 4
    have yk5 : w2.cell? ⟨K, 5, none⟩ = some (.slice As ns cs) := hkk2.cell 5
    have yk6 : w2.cell? ⟨K, 6, none⟩ = some (.slice Ap np cp) := hkk2.cell 6
    have lX2 := hk12.lt
    have lK2 := hkk2.lt
    have hbw2 : base ≤ w2.heap.size := Nat.le_trans hbV hb2.size
    have HQZ := Lib.hid (HZ.out.2.2.2.1.below hb2 HZ.out.2.2.2.1.lt)
    have yq0 : w2.cell? ⟨B2, 0, none⟩ = some (.int .i64 0) := HQZ.out.cell 0
    have yq1 : w2.cell? ⟨B2, 1, none⟩ = some (.int .i64 0) := HQZ.out.cell 1
    have yq2 : w2.cell? ⟨B2, 2, none⟩ = some (.int .i64 0) := HQZ.out.cell 2
    have yq3 : w2.cell? ⟨B2, 3, none⟩ = some (.slice none 0 0) := HQZ.out.cell 3
    have yw0 := HQZ.out.frozen 0
    have yw1 := HQZ.out.frozen 1
    have yw2 := HQZ.out.frozen 2
    have yw3 := HQZ.out.frozen 3
    have lQ2 := HQZ.out.lt
    clear hc hk12 hkk2 hE2 hQV hQR hqm hKV hKR hkm hne2 hnq2 hnk2 hb2 HZ xr8 xr9 xr10 xr11 xk0 xk1 xk2 xk3 xk4 xk5 xk6
    refine ⟨⟨ys8, ys9, ys10, ys11, yk0, yk1, yk2, yk3, yk4, yk5, yk6⟩, ?_⟩
    (try simp only [Act.put, List.getElem_toArray, List.getElem_cons_succ, List.getElem_cons_zero, List.setIfInBounds_toArray, List.set_cons_zero, List.set_cons_succ])
    repeat ((first | (refine lexV_read rfl (by rfl) (by first | exact wanted_none rfl | exact wanted_some (b := true) (c := true) rfl rfl rfl | exact wanted_some (b := false) (c := false) rfl rfl rfl) (by intro w9 hS9; (try dsimp only at hS9); go_simp <;> with_reducible rfl) ?_) | (refine lexV_skip rfl (fun _ => trivial) (by first | exact wanted_some (b := true) (c := false) rfl rfl rfl | exact wanted_some (b := false) (c := true) rfl rfl rfl) ?_) | (refine lexV_builtin rfl (fun _ => trivial) (by first | exact wanted_none rfl | exact wanted_some (b := true) (c := true) rfl rfl rfl | exact wanted_some (b := false) (c := false) rfl rfl rfl) (by intro w9 hS9; (try dsimp only at hS9); go_simp <;> with_reducible rfl) ?_)); (try simp only [Act.put, List.getElem_toArray, List.getElem_cons_succ, List.getElem_cons_zero, List.setIfInBounds_toArray, List.set_cons_zero, List.set_cons_succ]))
    refine lexV_eff rfl (fun _ => trivial) ?_
    go_simp
    (try simp only [Act.put, List.getElem_toArray, List.getElem_cons_succ, List.getElem_cons_zero, List.setIfInBounds_toArray, List.set_cons_zero, List.set_cons_succ])
    repeat ((first | (refine lexV_read rfl (by rfl) (by first | exact wanted_none rfl | exact wanted_some (b := true) (c := true) rfl rfl rfl | exact wanted_some (b := false) (c := false) rfl rfl rfl) (by intro w9 hS9; (try dsimp only at hS9); go_simp <;> with_reducible rfl) ?_) | (refine lexV_skip rfl (fun _ => trivial) (by first | exact wanted_some (b := true) (c := false) rfl rfl rfl | exact wanted_some (b := false) (c := true) rfl rfl rfl) ?_) | (refine lexV_builtin rfl (fun _ => trivial) (by first | exact wanted_none rfl | exact wanted_some (b := true) (c := true) rfl rfl rfl | exact wanted_some (b := false) (c := false) rfl rfl rfl) (by intro w9 hS9; (try dsimp only at hS9); go_simp <;> with_reducible rfl) ?_)); (try simp only [Act.put, List.getElem_toArray, List.getElem_cons_succ, List.getElem_cons_zero, List.setIfInBounds_toArray, List.set_cons_zero, List.set_cons_succ]))
    refine lexV_nil (panQ_normal ?_)
    clear ys8 ys9 ys10 ys11 yk0 yk1 yk2 yk3 yk4 yk5 yk6 yq0 yw0 yq1 yw1 yq2 yw2 yq3 yw3 lQ2
    have hkq3 := set33_blk HQZ.out (.int .i64 r2.ses) (.int .i64 r2.lim) (.int .i64 r2.next) (.slice Ae2 ne2 ce2)
    have hT3 := set33_turn HQZ.out (base := base) hbB2 (.int .i64 r2.ses) (.int .i64 r2.lim) (.int .i64 r2.next) (.slice Ae2 ne2 ce2)
    have hkx3 := HP1.out.2.1.turn hT3 (by simp)
    have hr3 := (HP1.out.1.turn hT3 (by simp) (by simp) (by simp) (by simp) (by simp) (by simp)).receiver (r := r2) (HP1.out.2.2.1.turn hT3 (by simp) (by simp))
    have hqr3 := And.intro (HP1.out.2.2.2.1.1.turn hT3 (by simp)) (fun (e : Qe) he => qeR_ab (T := [33]) (by simp) _ _ _ _ hT3 (HP1.out.2.2.2.1.2.1 e he))
    have hkr3 := And.intro (HP1.out.2.2.2.2.1.1.turn hT3 (by simp)) (fun (e : Ke) he => keR_ab (T := [33]) (by simp) (by simp) _ _ _ _ hT3 (HP1.out.2.2.2.2.1.2.1 e he))
    have hbl3 := Turn.belowT HP1.out.2.2.2.2.2 hT3 (Nat.le_refl _) hbw2
    have hbw3 := Nat.le_trans hbw2 hT3.size
    clear hT3 HQZ
    have HP2 := Lib.hid (And.intro hr3 (And.intro hkx3 (And.intro hkq3 (And.intro hqr3 (And.intro hkr3 hbl3)))))
    have HKM := Lib.hid (And.intro HP1.out.2.2.2.1.2.2 HP1.out.2.2.2.2.1.2.2)
    clear hr3 hkx3 hkq3 hqr3 hkr3 hbl3 HP1 HP0
    clear lX2 hbw2
    go_upto_region 2 with fail
    generalize ((((w2.setCell ⟨B2, 0, none⟩ (.int .i64 r2.ses)).setCell ⟨B2, 1, none⟩ (.int .i64 r2.lim)).setCell ⟨B2, 2, none⟩ (.int .i64 r2.next)).setCell ⟨B2, 3, none⟩ (.slice Ae2 ne2 ce2)) = W2 at *
    have xb0 : W2.cell? ⟨B2, 0, none⟩ = some (.int .i64 r2.ses) := HP2.out.2.2.1.cell 0
    have xb1 : W2.cell? ⟨B2, 1, none⟩ = some (.int .i64 r2.lim) := HP2.out.2.2.1.cell 1
    have xb2 : W2.cell? ⟨B2, 2, none⟩ = some (.int .i64 r2.next) := HP2.out.2.2.1.cell 2
    have xb3 : W2.cell? ⟨B2, 3, none⟩ = some (.slice Ae2 ne2 ce2) := HP2.out.2.2.1.cell 3
    have xr13 : W2.cell? ⟨X, 13, none⟩ = some (.slice Adl ndl cdl) := HP2.out.2.1.cell 13
    have xr15 : W2.cell? ⟨X, 15, none⟩ = some (.slice Aan nan can) := HP2.out.2.1.cell 15
    have lX3 := HP2.out.2.1.lt
    have lB2 := HP2.out.2.2.1.lt
    refine wp_region_lexY [(0, 2), (1, 2), (2, 2), (3, 1), (4, 2), (8, 2), (10, 2), (14, 2), (5, 2), (11, 2), (6, 2), (12, 2), (7, 1), (13, 1), (9, 0), (15, 0), (16, 2), (17, 2), (18, 0), (19, 2), (20, 2), (21, 0), (22, 2), (23, 2), (24, 0)] [18, 21, 24] (fun w9 => w9.cell? ⟨B2, 0, none⟩ = some (.int .i64 r2.ses) ∧ w9.cell? ⟨B2, 1, none⟩ = some (.int .i64 r2.lim) ∧ w9.cell? ⟨B2, 2, none⟩ = some (.int .i64 r2.next) ∧ w9.cell? ⟨B2, 3, none⟩ = some (.slice Ae2 ne2 ce2) ∧ w9.cell? ⟨X, 13, none⟩ = some (.slice Adl ndl cdl) ∧ w9.cell? ⟨X, 15, none⟩ = some (.slice Aan nan can)) (by kernel_rfl) (by kernel_rfl) (by kernel_rfl) (by kernel_rfl) (by kernel_rfl) ⟨xb0, xb1, xb2, xb3, xr13, xr15⟩ ?_
    repeat ((first | (refine lexY_late rfl (fun _ => trivial) (by rfl) (by intro w9; go_simp <;> with_reducible rfl) ?_) | (refine lexY_read rfl (by rfl) (by first | exact wanted_none rfl | exact wanted_some (b := true) (c := true) rfl rfl rfl | exact wanted_some (b := false) (c := false) rfl rfl rfl) (by intro w9 hS9; (try dsimp only at hS9); go_simp <;> with_reducible rfl) ?_) | (refine lexY_skip rfl (fun _ => trivial) (by first | exact wanted_some (b := true) (c := false) rfl rfl rfl | exact wanted_some (b := false) (c := true) rfl rfl rfl) ?_) | (refine lexY_builtin rfl (fun _ => trivial) (by first | exact wanted_none rfl | exact wanted_some (b := true) (c := true) rfl rfl rfl | exact wanted_some (b := false) (c := false) rfl rfl rfl) (by intro w9 hS9; (try dsimp only at hS9); go_simp <;> with_reducible rfl) ?_)); (try simp only [Act.put, List.getElem_toArray, List.getElem_cons_succ, List.getElem_cons_zero, List.setIfInBounds_toArray, List.set_cons_zero, List.set_cons_succ]))
    have hbN : Below W2.heap.size W2 W2.drew := (Below.refl _ W2).drew
    have HN := Lib.hid (And.intro (HP2.out.1.below hbN) (And.intro (HP2.out.2.1.below hbN lX3) (And.intro (HP2.out.2.2.1.drew) (And.intro (And.intro (HP2.out.2.2.2.1.1.up hbN) (fun (e : Qe) he => qeR_ab (T := []) (by simp) _ _ _ _ (Turn.of_below hbN) (HP2.out.2.2.2.1.2 e he))) (And.intro (And.intro (HP2.out.2.2.2.2.1.1.up hbN) (fun (e : Ke) he => keR_ab (T := []) (by simp) (by simp) _ _ _ _ (Turn.of_below hbN) (HP2.out.2.2.2.2.1.2 e he))) HP2.out.2.2.2.2.2.drew)))))
    have hbWN : base ≤ W2.drew.heap.size := by show base ≤ W2.heap.size; omega
    have hXN : X < W2.drew.heap.size := lX3
    have hln1 := HLN.out.2.2.2.2.1
    have hln2 := HLN.out.2.2.2.2.2.2
    have hE1 : ∀ e ∈ kes, ∀ v ∈ encK e, v.oneCell' = true := fun e he => by
      obtain ⟨As, cs, hvs, -, -⟩ := XsV.form (HN.out.2.2.2.2.1.2 e he).1
      exact Fr.encK_one e _ _ _ hvs
    have zr13 : W2.drew.cell? ⟨X, 13, none⟩ = some (.slice Adl ndl cdl) := xr13
    have zr15 : W2.drew.cell? ⟨X, 15, none⟩ = some (.slice Aan nan can) := xr15
    have zb0 : W2.drew.cell? ⟨B2, 0, none⟩ = some (.int .i64 r2.ses) := xb0
    have zb1 : W2.drew.cell? ⟨B2, 1, none⟩ = some (.int .i64 r2.lim) := xb1
    have zb2 : W2.drew.cell? ⟨B2, 2, none⟩ = some (.int .i64 r2.next) := xb2
    have zb3 : W2.drew.cell? ⟨B2, 3, none⟩ = some (.slice Ae2 ne2 ce2) := xb3
    have lB3 : B2 < W2.drew.heap.size := lB2
    clear hbN HP2 xr13 xr15 lX3 lB2 xb0 xb1 xb2 xb3
    generalize W2.drew = V2 at *
    refine lexY_pushN (E := encQ) (R := QeR) (t := 42) (sz := 1) (base := base) (low := base) (l := dl) (l2 := qes) (v := .slice Adl ndl cdl) rfl (fun _ => trivial) _ _ 23 (by rfl) _ 24 Try.underlying23 info42 rfl (by omega) (fun e _ => encQ_one e) (by rfl) HN.out.1.dl (Nat.le_refl _) (qeR_ab (by simp)) HN.out.2.2.2.1.2 (by rfl) HN.out.2.2.2.1.1.rd HNK.out.1 (by omega) (by omega) hbWN ?_
    intro vw8 w8 hp8
    obtain ⟨Ad9, cd9, rfl, -, -⟩ := hp8.own.vform
    have hrw8 := HN.out.1.pushDl hp8
    obtain ⟨nd9, hnd9⟩ : ∃ n, (dl ++ qes).length = n := ⟨_, rfl⟩
    rw [hnd9] at hrw8 ⊢
    clear hnd9
    have hkw8 := HN.out.2.1.turn hp8.turn (by simp)
    have hqw8 := HN.out.2.2.1.turn hp8.turn (by simp)
    have hbbw8 := Turn.belowT (B := base) HN.out.2.2.2.2.2 hp8.turn (Nat.le_refl _) hbWN
    have hbWw8 := Nat.le_trans hbWN hp8.turn.size
    have hrestw8 := And.intro (HN.out.2.2.2.2.1.1.turn hp8.turn (by simp)) (fun (e : Ke) he => keR_ab (T := [42]) (by simp) (by simp) _ _ _ _ hp8.turn (HN.out.2.2.2.2.1.2 e he))
    have mb0 : w8.cell? ⟨B2, 0, none⟩ = some (.int .i64 r2.ses) := hqw8.cell 0
    have mb1 : w8.cell? ⟨B2, 1, none⟩ = some (.int .i64 r2.lim) := hqw8.cell 1
    have mb2 : w8.cell? ⟨B2, 2, none⟩ = some (.int .i64 r2.next) := hqw8.cell 2
    have mb3 : w8.cell? ⟨B2, 3, none⟩ = some (.slice Ae2 ne2 ce2) := hqw8.cell 3
    have mr13 : w8.cell? ⟨X, 13, none⟩ = some (.slice Adl ndl cdl) := hkw8.cell 13
    have mr15 : w8.cell? ⟨X, 15, none⟩ = some (.slice Aan nan can) := hkw8.cell 15
    refine ⟨.inr ⟨mb0, mb1, mb2, mb3, mr13, mr15⟩, ?_⟩
    (try simp only [Act.put, List.getElem_toArray, List.getElem_cons_succ, List.getElem_cons_zero, List.setIfInBounds_toArray, List.set_cons_zero, List.set_cons_succ])
    repeat ((first | (refine lexY_late rfl (fun _ => trivial) (by rfl) (by intro w9; go_simp <;> with_reducible rfl) ?_) | (refine lexY_read rfl (by rfl) (by first | exact wanted_none rfl | exact wanted_some (b := true) (c := true) rfl rfl rfl | exact wanted_some (b := false) (c := false) rfl rfl rfl) (by intro w9 hS9; (try dsimp only at hS9); go_simp <;> with_reducible rfl) ?_) | (refine lexY_skip rfl (fun _ => trivial) (by first | exact wanted_some (b := true) (c := false) rfl rfl rfl | exact wanted_some (b := false) (c := true) rfl rfl rfl) ?_) | (refine lexY_builtin rfl (fun _ => trivial) (by first | exact wanted_none rfl | exact wanted_some (b := true) (c := true) rfl rfl rfl | exact wanted_some (b := false) (c := false) rfl rfl rfl) (by intro w9 hS9; (try dsimp only at hS9); go_simp <;> with_reducible rfl) ?_)); (try simp only [Act.put, List.getElem_toArray, List.getElem_cons_succ, List.getElem_cons_zero, List.setIfInBounds_toArray, List.set_cons_zero, List.set_cons_succ]))
    refine lexY_pushN (E := encK) (R := KeR) (t := 55) (sz := 7) (base := base) (low := base) (l := an) (l2 := kes) (v := .slice Aan nan can) rfl (fun _ => trivial) _ _ 48 (by rfl) _ 88 Try.underlying48 info55 rfl (by omega) hE1 (by rfl) hrw8.an (Nat.le_refl _) (keR_ab (by simp) (by simp)) hrestw8.2 (by rfl) hrestw8.1.rd HNK.out.2 (by omega) (by omega) hbWw8 ?_
    intro vw9 w9 hp9
    obtain ⟨An9, cn9, rfl, -, -⟩ := hp9.own.vform
    have hrw9 := hrw8.pushAn hp9
    obtain ⟨nn9, hnn9⟩ : ∃ n, (an ++ kes).length = n := ⟨_, rfl⟩
    rw [hnn9] at hrw9 ⊢
    clear hnn9
    have hkw9 := hkw8.turn hp9.turn (by simp)
    have hqw9 := hqw8.turn hp9.turn (by simp)
    have hbbw9 := Turn.belowT (B := base) hbbw8 hp9.turn (Nat.le_refl _) hbWw8
    have hbWw9 := Nat.le_trans hbWw8 hp9.turn.size
    have nb0 : w9.cell? ⟨B2, 0, none⟩ = some (.int .i64 r2.ses) := hqw9.cell 0
    have nb1 : w9.cell? ⟨B2, 1, none⟩ = some (.int .i64 r2.lim) := hqw9.cell 1
    have nb2 : w9.cell? ⟨B2, 2, none⟩ = some (.int .i64 r2.next) := hqw9.cell 2
    have nb3 : w9.cell? ⟨B2, 3, none⟩ = some (.slice Ae2 ne2 ce2) := hqw9.cell 3
    have nr13 : w9.cell? ⟨X, 13, none⟩ = some (.slice Adl ndl cdl) := hkw9.cell 13
    have nr15 : w9.cell? ⟨X, 15, none⟩ = some (.slice Aan nan can) := hkw9.cell 15
    have HQ9 := Lib.hid (And.intro hrw9 (And.intro hkw9 hbbw9))
    have nx8 : w9.cell? ⟨X, 8, none⟩ = some (.int .i64 m.r.ses) := hkw9.cell 8
    have nx9 : w9.cell? ⟨X, 9, none⟩ = some (.int .i64 m.r.lim) := hkw9.cell 9
    have nx10 : w9.cell? ⟨X, 10, none⟩ = some (.int .i64 m.r.next) := hkw9.cell 10
    have nx11 : w9.cell? ⟨X, 11, none⟩ = some (.slice Ae ne ce) := hkw9.cell 11
    have nz8 := hkw9.frozen 8
    have nz9 := hkw9.frozen 9
    have nz10 := hkw9.frozen 10
    have nz11 := hkw9.frozen 11
    have nz13 := hkw9.frozen 13
    have nz15 := hkw9.frozen 15
    have lX9 := hkw9.lt
    have lB9 := hqw9.lt
    clear hrw9 hkw9 hqw9 hbbw9 hp9 mb0 mb1 mb2 mb3 mr13 mr15
    refine ⟨.inr ⟨nb0, nb1, nb2, nb3, nr13, nr15⟩, ?_⟩
    (try simp only [Act.put, List.getElem_toArray, List.getElem_cons_succ, List.getElem_cons_zero, List.setIfInBounds_toArray, List.set_cons_zero, List.set_cons_succ])
    repeat ((first | (refine lexY_late rfl (fun _ => trivial) (by rfl) (by intro w9; go_simp <;> with_reducible rfl) ?_) | (refine lexY_read rfl (by rfl) (by first | exact wanted_none rfl | exact wanted_some (b := true) (c := true) rfl rfl rfl | exact wanted_some (b := false) (c := false) rfl rfl rfl) (by intro w9 hS9; (try dsimp only at hS9); go_simp <;> with_reducible rfl) ?_) | (refine lexY_skip rfl (fun _ => trivial) (by first | exact wanted_some (b := true) (c := false) rfl rfl rfl | exact wanted_some (b := false) (c := true) rfl rfl rfl) ?_) | (refine lexY_builtin rfl (fun _ => trivial) (by first | exact wanted_none rfl | exact wanted_some (b := true) (c := true) rfl rfl rfl | exact wanted_some (b := false) (c := false) rfl rfl rfl) (by intro w9 hS9; (try dsimp only at hS9); go_simp <;> with_reducible rfl) ?_)); (try simp only [Act.put, List.getElem_toArray, List.getElem_cons_succ, List.getElem_cons_zero, List.setIfInBounds_toArray, List.set_cons_zero, List.set_cons_succ]))
    refine lexY_eff rfl (fun _ => trivial) ?_
    go_simp
    (try simp only [Act.put, List.getElem_toArray, List.getElem_cons_succ, List.getElem_cons_zero, List.setIfInBounds_toArray, List.set_cons_zero, List.set_cons_succ])
    repeat ((first | (refine lexY_late rfl (fun _ => trivial) (by rfl) (by intro w9; go_simp <;> with_reducible rfl) ?_) | (refine lexY_read rfl (by rfl) (by first | exact wanted_none rfl | exact wanted_some (b := true) (c := true) rfl rfl rfl | exact wanted_some (b := false) (c := false) rfl rfl rfl) (by intro w9 hS9; (try dsimp only at hS9); go_simp <;> with_reducible rfl) ?_) | (refine lexY_skip rfl (fun _ => trivial) (by first | exact wanted_some (b := true) (c := false) rfl rfl rfl | exact wanted_some (b := false) (c := true) rfl rfl rfl) ?_) | (refine lexY_builtin rfl (fun _ => trivial) (by first | exact wanted_none rfl | exact wanted_some (b := true) (c := true) rfl rfl rfl | exact wanted_some (b := false) (c := false) rfl rfl rfl) (by intro w9 hS9; (try dsimp only at hS9); go_simp <;> with_reducible rfl) ?_)); (try simp only [Act.put, List.getElem_toArray, List.getElem_cons_succ, List.getElem_cons_zero, List.setIfInBounds_toArray, List.set_cons_zero, List.set_cons_succ]))
    refine lexY_eff rfl (fun _ => trivial) ?_
    go_simp
    (try simp only [Act.put, List.getElem_toArray, List.getElem_cons_succ, List.getElem_cons_zero, List.setIfInBounds_toArray, List.set_cons_zero, List.set_cons_succ])
    repeat ((first | (refine lexY_late rfl (fun _ => trivial) (by rfl) (by intro w9; go_simp <;> with_reducible rfl) ?_) | (refine lexY_read rfl (by rfl) (by first | exact wanted_none rfl | exact wanted_some (b := true) (c := true) rfl rfl rfl | exact wanted_some (b := false) (c := false) rfl rfl rfl) (by intro w9 hS9; (try dsimp only at hS9); go_simp <;> with_reducible rfl) ?_) | (refine lexY_skip rfl (fun _ => trivial) (by first | exact wanted_some (b := true) (c := false) rfl rfl rfl | exact wanted_some (b := false) (c := true) rfl rfl rfl) ?_) | (refine lexY_builtin rfl (fun _ => trivial) (by first | exact wanted_none rfl | exact wanted_some (b := true) (c := true) rfl rfl rfl | exact wanted_some (b := false) (c := false) rfl rfl rfl) (by intro w9 hS9; (try dsimp only at hS9); go_simp <;> with_reducible rfl) ?_)); (try simp only [Act.put, List.getElem_toArray, List.getElem_cons_succ, List.getElem_cons_zero, List.setIfInBounds_toArray, List.set_cons_zero, List.set_cons_succ]))
    refine lexY_eff rfl (fun _ => trivial) ?_
    go_simp
    (try simp only [Act.put, List.getElem_toArray, List.getElem_cons_succ, List.getElem_cons_zero, List.setIfInBounds_toArray, List.set_cons_zero, List.set_cons_succ])
    refine lexY_nil (panQ_normal ?_)
    have hk2 := set73r_blk HQ9.out.2.1 (.int .i64 r2.ses) (.int .i64 r2.lim) (.int .i64 r2.next) (.slice Ae2 ne2 ce2)
    have hT2 := set73r_turn HQ9.out.2.1 hX (.int .i64 r2.ses) (.int .i64 r2.lim) (.int .i64 r2.next) (.slice Ae2 ne2 ce2)
    have hT3 := set73_turn hk2 hX 13 (.slice Ad9 nd9 cd9)
    have hk3 := hk2.set_ 13 (.slice Ad9 nd9 cd9)
    have hT4 := set73_turn hk3 hX 15 (.slice An9 nn9 cn9)
    have hk4 := hk3.set_ 15 (.slice An9 nn9 cn9)
    simp only [List.setIfInBounds_toArray, List.set_cons_zero, List.set_cons_succ] at hk4
    have hrF := ((HQ9.out.1.t73 hT2).t73 hT3).t73 hT4
    have hbF := Turn.belowT (B := base) HQ9.out.2.2 ((hT2.trans hT3).trans hT4) (Nat.le_refl _) hbWw9
    rw [HKM.out.1, HKM.out.2] at hrF
    have HF := Lib.hid (And.intro hrF (And.intro hk4 hbF))
    clear hk2 hT2 hT3 hk3 hT4 hk4 hrF hbF
    go_wp2_with fail
    ((try simp only [Exit.inBlock, Exit.then]); first | refine bodyPost_ret (results_none rfl _ _ _) rfl ?_ | refine bodyPost_end (results_none rfl _ _ _) rfl ?_)
    exact ⟨⟨_, rfl⟩, ⟨.slice Ae2 ne2 ce2, .slice Ad9 nd9 cd9, .slice An9 nn9 cn9, dl ++ qes, an ++ kes, ⟨HF.out.1, HF.out.2.1⟩⟩, HF.out.2.2⟩
end Go.Proofs.Ytanmndhdhlmjgaa
