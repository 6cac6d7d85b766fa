/- The walk of the law WindowIgnores. Conditions: small. -/
import Derived.Test.YtanmndhdhlmjgaaMathN
import Derived.Test.YtanmndhdhlmjgaaXh
import Derived.Test.YtanmndhdhlmjgaaArgsC
import Derived.Test.YtanmndhdhlmjgaaWz
namespace Go.Proofs.Ytanmndhdhlmjgaa
open Go.RowKit
/-- packets that change nothing -/
theorem recv_same {r : Rm} {p : Pm} (h : p.kind = 1 ∨ p.ses ≠ r.ses) : recvR r p = (r, [], []) := by
  unfold recvR
  rw [if_pos (by rcases h with h | h; exact .inr (.inr (.inl h)); exact .inr (.inr (.inr h)))]
theorem ack_same {s : Sm} {p : Pm} {now : Int} (h : p.kind ≠ 1 ∨ p.ses ≠ s.ses) : ackS s now p = (s, -1) := by
  unfold ackS
  have hx : acceptB s now p = false := by
    unfold acceptB
    rw [Bool.and_eq_false_iff]
    left
    rw [decide_eq_false_iff_not]
    rintro ⟨_, _, _, h1, h2, _⟩
    rcases h with h | h <;> contradiction
  rw [if_pos hx]
theorem PkV.low55 {W : World} {b : Nat} {p : Pm} {v : Value} (h : PkV W b p v) : PkV W (b + 1) p v := by
  obtain ⟨vs, vp, rfl, ⟨⟨A, c, h1, h2, h3, h4⟩, h5⟩, A2, c2, rfl, h6⟩ := h
  exact ⟨_, _, rfl, ⟨⟨A, c, h1, h2, h3, h4.low (Nat.le_succ _)⟩, h5⟩, A2, c2, rfl, Rd.low h6 (Nat.le_succ _)⟩
theorem b33_held {V w' : World} {g X : Nat} {c0 c1 c2 c3 d0 d1 d2 d3 d4 d5 d6 d7 d8 d9 d10 d11 d12 d13 d14 d15 d16 : Value} (hb : Below V.heap.size V w') (k1 : Blk V g 33 #[c0, c1, c2, c3]) (k2 : Blk V X 73 #[d0, d1, d2, d3, d4, d5, d6, d7, d8, d9, d10, d11, d12, d13, d14, d15, d16]) : w'.cell? ⟨g, 0, none⟩ = some c0 ∧ w'.cell? ⟨g, 1, none⟩ = some c1 ∧ w'.cell? ⟨g, 2, none⟩ = some c2 ∧ w'.cell? ⟨g, 3, none⟩ = some c3 ∧ w'.cell? ⟨X, 8, none⟩ = some d8 ∧ w'.cell? ⟨X, 9, none⟩ = some d9 ∧ w'.cell? ⟨X, 10, none⟩ = some d10 ∧ w'.cell? ⟨X, 11, none⟩ = some d11 ∧ Below V.heap.size V w' :=
  have h1 := k1.below hb k1.lt
  have h2 := k2.below hb k2.lt
  ⟨h1.cell 0, h1.cell 1, h1.cell 2, h1.cell 3, h2.cell 8, h2.cell 9, h2.cell 10, h2.cell 11, hb⟩
theorem b25_held {V w' : World} {g X : Nat} {c0 c1 c2 c3 c4 c5 c6 c7 d0 d1 d2 d3 d4 d5 d6 d7 d8 d9 d10 d11 d12 d13 d14 d15 d16 : Value} (hb : Below V.heap.size V w') (k1 : Blk V g 25 #[c0, c1, c2, c3, c4, c5, c6, c7]) (k2 : Blk V X 73 #[d0, d1, d2, d3, d4, d5, d6, d7, d8, d9, d10, d11, d12, d13, d14, d15, d16]) : w'.cell? ⟨g, 0, none⟩ = some c0 ∧ w'.cell? ⟨g, 1, none⟩ = some c1 ∧ w'.cell? ⟨g, 2, none⟩ = some c2 ∧ w'.cell? ⟨g, 3, none⟩ = some c3 ∧ w'.cell? ⟨g, 4, none⟩ = some c4 ∧ w'.cell? ⟨g, 5, none⟩ = some c5 ∧ w'.cell? ⟨g, 6, none⟩ = some c6 ∧ w'.cell? ⟨g, 7, none⟩ = some c7 ∧ w'.cell? ⟨X, 0, none⟩ = some d0 ∧ w'.cell? ⟨X, 1, none⟩ = some d1 ∧ w'.cell? ⟨X, 2, none⟩ = some d2 ∧ w'.cell? ⟨X, 3, none⟩ = some d3 ∧ w'.cell? ⟨X, 4, none⟩ = some d4 ∧ w'.cell? ⟨X, 5, none⟩ = some d5 ∧ w'.cell? ⟨X, 6, none⟩ = some d6 ∧ w'.cell? ⟨X, 7, none⟩ = some d7 ∧ Below V.heap.size V w' :=
  have h1 := k1.below hb k1.lt
  have h2 := k2.below hb k2.lt
  ⟨h1.cell 0, h1.cell 1, h1.cell 2, h1.cell 3, h1.cell 4, h1.cell 5, h1.cell 6, h1.cell 7, h2.cell 0, h2.cell 1, h2.cell 2, h2.cell 3, h2.cell 4, h2.cell 5, h2.cell 6, h2.cell 7, hb⟩
set_option maxRecDepth 100000 in
set_option maxHeartbeats 8000000 in
set_option linter.unusedSimpArgs false in
theorem walkWindowIgnores (w : World) (v0 v1 v2 : Value) (h0 : Arg5 w v0) (h1 : Arg5 w v1) (h2 : Arg79 w v2) : Calls Try.prog 10 #[v0, v1, v2] w fun e w' => e = .returned (.bool true) ∧ Below w.heap.size w w' := by
  obtain ⟨a, rfl, ha⟩ := h0
  obtain ⟨b, rfl, hb⟩ := h1
  obtain ⟨vs, ps, vp, ns, q, rfl, hv, hq⟩ := h2
  have HQ := Lib.hid hq
  obtain ⟨A, c, rfl, hc1, -, -⟩ := hv.val
  obtain ⟨ps9, vp9, he9, hXs, Ap, cp, hvp, hB⟩ := hq
  injection he9 with he9
  unfold pkC at he9
  injection he9 with he9
  simp only [List.cons.injEq] at he9
  obtain ⟨-, -, -, -, -, rfl, rfl, -⟩ := he9
  subst hvp
  obtain ⟨As, cs, rfl, -, -⟩ := hXs.form
  clear hXs hB
  obtain ⟨nn, hnn⟩ : ∃ n, ns.length = n := ⟨_, rfl⟩
  obtain ⟨ns0, hns⟩ : ∃ n, q.sel.length = n := ⟨_, rfl⟩
  obtain ⟨np, hnp⟩ : ∃ n, q.p.length = n := ⟨_, rfl⟩
  have HV := Lib.hid (And.intro hv hnn)
  rw [hns, hnp] at HQ ⊢
  rw [hnn]
  clear hv hnn hc1 hns hnp
  unfold pkC at HQ ⊢
  have HAB := Lib.hid (And.intro ha hb)
  clear ha hb
  have HW : Hid (Blk (w.alloc (.cells #[.slice A nn c, .int .i64 q.kind, .int .i64 q.ses, .int .i64 q.seq, .int .i64 q.ack, .int .i64 q.cred, .slice As ns0 cs, .slice Ap np cp] 79)) w.heap.size 79 #[.slice A nn c, .int .i64 q.kind, .int .i64 q.ses, .int .i64 q.seq, .int .i64 q.ack, .int .i64 q.cred, .slice As ns0 cs, .slice Ap np cp] ∧ Below w.heap.size w (w.alloc (.cells #[.slice A nn c, .int .i64 q.kind, .int .i64 q.ses, .int .i64 q.seq, .int .i64 q.ack, .int .i64 q.cred, .slice As ns0 cs, .slice Ap np cp] 79))) := ⟨Blk.new w 79 #[.slice A nn c, .int .i64 q.kind, .int .i64 q.ses, .int .i64 q.seq, .int .i64 q.ack, .int .i64 q.cred, .slice As ns0 cs, .slice Ap np cp], (Below.refl _ w).alloc (Nat.le_refl _) _⟩
  have HC := Lib.hid (begin_any a b (w.heap.size + 1) (w.alloc (.cells #[.slice A nn c, .int .i64 q.kind, .int .i64 q.ses, .int .i64 q.seq, .int .i64 q.ack, .int .i64 q.cred, .slice As ns0 cs, .slice Ap np cp] 79)) HAB.out.1 HAB.out.2 (by simp))
  change Calls Try.prog 10 #[.int .u8 (a : Int), .int .u8 (b : Int), .agg #[.slice A nn c, .int .i64 q.kind, .int .i64 q.ses, .int .i64 q.seq, .int .i64 q.ack, .int .i64 q.cred, .slice As ns0 cs, .slice Ap np cp]] w _
  go_enter Try.func10, Try.ntmps10
  go_wp2_with fail
  generalize (w.alloc (.cells #[.slice A nn c, .int .i64 q.kind, .int .i64 q.ses, .int .i64 q.seq, .int .i64 q.ack, .int .i64 q.cred, .slice As ns0 cs, .slice Ap np cp] 79)) = W at *
  refine HC.out.mono ?_
  clear HC
  rintro e w1 ⟨⟨X, u, rfl, hX, hR⟩, hb1⟩
  have hsz := HW.out.1.lt
  have H1 := Lib.hid (And.intro (show w.heap.size + 1 ≤ X by omega) (And.intro hR (And.intro (HW.out.1.below hb1 HW.out.1.lt) (HW.out.2.trans (hb1.mono HW.out.2.size)))))
  clear hX hR hb1 HW hsz
  have xo0 : w1.cell? ⟨w.heap.size, 0, none⟩ = some (.slice A nn c) := H1.out.2.2.1.cell 0
  have xo1 : w1.cell? ⟨w.heap.size, 1, none⟩ = some (.int .i64 q.kind) := H1.out.2.2.1.cell 1
  have xo2 : w1.cell? ⟨w.heap.size, 2, none⟩ = some (.int .i64 q.ses) := H1.out.2.2.1.cell 2
  have xo3 : w1.cell? ⟨w.heap.size, 3, none⟩ = some (.int .i64 q.seq) := H1.out.2.2.1.cell 3
  have xo4 : w1.cell? ⟨w.heap.size, 4, none⟩ = some (.int .i64 q.ack) := H1.out.2.2.1.cell 4
  have xo5 : w1.cell? ⟨w.heap.size, 5, none⟩ = some (.int .i64 q.cred) := H1.out.2.2.1.cell 5
  have xo6 : w1.cell? ⟨w.heap.size, 6, none⟩ = some (.slice As ns0 cs) := H1.out.2.2.1.cell 6
  have xo7 : w1.cell? ⟨w.heap.size, 7, none⟩ = some (.slice Ap np cp) := H1.out.2.2.1.cell 7
  have lO := H1.out.2.2.1.lt
  by_cases hl : 60 < nn
  · have kl : decide ((60 : Int) < (nn : Int)) = true := decide_eq_true (by omega)
    have klb : (60 < nn) = True := eq_true hl
    clear hl
    go_wp2_with fail
    refine (awake_any w1).mono ?_
    rintro e y3 ⟨rfl, hb9⟩
    have HW9 := Lib.hid (H1.out.2.2.2.trans (hb9.mono H1.out.2.2.2.size))
    clear hb9
    go_wp2_with fail
    go_ret
    exact ⟨rfl, HW9.out⟩
  have kl : decide ((60 : Int) < (nn : Int)) = false := decide_eq_false (by omega)
  have klb : (60 < nn) = False := eq_false hl
  have hl2 : nn ≤ 60 := by omega
  clear hl
  have HC := Lib.hid (FewPacket_any q _ w.heap.size w1 (HQ.out.up H1.out.2.2.2))
  go_wp2_with fail
  refine HC.out.mono ?_
  clear HC
  rintro e w2 ⟨⟨b2, rfl, hfp⟩, hb2⟩
  have HFP := Lib.hid hfp
  have H2 := Lib.hid (And.intro H1.out.1 (And.intro (H1.out.2.1.below hb2) (And.intro (H1.out.2.2.1.below hb2 lO) (H1.out.2.2.2.trans (hb2.mono H1.out.2.2.2.size)))))
  clear hfp hb2 H1 lO xo0 xo1 xo2 xo3 xo4 xo5 xo6 xo7
  cases b2 with
  | false =>
    go_wp2_with fail
    refine (awake_any w2).mono ?_
    rintro e y3 ⟨rfl, hb9⟩
    have HW9 := Lib.hid (H2.out.2.2.2.trans (hb9.mono H2.out.2.2.2.size))
    clear hb9
    go_wp2_with fail
    go_ret
    exact ⟨rfl, HW9.out⟩
  | true =>
  have HSP : Hid (SmallP q) := ⟨by have := (HFP.out (by simp)).2; omega, by have := (HFP.out (by simp)).1; omega⟩
  have xo0 : w2.cell? ⟨w.heap.size, 0, none⟩ = some (.slice A nn c) := H2.out.2.2.1.cell 0
  have xo1 : w2.cell? ⟨w.heap.size, 1, none⟩ = some (.int .i64 q.kind) := H2.out.2.2.1.cell 1
  have xo2 : w2.cell? ⟨w.heap.size, 2, none⟩ = some (.int .i64 q.ses) := H2.out.2.2.1.cell 2
  have xo3 : w2.cell? ⟨w.heap.size, 3, none⟩ = some (.int .i64 q.seq) := H2.out.2.2.1.cell 3
  have xo4 : w2.cell? ⟨w.heap.size, 4, none⟩ = some (.int .i64 q.ack) := H2.out.2.2.1.cell 4
  have xo5 : w2.cell? ⟨w.heap.size, 5, none⟩ = some (.int .i64 q.cred) := H2.out.2.2.1.cell 5
  have xo6 : w2.cell? ⟨w.heap.size, 6, none⟩ = some (.slice As ns0 cs) := H2.out.2.2.1.cell 6
  have xo7 : w2.cell? ⟨w.heap.size, 7, none⟩ = some (.slice Ap np cp) := H2.out.2.2.1.cell 7
  have lO := H2.out.2.2.1.lt
  have HC := Lib.hid (runAll_any (run0 a b) u X (w.heap.size + 1) w.heap.size ns (.slice A nn c) w2 H2.out.2.1 H2.out.1 (by rw [← HV.out.2]; exact HV.out.1.up H2.out.2.2.2 ir_ab) (goes_run a b ns (by rw [HV.out.2]; exact hl2)) (by rw [HV.out.2]; omega) (fun W' hW => by rw [← HV.out.2]; exact HV.out.1.up (H2.out.2.2.2.trans (hW.mono (Nat.le_succ _))) ir_ab))
  have hinv : Inv 60 60 60 (ns.foldl stepR (run0 a b)) := by
    rw [← runK_all]
    exact (inv_runK a b ns ns.length (Nat.le_refl _) (by rw [HV.out.2]; exact hl2)).mono (by rw [HV.out.2]; exact hl2) (by rw [HV.out.2]; exact hl2) (by rw [HV.out.2]; exact hl2)
  generalize ns.foldl stepR (run0 a b) = m at *
  go_wp2_with fail
  refine HC.out.mono ?_
  clear HC
  rintro e w3 ⟨rfl, ⟨u3, hu3⟩, hb3⟩
  have H3 := Lib.hid (And.intro (H2.out.2.2.1.below hb3 (Nat.lt_succ_self _)) (H2.out.2.2.2.trans (hb3.mono (Nat.le_succ _))))
  have hXB := H2.out.1
  have h := hu3
  clear hu3 hb3 H2 lO xo0 xo1 xo2 xo3 xo4 xo5 xo6 xo7
  clear u
  obtain ⟨u, hu⟩ : ∃ u, u = u3 := ⟨_, rfl⟩
  subst hu
  obtain ⟨vo, vq, ve, vpu, vdl, vpk, van, pu, dl, pk, an⟩ := u
  have hso := h.rows.so.form
  have hsq := h.rows.sq.form
  have hre := h.rows.re.form
  have hpu := h.rows.pu.vform
  have hdl := h.rows.dl.vform
  have hpk := h.rows.pk.vform
  have han := h.rows.an.vform
  dsimp only at hso hsq hre hpu hdl hpk han
  obtain ⟨Ao, co, rfl, -, -⟩ := hso
  obtain ⟨Aq, cq, rfl, -, -⟩ := hsq
  obtain ⟨Ae, ce, rfl, -, -⟩ := hre
  obtain ⟨Apu, cpu, rfl, -, -⟩ := hpu
  obtain ⟨Adl, cdl, rfl, -, -⟩ := hdl
  obtain ⟨Apk, cpk, rfl, -, -⟩ := hpk
  obtain ⟨Aan, can, rfl, -, -⟩ := han
  have e1 : pu.length = m.pu.length := by rw [← h.rows.puM, List.length_map]
  have e2 : dl.length = m.dl.length := by rw [← h.rows.dlM, List.length_map]
  have e3 : pk.length = m.pk.length := by rw [← h.rows.pkM, List.length_map]
  have e4 : an.length = m.an.length := by rw [← h.rows.anM, List.length_map]
  obtain ⟨no, hno⟩ : ∃ n, m.s.out.length = n := ⟨_, rfl⟩
  obtain ⟨nq, hnq⟩ : ∃ n, m.s.q.length = n := ⟨_, rfl⟩
  obtain ⟨ne, hne⟩ : ∃ n, m.r.early.length = n := ⟨_, rfl⟩
  obtain ⟨npu, hnpu⟩ : ∃ n, pu.length = n := ⟨_, rfl⟩
  obtain ⟨ndl, hndl⟩ : ∃ n, dl.length = n := ⟨_, rfl⟩
  obtain ⟨npk, hnpk⟩ : ∃ n, pk.length = n := ⟨_, rfl⟩
  obtain ⟨nan, hnan⟩ : ∃ n, an.length = n := ⟨_, rfl⟩
  rw [hno, hnq, hne, hnpu, hndl, hnpk, hnan] at h
  try rw [hno]
  try rw [hnq]
  try rw [hne]
  try rw [hnpu]
  try rw [hndl]
  try rw [hnpk]
  try rw [hnan]
  have HLN := Lib.hid (And.intro hno (And.intro hnq (And.intro hne (And.intro hnpu (And.intro hndl (And.intro hnpk hnan))))))
  have HLE := Lib.hid (And.intro e1 (And.intro e2 (And.intro e3 e4)))
  have lX := h.blk.lt
  have hbk := h.blk
  unfold runC at hbk
  dsimp only at hbk
  have HR := Lib.hid (And.intro h.rows hbk)
  clear hno hnq hne hnpu hndl hnpk hnan e1 e2 e3 e4 h hbk
  have xo0 : w3.cell? ⟨w.heap.size, 0, none⟩ = some (.slice A nn c) := H3.out.1.cell 0
  have xo1 : w3.cell? ⟨w.heap.size, 1, none⟩ = some (.int .i64 q.kind) := H3.out.1.cell 1
  have xo2 : w3.cell? ⟨w.heap.size, 2, none⟩ = some (.int .i64 q.ses) := H3.out.1.cell 2
  have xo3 : w3.cell? ⟨w.heap.size, 3, none⟩ = some (.int .i64 q.seq) := H3.out.1.cell 3
  have xo4 : w3.cell? ⟨w.heap.size, 4, none⟩ = some (.int .i64 q.ack) := H3.out.1.cell 4
  have xo5 : w3.cell? ⟨w.heap.size, 5, none⟩ = some (.int .i64 q.cred) := H3.out.1.cell 5
  have xo6 : w3.cell? ⟨w.heap.size, 6, none⟩ = some (.slice As ns0 cs) := H3.out.1.cell 6
  have xo7 : w3.cell? ⟨w.heap.size, 7, none⟩ = some (.slice Ap np cp) := H3.out.1.cell 7
  have lO := H3.out.1.lt
  go_upto_region 7 with fail
  have hbp : Below w3.heap.size w3 (w3.alloc (.cells #[.int .i64 q.kind, .int .i64 q.ses, .int .i64 q.seq, .int .i64 q.ack, .int .i64 q.cred, .slice As ns0 cs, .slice Ap np cp] 55)) := (Below.refl _ w3).alloc (Nat.le_refl _) _
  have HP0 := Lib.hid (And.intro hbp (Blk.new w3 55 #[.int .i64 q.kind, .int .i64 q.ses, .int .i64 q.seq, .int .i64 q.ack, .int .i64 q.cred, .slice As ns0 cs, .slice Ap np cp]))
  have hXP : X < w3.heap.size := lX
  have hbw3 : w.heap.size + 1 ≤ w3.heap.size := by omega
  clear hbp lO xo0 xo1 xo2 xo3 xo4 xo5 xo6 xo7
  obtain ⟨B, hB⟩ : ∃ x, x = w3.heap.size := ⟨_, rfl⟩
  have hB2 : w3.heap.size ≤ B := by omega
  have hXB3 : X < B := by omega
  have HBE := Lib.hid hB
  have HP0 : Hid (Below w3.heap.size w3 (w3.alloc (.cells #[.int .i64 q.kind, .int .i64 q.ses, .int .i64 q.seq, .int .i64 q.ack, .int .i64 q.cred, .slice As ns0 cs, .slice Ap np cp] 55)) ∧ Blk (w3.alloc (.cells #[.int .i64 q.kind, .int .i64 q.ses, .int .i64 q.seq, .int .i64 q.ack, .int .i64 q.cred, .slice As ns0 cs, .slice Ap np cp] 55)) B 55 #[.int .i64 q.kind, .int .i64 q.ses, .int .i64 q.seq, .int .i64 q.ack, .int .i64 q.cred, .slice As ns0 cs, .slice Ap np cp]) := ⟨HP0.out.1, by rw [hB]; exact HP0.out.2⟩
  rw [← hB]
  clear hB
  generalize (w3.alloc (.cells #[.int .i64 q.kind, .int .i64 q.ses, .int .i64 q.seq, .int .i64 q.ack, .int .i64 q.cred, .slice As ns0 cs, .slice Ap np cp] 55)) = V at *
  have xp0 : V.cell? ⟨B, 0, none⟩ = some (.int .i64 q.kind) := HP0.out.2.cell 0
  have xp1 : V.cell? ⟨B, 1, none⟩ = some (.int .i64 q.ses) := HP0.out.2.cell 1
  have xp2 : V.cell? ⟨B, 2, none⟩ = some (.int .i64 q.seq) := HP0.out.2.cell 2
  have xp3 : V.cell? ⟨B, 3, none⟩ = some (.int .i64 q.ack) := HP0.out.2.cell 3
  have xp4 : V.cell? ⟨B, 4, none⟩ = some (.int .i64 q.cred) := HP0.out.2.cell 4
  have xp5 : V.cell? ⟨B, 5, none⟩ = some (.slice As ns0 cs) := HP0.out.2.cell 5
  have xp6 : V.cell? ⟨B, 6, none⟩ = some (.slice Ap np cp) := HP0.out.2.cell 6
  have xy0 := HP0.out.2.frozen 0
  have lB := HP0.out.2.lt
  by_cases hse : q.ses = 1
  · have kse : (q.ses == 1) = true := by rw [beq_iff_eq]; exact hse
    have HSE := Lib.hid hse
    clear hse
    have HRS : Hid (recvR m.r ({ q with kind := 1 } : Pm) = (m.r, [], [])) := recv_same (.inl rfl)
    have HAS : Hid (ackS m.s m.now ({ q with kind := 0 } : Pm) = (m.s, -1)) := ack_same (.inl (by dsimp only; decide))
    have hsm := (hinv.fit (by omega) (by omega) (by omega)).small
    have HSM := Lib.hid hsm
    clear hsm
    go_upto_region 9 with fail
    have HP1 : Hid (Below w3.heap.size w3 (V.setCell ⟨B, 0, none⟩ (.int .i64 1)) ∧ Blk (V.setCell ⟨B, 0, none⟩ (.int .i64 1)) B 55 #[.int .i64 1, .int .i64 q.ses, .int .i64 q.seq, .int .i64 q.ack, .int .i64 q.cred, .slice As ns0 cs, .slice Ap np cp]) := by
      have hk1 := HP0.out.2.set_ 0 (.int .i64 1)
      simp only [List.setIfInBounds_toArray, List.set_cons_zero] at hk1
      exact ⟨HP0.out.1.setCell (p := ⟨B, 0, none⟩) hB2 _, hk1⟩
    clear HP0 xp0 xp1 xp2 xp3 xp4 xp5 xp6 xy0 lB
    generalize (V.setCell ⟨B, 0, none⟩ (.int .i64 1)) = V1 at *
    have HQ1 : Hid (∀ W', Below w3.heap.size w3 W' → PkV W' w.heap.size ({ q with kind := 1 } : Pm) (.agg #[.int .i64 1, .int .i64 q.ses, .int .i64 q.seq, .int .i64 q.ack, .int .i64 q.cred, .slice As ns0 cs, .slice Ap np cp])) := fun W' hW => by
      have h5 := HQ.out.up (H3.out.2.trans (hW.mono H3.out.2.size))
      obtain ⟨e1, e2, he, e4, e5⟩ := h5
      injection he with he
      unfold pkC at he
      injection he with he
      simp only [List.cons.injEq] at he
      obtain ⟨-, -, -, -, -, rfl, rfl, -⟩ := he
      exact ⟨_, _, rfl, e4, e5⟩
    have HQ2 : Hid (∀ W', Below w3.heap.size w3 W' → PkV W' w.heap.size ({ q with kind := 0 } : Pm) (.agg #[.int .i64 0, .int .i64 q.ses, .int .i64 q.seq, .int .i64 q.ack, .int .i64 q.cred, .slice As ns0 cs, .slice Ap np cp])) := fun W' hW => by
      have h5 := HQ.out.up (H3.out.2.trans (hW.mono H3.out.2.size))
      obtain ⟨e1, e2, he, e4, e5⟩ := h5
      injection he with he
      unfold pkC at he
      injection he with he
      simp only [List.cons.injEq] at he
      obtain ⟨-, -, -, -, -, rfl, rfl, -⟩ := he
      exact ⟨_, _, rfl, e4, e5⟩
    have xr8 : V1.cell? ⟨X, 8, none⟩ = some (.int .i64 m.r.ses) := (HR.out.2.below HP1.out.1 hXP).cell 8
    have xr9 : V1.cell? ⟨X, 9, none⟩ = some (.int .i64 m.r.lim) := (HR.out.2.below HP1.out.1 hXP).cell 9
    have xr10 : V1.cell? ⟨X, 10, none⟩ = some (.int .i64 m.r.next) := (HR.out.2.below HP1.out.1 hXP).cell 10
    have xr11 : V1.cell? ⟨X, 11, none⟩ = some (.slice Ae ne ce) := (HR.out.2.below HP1.out.1 hXP).cell 11
    have xk0 : V1.cell? ⟨B, 0, none⟩ = some (.int .i64 1) := HP1.out.2.cell 0
    have xk1 : V1.cell? ⟨B, 1, none⟩ = some (.int .i64 q.ses) := HP1.out.2.cell 1
    have xk2 : V1.cell? ⟨B, 2, none⟩ = some (.int .i64 q.seq) := HP1.out.2.cell 2
    have xk3 : V1.cell? ⟨B, 3, none⟩ = some (.int .i64 q.ack) := HP1.out.2.cell 3
    have xk4 : V1.cell? ⟨B, 4, none⟩ = some (.int .i64 q.cred) := HP1.out.2.cell 4
    have xk5 : V1.cell? ⟨B, 5, none⟩ = some (.slice As ns0 cs) := HP1.out.2.cell 5
    have xk6 : V1.cell? ⟨B, 6, none⟩ = some (.slice Ap np cp) := HP1.out.2.cell 6
    have lX1 := (HR.out.2.below HP1.out.1 hXP).lt
    have lB1 := HP1.out.2.lt
    go_cut [10, 11, 12] from 50 to 59 (fun s10 s11 s12 wx => ∃ (G : Nat) (Ae2 : Option Addr) (ce2 : Nat) (A1 : Option Addr) (c1 : Nat) (A2 : Option Addr) (c2 : Nat), s10 = .pointer (some ⟨G, 0, none⟩) ∧ s11 = .slice A1 0 c1 ∧ s12 = .slice A2 0 c2 ∧ Hid (Blk wx G 33 #[.int .i64 m.r.ses, .int .i64 m.r.lim, .int .i64 m.r.next, .slice Ae2 ne ce2] ∧ AsV wx (w.heap.size + 1) m.r.early (.slice Ae2 ne ce2) ∧ Below w3.heap.size w3 wx ∧ Blk wx B 55 #[.int .i64 1, .int .i64 q.ses, .int .i64 q.seq, .int .i64 q.ack, .int .i64 q.cred, .slice As ns0 cs, .slice Ap np cp]))
    case first =>
      refine wp_region_lexV (.op 0 1 (.op 4 1 (.op 1 1 (.op 2 1 (.op 3 1 (.two 5 10 (.op 6 1 (.op 7 1 (.op 8 1 (.op 9 1 (.op 10 0 (.op 11 0 (.op 12 1 (.op 13 1 .nil)))))))) (.op 5 0 (.op 6 1 (.op 7 1 (.op 8 1 (.op 9 1 (.op 11 0 (.op 12 1 (.op 13 1 .nil)))))))))))))) [] (fun w9 => w9.cell? ⟨X, 8, none⟩ = some (.int .i64 m.r.ses) ∧ w9.cell? ⟨X, 9, none⟩ = some (.int .i64 m.r.lim) ∧ w9.cell? ⟨X, 10, none⟩ = some (.int .i64 m.r.next) ∧ w9.cell? ⟨X, 11, none⟩ = some (.slice Ae ne ce) ∧ w9.cell? ⟨B, 0, none⟩ = some (.int .i64 1) ∧ w9.cell? ⟨B, 1, none⟩ = some (.int .i64 q.ses) ∧ w9.cell? ⟨B, 2, none⟩ = some (.int .i64 q.seq) ∧ w9.cell? ⟨B, 3, none⟩ = some (.int .i64 q.ack) ∧ w9.cell? ⟨B, 4, none⟩ = some (.int .i64 q.cred) ∧ w9.cell? ⟨B, 5, none⟩ = some (.slice As ns0 cs) ∧ w9.cell? ⟨B, 6, none⟩ = some (.slice Ap np cp)) (by kernel_rfl) (by kernel_rfl) (by kernel_rfl) (by kernel_rfl) (by kernel_rfl) ⟨xr8, xr9, xr10, xr11, xk0, xk1, xk2, xk3, xk4, xk5, xk6⟩ ?_
      repeat ((first | (refine lexV_read rfl (by rfl) (by first | exact wanted_none rfl | exact wanted_some (b := true) (c := true) rfl rfl rfl | exact wanted_some (b := false) (c := false) rfl rfl rfl) (by intro w9 hS9; (try dsimp only at hS9); go_simp <;> with_reducible rfl) ?_) | (refine lexV_skip rfl (fun _ => trivial) (by first | exact wanted_some (b := true) (c := false) rfl rfl rfl | exact wanted_some (b := false) (c := true) rfl rfl rfl) ?_) | (refine lexV_builtin rfl (fun _ => trivial) (by first | exact wanted_none rfl | exact wanted_some (b := true) (c := true) rfl rfl rfl | exact wanted_some (b := false) (c := false) rfl rfl rfl) (by intro w9 hS9; (try dsimp only at hS9); go_simp <;> with_reducible rfl) ?_)); (try simp only [Act.put, List.getElem_toArray, List.getElem_cons_succ, List.getElem_cons_zero, List.setIfInBounds_toArray, List.set_cons_zero, List.set_cons_succ]))
      refine lexV_two ?_ ?_
      · have hv1 : RcV V1.drew (w.heap.size + 1) m.r (.agg (rcC m.r (.slice Ae ne ce))) := ⟨_, rfl, (HR.out.1.below (HP1.out.1.drew)).re⟩
        have hc := Receive_any m.r ({ q with kind := 1 } : Pm) _ _ (w.heap.size + 1) V1.drew hv1 HSM.out.2.1 ((HQ1.out V1.drew (HP1.out.1.drew)).low55) ⟨HSP.out.sel, HSP.out.p⟩ (Nat.le_trans hbw3 (Below.size (HP1.out.1.drew)))
        unfold rcC at hc
        clear hv1
        refine lexV_eff rfl (fun _ => trivial) ?_
        go_simp
        refine CallsIn.mono ((callsIn_wide (n := 0)).2 hc) ?_
        rintro e w5 ⟨⟨sv, qv, kv, rfl, hsv, hqv, hkv⟩, hb5⟩
        dsimp only
        rw [HRS.out] at hsv hqv hkv
        dsimp only at hsv hqv hkv
        obtain ⟨ve2, rfl, hE2⟩ := hsv
        obtain ⟨Ae2, ce2, rfl, -, -⟩ := hE2.form
        obtain ⟨A1, c1, rfl, -, -⟩ := hqv.form
        obtain ⟨A2, c2, rfl, -, -⟩ := hkv.form
        rw [HLN.out.2.2.1] at hE2 ⊢
        dsimp only [List.length_nil]
        unfold rcC
        have hw5 := Below.trans (HP1.out.1.drew) (hb5.mono (Below.size (HP1.out.1.drew)))
        have hk5 := HR.out.2.below hw5 hXP
        have hp5 := (HP1.out.2.drew).below hb5 (Blk.lt (HP1.out.2.drew))
        have lX5 := hk5.lt
        have lB5 := hp5.lt
        have ys8 : w5.cell? ⟨X, 8, none⟩ = some (.int .i64 m.r.ses) := hk5.cell 8
        have ys9 : w5.cell? ⟨X, 9, none⟩ = some (.int .i64 m.r.lim) := hk5.cell 9
        have ys10 : w5.cell? ⟨X, 10, none⟩ = some (.int .i64 m.r.next) := hk5.cell 10
        have ys11 : w5.cell? ⟨X, 11, none⟩ = some (.slice Ae ne ce) := hk5.cell 11
        have yk0 : w5.cell? ⟨B, 0, none⟩ = some (.int .i64 1) := hp5.cell 0
        have yk1 : w5.cell? ⟨B, 1, none⟩ = some (.int .i64 q.ses) := hp5.cell 1
        have yk2 : w5.cell? ⟨B, 2, none⟩ = some (.int .i64 q.seq) := hp5.cell 2
        have yk3 : w5.cell? ⟨B, 3, none⟩ = some (.int .i64 q.ack) := hp5.cell 3
        have yk4 : w5.cell? ⟨B, 4, none⟩ = some (.int .i64 q.cred) := hp5.cell 4
        have yk5 : w5.cell? ⟨B, 5, none⟩ = some (.slice As ns0 cs) := hp5.cell 5
        have yk6 : w5.cell? ⟨B, 6, none⟩ = some (.slice Ap np cp) := hp5.cell 6
        have HP9 := Lib.hid (And.intro hE2 (And.intro hw5 hp5))
        clear hc hE2 hw5 hk5 hp5 hb5 hqv hkv xr8 xr9 xr10 xr11 xk0 xk1 xk2 xk3 xk4 xk5 xk6
        refine ⟨⟨ys8, ys9, ys10, ys11, yk0, yk1, yk2, yk3, yk4, yk5, yk6⟩, ?_⟩
        (try simp only [Act.put, List.getElem_toArray, List.getElem_cons_succ, List.getElem_cons_zero, List.setIfInBounds_toArray, List.set_cons_zero, List.set_cons_succ])
        repeat ((first | (refine lexV_read rfl (by rfl) (by first | exact wanted_none rfl | exact wanted_some (b := true) (c := true) rfl rfl rfl | exact wanted_some (b := false) (c := false) rfl rfl rfl) (by intro w9 hS9; (try dsimp only at hS9); go_simp <;> with_reducible rfl) ?_) | (refine lexV_skip rfl (fun _ => trivial) (by first | exact wanted_some (b := true) (c := false) rfl rfl rfl | exact wanted_some (b := false) (c := true) rfl rfl rfl) ?_) | (refine lexV_builtin rfl (fun _ => trivial) (by first | exact wanted_none rfl | exact wanted_some (b := true) (c := true) rfl rfl rfl | exact wanted_some (b := false) (c := false) rfl rfl rfl) (by intro w9 hS9; (try dsimp only at hS9); go_simp <;> with_reducible rfl) ?_)); (try simp only [Act.put, List.getElem_toArray, List.getElem_cons_succ, List.getElem_cons_zero, List.setIfInBounds_toArray, List.set_cons_zero, List.set_cons_succ]))
        refine lexV_eff rfl (fun _ => trivial) ?_
        go_simp
        (try simp only [Act.put, List.getElem_toArray, List.getElem_cons_succ, List.getElem_cons_zero, List.setIfInBounds_toArray, List.set_cons_zero, List.set_cons_succ])
        refine lexV_eff rfl (fun _ => trivial) ?_
        go_simp
        (try simp only [Act.put, List.getElem_toArray, List.getElem_cons_succ, List.getElem_cons_zero, List.setIfInBounds_toArray, List.set_cons_zero, List.set_cons_succ])
        repeat ((first | (refine lexV_read rfl (by rfl) (by first | exact wanted_none rfl | exact wanted_some (b := true) (c := true) rfl rfl rfl | exact wanted_some (b := false) (c := false) rfl rfl rfl) (by intro w9 hS9; (try dsimp only at hS9); go_simp <;> with_reducible rfl) ?_) | (refine lexV_skip rfl (fun _ => trivial) (by first | exact wanted_some (b := true) (c := false) rfl rfl rfl | exact wanted_some (b := false) (c := true) rfl rfl rfl) ?_) | (refine lexV_builtin rfl (fun _ => trivial) (by first | exact wanted_none rfl | exact wanted_some (b := true) (c := true) rfl rfl rfl | exact wanted_some (b := false) (c := false) rfl rfl rfl) (by intro w9 hS9; (try dsimp only at hS9); go_simp <;> with_reducible rfl) ?_)); (try simp only [Act.put, List.getElem_toArray, List.getElem_cons_succ, List.getElem_cons_zero, List.setIfInBounds_toArray, List.set_cons_zero, List.set_cons_succ]))
        refine lexV_nil (panQ_normal ?_)
        clear ys8 ys9 ys10 ys11 yk0 yk1 yk2 yk3 yk4 yk5 yk6
        have hb6 : Below w5.heap.size w5 (w5.alloc (.cells #[.int .i64 m.r.ses, .int .i64 m.r.lim, .int .i64 m.r.next, .slice Ae2 ne ce2] 33)) := (Below.refl _ w5).alloc (Nat.le_refl _) _
        have HF9 : Hid (Blk (w5.alloc (.cells #[.int .i64 m.r.ses, .int .i64 m.r.lim, .int .i64 m.r.next, .slice Ae2 ne ce2] 33)) w5.heap.size 33 #[.int .i64 m.r.ses, .int .i64 m.r.lim, .int .i64 m.r.next, .slice Ae2 ne ce2] ∧ AsV (w5.alloc (.cells #[.int .i64 m.r.ses, .int .i64 m.r.lim, .int .i64 m.r.next, .slice Ae2 ne ce2] 33)) (w.heap.size + 1) m.r.early (.slice Ae2 ne ce2) ∧ Below w3.heap.size w3 (w5.alloc (.cells #[.int .i64 m.r.ses, .int .i64 m.r.lim, .int .i64 m.r.next, .slice Ae2 ne ce2] 33)) ∧ Blk (w5.alloc (.cells #[.int .i64 m.r.ses, .int .i64 m.r.lim, .int .i64 m.r.next, .slice Ae2 ne ce2] 33)) B 55 #[.int .i64 1, .int .i64 q.ses, .int .i64 q.seq, .int .i64 q.ack, .int .i64 q.cred, .slice As ns0 cs, .slice Ap np cp]) := ⟨Blk.new w5 33 _, HP9.out.1.up hb6, HP9.out.2.1.trans (hb6.mono HP9.out.2.1.size), HP9.out.2.2.below hb6 lB5⟩
        clear hb6 HP9
        try go_wp2_with fail
        go_meet
        exact ⟨_, Ae2, ce2, A1, c1, A2, c2, rfl, rfl, rfl, HF9⟩
      · have hbz : Below V1.heap.size V1 (V1.alloc (.cells #[.int .i64 0, .int .i64 0, .int .i64 0, .slice none 0 0] 33)).drew := ((Below.refl _ V1).alloc (Nat.le_refl _) _).drew
        have HZ := Lib.hid (And.intro (HP1.out.1.trans (hbz.mono HP1.out.1.size)) (And.intro (HP1.out.2.below hbz lB1) (Blk.new V1 33 #[.int .i64 0, .int .i64 0, .int .i64 0, .slice none 0 0]).drew))
        clear hbz
        refine lexV_eff rfl (fun _ => trivial) ?_
        go_simp
        (try simp only [Act.put, List.getElem_toArray, List.getElem_cons_succ, List.getElem_cons_zero, List.setIfInBounds_toArray, List.set_cons_zero, List.set_cons_succ])
        repeat ((first | (refine lexV_read rfl (by rfl) (by first | exact wanted_none rfl | exact wanted_some (b := true) (c := true) rfl rfl rfl | exact wanted_some (b := false) (c := false) rfl rfl rfl) (by intro w9 hS9; (try dsimp only at hS9); go_simp <;> with_reducible rfl) ?_) | (refine lexV_skip rfl (fun _ => trivial) (by first | exact wanted_some (b := true) (c := false) rfl rfl rfl | exact wanted_some (b := false) (c := true) rfl rfl rfl) ?_) | (refine lexV_builtin rfl (fun _ => trivial) (by first | exact wanted_none rfl | exact wanted_some (b := true) (c := true) rfl rfl rfl | exact wanted_some (b := false) (c := false) rfl rfl rfl) (by intro w9 hS9; (try dsimp only at hS9); go_simp <;> with_reducible rfl) ?_)); (try simp only [Act.put, List.getElem_toArray, List.getElem_cons_succ, List.getElem_cons_zero, List.setIfInBounds_toArray, List.set_cons_zero, List.set_cons_succ]))
        obtain ⟨G, hG⟩ : ∃ x, x = V1.heap.size := ⟨_, rfl⟩
        have hXG : X < G := by rw [hG]; exact lX1
        have hBG : B < G := by rw [hG]; exact lB1
        have hGw : w3.heap.size ≤ G := by omega
        have hbG : w.heap.size + 1 ≤ G := by omega
        rw [← hG] at HZ ⊢
        clear hG
        generalize (V1.alloc (.cells #[.int .i64 0, .int .i64 0, .int .i64 0, .slice none 0 0] 33)).drew = V2 at *
        have hv1 : RcV V2 (w.heap.size + 1) m.r (.agg (rcC m.r (.slice Ae ne ce))) := ⟨_, rfl, (HR.out.1.below HZ.out.1).re⟩
        have hc := Receive_any m.r ({ q with kind := 1 } : Pm) _ _ (w.heap.size + 1) V2 hv1 HSM.out.2.1 ((HQ1.out V2 HZ.out.1).low55) ⟨HSP.out.sel, HSP.out.p⟩ (Nat.le_trans hbw3 (Below.size HZ.out.1))
        unfold rcC at hc
        clear hv1
        refine lexV_eff rfl (fun _ => trivial) ?_
        go_simp
        refine CallsIn.mono ((callsIn_wide (n := 0)).2 hc) ?_
        rintro e w5 ⟨⟨sv, qv, kv, rfl, hsv, hqv, hkv⟩, hb5⟩
        dsimp only
        rw [HRS.out] at hsv hqv hkv
        dsimp only at hsv hqv hkv
        obtain ⟨ve2, rfl, hE2⟩ := hsv
        obtain ⟨Ae2, ce2, rfl, -, -⟩ := hE2.form
        obtain ⟨A1, c1, rfl, -, -⟩ := hqv.form
        obtain ⟨A2, c2, rfl, -, -⟩ := hkv.form
        rw [HLN.out.2.2.1] at hE2 ⊢
        dsimp only [List.length_nil]
        unfold rcC
        have hw5 := Below.trans HZ.out.1 (hb5.mono (Below.size HZ.out.1))
        have hk5 := HR.out.2.below hw5 hXP
        have hp5 := (HZ.out.2.1).below hb5 (Blk.lt (HZ.out.2.1))
        have lX5 := hk5.lt
        have lB5 := hp5.lt
        have ys8 : w5.cell? ⟨X, 8, none⟩ = some (.int .i64 m.r.ses) := hk5.cell 8
        have ys9 : w5.cell? ⟨X, 9, none⟩ = some (.int .i64 m.r.lim) := hk5.cell 9
        have ys10 : w5.cell? ⟨X, 10, none⟩ = some (.int .i64 m.r.next) := hk5.cell 10
        have ys11 : w5.cell? ⟨X, 11, none⟩ = some (.slice Ae ne ce) := hk5.cell 11
        have yk0 : w5.cell? ⟨B, 0, none⟩ = some (.int .i64 1) := hp5.cell 0
        have yk1 : w5.cell? ⟨B, 1, none⟩ = some (.int .i64 q.ses) := hp5.cell 1
        have yk2 : w5.cell? ⟨B, 2, none⟩ = some (.int .i64 q.seq) := hp5.cell 2
        have yk3 : w5.cell? ⟨B, 3, none⟩ = some (.int .i64 q.ack) := hp5.cell 3
        have yk4 : w5.cell? ⟨B, 4, none⟩ = some (.int .i64 q.cred) := hp5.cell 4
        have yk5 : w5.cell? ⟨B, 5, none⟩ = some (.slice As ns0 cs) := hp5.cell 5
        have yk6 : w5.cell? ⟨B, 6, none⟩ = some (.slice Ap np cp) := hp5.cell 6
        have HQZ := Lib.hid (HZ.out.2.2.below hb5 HZ.out.2.2.lt)
        have yq0 : w5.cell? ⟨G, 0, none⟩ = some (.int .i64 0) := HQZ.out.cell 0
        have yq1 : w5.cell? ⟨G, 1, none⟩ = some (.int .i64 0) := HQZ.out.cell 1
        have yq2 : w5.cell? ⟨G, 2, none⟩ = some (.int .i64 0) := HQZ.out.cell 2
        have yq3 : w5.cell? ⟨G, 3, none⟩ = some (.slice none 0 0) := HQZ.out.cell 3
        have yw0 := HQZ.out.frozen 0
        have yw1 := HQZ.out.frozen 1
        have yw2 := HQZ.out.frozen 2
        have yw3 := HQZ.out.frozen 3
        have lQ5 := HQZ.out.lt
        have HP9 := Lib.hid (And.intro hE2 (And.intro hw5 hp5))
        clear hc hE2 hw5 hk5 hp5 hb5 hqv hkv xr8 xr9 xr10 xr11 xk0 xk1 xk2 xk3 xk4 xk5 xk6 HZ
        refine ⟨⟨ys8, ys9, ys10, ys11, yk0, yk1, yk2, yk3, yk4, yk5, yk6⟩, ?_⟩
        (try simp only [Act.put, List.getElem_toArray, List.getElem_cons_succ, List.getElem_cons_zero, List.setIfInBounds_toArray, List.set_cons_zero, List.set_cons_succ])
        repeat ((first | (refine lexV_read rfl (by rfl) (by first | exact wanted_none rfl | exact wanted_some (b := true) (c := true) rfl rfl rfl | exact wanted_some (b := false) (c := false) rfl rfl rfl) (by intro w9 hS9; (try dsimp only at hS9); go_simp <;> with_reducible rfl) ?_) | (refine lexV_skip rfl (fun _ => trivial) (by first | exact wanted_some (b := true) (c := false) rfl rfl rfl | exact wanted_some (b := false) (c := true) rfl rfl rfl) ?_) | (refine lexV_builtin rfl (fun _ => trivial) (by first | exact wanted_none rfl | exact wanted_some (b := true) (c := true) rfl rfl rfl | exact wanted_some (b := false) (c := false) rfl rfl rfl) (by intro w9 hS9; (try dsimp only at hS9); go_simp <;> with_reducible rfl) ?_)); (try simp only [Act.put, List.getElem_toArray, List.getElem_cons_succ, List.getElem_cons_zero, List.setIfInBounds_toArray, List.set_cons_zero, List.set_cons_succ]))
        refine lexV_eff rfl (fun _ => trivial) ?_
        go_simp
        (try simp only [Act.put, List.getElem_toArray, List.getElem_cons_succ, List.getElem_cons_zero, List.setIfInBounds_toArray, List.set_cons_zero, List.set_cons_succ])
        repeat ((first | (refine lexV_read rfl (by rfl) (by first | exact wanted_none rfl | exact wanted_some (b := true) (c := true) rfl rfl rfl | exact wanted_some (b := false) (c := false) rfl rfl rfl) (by intro w9 hS9; (try dsimp only at hS9); go_simp <;> with_reducible rfl) ?_) | (refine lexV_skip rfl (fun _ => trivial) (by first | exact wanted_some (b := true) (c := false) rfl rfl rfl | exact wanted_some (b := false) (c := true) rfl rfl rfl) ?_) | (refine lexV_builtin rfl (fun _ => trivial) (by first | exact wanted_none rfl | exact wanted_some (b := true) (c := true) rfl rfl rfl | exact wanted_some (b := false) (c := false) rfl rfl rfl) (by intro w9 hS9; (try dsimp only at hS9); go_simp <;> with_reducible rfl) ?_)); (try simp only [Act.put, List.getElem_toArray, List.getElem_cons_succ, List.getElem_cons_zero, List.setIfInBounds_toArray, List.set_cons_zero, List.set_cons_succ]))
        refine lexV_nil (panQ_normal ?_)
        clear ys8 ys9 ys10 ys11 yk0 yk1 yk2 yk3 yk4 yk5 yk6 yq0 yw0 yq1 yw1 yq2 yw2 yq3 yw3 lQ5
        have hkq3 := set33_blk HQZ.out (.int .i64 m.r.ses) (.int .i64 m.r.lim) (.int .i64 m.r.next) (.slice Ae2 ne ce2)
        have hT3 := set33_turn HQZ.out (base := w.heap.size + 1) hbG (.int .i64 m.r.ses) (.int .i64 m.r.lim) (.int .i64 m.r.next) (.slice Ae2 ne ce2)
        have hb3 := set33_below HP9.out.2.1 (g := G) hGw (.int .i64 m.r.ses) (.int .i64 m.r.lim) (.int .i64 m.r.next) (.slice Ae2 ne ce2)
        have HF9 : Hid (Blk ((((w5.setCell ⟨G, 0, none⟩ (.int .i64 m.r.ses)).setCell ⟨G, 1, none⟩ (.int .i64 m.r.lim)).setCell ⟨G, 2, none⟩ (.int .i64 m.r.next)).setCell ⟨G, 3, none⟩ (.slice Ae2 ne ce2)) G 33 #[.int .i64 m.r.ses, .int .i64 m.r.lim, .int .i64 m.r.next, .slice Ae2 ne ce2] ∧ AsV ((((w5.setCell ⟨G, 0, none⟩ (.int .i64 m.r.ses)).setCell ⟨G, 1, none⟩ (.int .i64 m.r.lim)).setCell ⟨G, 2, none⟩ (.int .i64 m.r.next)).setCell ⟨G, 3, none⟩ (.slice Ae2 ne ce2)) (w.heap.size + 1) m.r.early (.slice Ae2 ne ce2) ∧ Below w3.heap.size w3 ((((w5.setCell ⟨G, 0, none⟩ (.int .i64 m.r.ses)).setCell ⟨G, 1, none⟩ (.int .i64 m.r.lim)).setCell ⟨G, 2, none⟩ (.int .i64 m.r.next)).setCell ⟨G, 3, none⟩ (.slice Ae2 ne ce2)) ∧ Blk ((((w5.setCell ⟨G, 0, none⟩ (.int .i64 m.r.ses)).setCell ⟨G, 1, none⟩ (.int .i64 m.r.lim)).setCell ⟨G, 2, none⟩ (.int .i64 m.r.next)).setCell ⟨G, 3, none⟩ (.slice Ae2 ne ce2)) B 55 #[.int .i64 1, .int .i64 q.ses, .int .i64 q.seq, .int .i64 q.ack, .int .i64 q.cred, .slice As ns0 cs, .slice Ap np cp]) := ⟨hkq3, HP9.out.1.turn hT3 (by simp) (by simp), hb3, HP9.out.2.2.turn hT3 (by simp)⟩
        clear hkq3 hT3 hb3 HP9 HQZ
        try go_wp2_with fail
        go_meet
        exact ⟨_, Ae2, ce2, A1, c1, A2, c2, rfl, rfl, rfl, HF9⟩
    case rest =>
      obtain ⟨G, Ae2, ce2, A1, c1, A2, c2, rfl, rfl, rfl, HG⟩ := hcut
      clear HP1 lX1 lB1 xr8 xr9 xr10 xr11 xk0 xk1 xk2 xk3 xk4 xk5 xk6
      have hk73 := HR.out.2.below HG.out.2.2.1 hXP
      have H16 := Lib.hid (fun w9 (hb9 : Below wc.heap.size wc w9) => SameReceiver_true m.r (.agg #[.int .i64 m.r.ses, .int .i64 m.r.lim, .int .i64 m.r.next, .slice Ae2 ne ce2]) (.agg #[.int .i64 m.r.ses, .int .i64 m.r.lim, .int .i64 m.r.next, .slice Ae ne ce]) (w.heap.size + 1) (w.heap.size + 1) w9 ⟨_, rfl, HG.out.2.1.up hb9⟩ ⟨_, rfl, ((HR.out.1.below HG.out.2.2.1).below hb9).re⟩ HSM.out.2.1)
      go_upto_region 10 with fail
      go_region_held3 (fun w' => w'.cell? ⟨G, 0, none⟩ = some (.int .i64 m.r.ses) ∧ w'.cell? ⟨G, 1, none⟩ = some (.int .i64 m.r.lim) ∧ w'.cell? ⟨G, 2, none⟩ = some (.int .i64 m.r.next) ∧ w'.cell? ⟨G, 3, none⟩ = some (.slice Ae2 ne ce2) ∧ w'.cell? ⟨X, 8, none⟩ = some (.int .i64 m.r.ses) ∧ w'.cell? ⟨X, 9, none⟩ = some (.int .i64 m.r.lim) ∧ w'.cell? ⟨X, 10, none⟩ = some (.int .i64 m.r.next) ∧ w'.cell? ⟨X, 11, none⟩ = some (.slice Ae ne ce) ∧ Below wc.heap.size wc w')
        (first
          | exact b33_held ((Below.refl _ wc).drew) HG.out.1 hk73
          | (go_split_ands; refine b33_held (below_step ?_ hb') HG.out.1 hk73; assumption)
          | (go_split_ands; refine ⟨?_, ?_, ?_, ?_, ?_, ?_, ?_, ?_, ?_⟩ <;> assumption))
        (first
          | (go_at_call 16; refine (H16.out _ ?_).mono ?_; (go_split_ands; assumption); rintro e w' ⟨rfl, hb'⟩))
      rename_i hS
      clear hb'
      generalize w' = w4 at *
      have hb4 := hS.2.2.2.2.2.2.2.2
      have HP4 := Lib.hid (And.intro (HG.out.2.2.1.trans (hb4.mono HG.out.2.2.1.size)) (HG.out.2.2.2.below hb4 HG.out.2.2.2.lt))
      clear hS H16 hb4 hk73 HG
      have xp0 : w4.cell? ⟨B, 0, none⟩ = some (.int .i64 1) := HP4.out.2.cell 0
      have xp1 : w4.cell? ⟨B, 1, none⟩ = some (.int .i64 q.ses) := HP4.out.2.cell 1
      have xp2 : w4.cell? ⟨B, 2, none⟩ = some (.int .i64 q.seq) := HP4.out.2.cell 2
      have xp3 : w4.cell? ⟨B, 3, none⟩ = some (.int .i64 q.ack) := HP4.out.2.cell 3
      have xp4 : w4.cell? ⟨B, 4, none⟩ = some (.int .i64 q.cred) := HP4.out.2.cell 4
      have xp5 : w4.cell? ⟨B, 5, none⟩ = some (.slice As ns0 cs) := HP4.out.2.cell 5
      have xp6 : w4.cell? ⟨B, 6, none⟩ = some (.slice Ap np cp) := HP4.out.2.cell 6
      have xy0 := HP4.out.2.frozen 0
      have lB := HP4.out.2.lt
      go_upto_region 14 with fail
      have HP5 : Hid (Below w3.heap.size w3 (w4.setCell ⟨B, 0, none⟩ (.int .i64 0)) ∧ Blk (w4.setCell ⟨B, 0, none⟩ (.int .i64 0)) B 55 #[.int .i64 0, .int .i64 q.ses, .int .i64 q.seq, .int .i64 q.ack, .int .i64 q.cred, .slice As ns0 cs, .slice Ap np cp]) := by
        have hk1 := HP4.out.2.set_ 0 (.int .i64 0)
        simp only [List.setIfInBounds_toArray, List.set_cons_zero] at hk1
        exact ⟨HP4.out.1.setCell (p := ⟨B, 0, none⟩) hB2 _, hk1⟩
      clear HP4 xp0 xp1 xp2 xp3 xp4 xp5 xp6 xy0 lB
      generalize (w4.setCell ⟨B, 0, none⟩ (.int .i64 0)) = V5 at *
      have xr0 : V5.cell? ⟨X, 0, none⟩ = some (.int .i64 m.s.ses) := (HR.out.2.below HP5.out.1 hXP).cell 0
      have xr1 : V5.cell? ⟨X, 1, none⟩ = some (.int .i64 m.s.lim) := (HR.out.2.below HP5.out.1 hXP).cell 1
      have xr2 : V5.cell? ⟨X, 2, none⟩ = some (.int .i64 m.s.tmo) := (HR.out.2.below HP5.out.1 hXP).cell 2
      have xr3 : V5.cell? ⟨X, 3, none⟩ = some (.int .i64 m.s.base) := (HR.out.2.below HP5.out.1 hXP).cell 3
      have xr4 : V5.cell? ⟨X, 4, none⟩ = some (.int .i64 m.s.next) := (HR.out.2.below HP5.out.1 hXP).cell 4
      have xr5 : V5.cell? ⟨X, 5, none⟩ = some (.int .i64 m.s.cred) := (HR.out.2.below HP5.out.1 hXP).cell 5
      have xr6 : V5.cell? ⟨X, 6, none⟩ = some (.slice Ao no co) := (HR.out.2.below HP5.out.1 hXP).cell 6
      have xr7 : V5.cell? ⟨X, 7, none⟩ = some (.slice Aq nq cq) := (HR.out.2.below HP5.out.1 hXP).cell 7
      have xr16 : V5.cell? ⟨X, 16, none⟩ = some (.int .i64 m.now) := (HR.out.2.below HP5.out.1 hXP).cell 16
      have xk0 : V5.cell? ⟨B, 0, none⟩ = some (.int .i64 0) := HP5.out.2.cell 0
      have xk1 : V5.cell? ⟨B, 1, none⟩ = some (.int .i64 q.ses) := HP5.out.2.cell 1
      have xk2 : V5.cell? ⟨B, 2, none⟩ = some (.int .i64 q.seq) := HP5.out.2.cell 2
      have xk3 : V5.cell? ⟨B, 3, none⟩ = some (.int .i64 q.ack) := HP5.out.2.cell 3
      have xk4 : V5.cell? ⟨B, 4, none⟩ = some (.int .i64 q.cred) := HP5.out.2.cell 4
      have xk5 : V5.cell? ⟨B, 5, none⟩ = some (.slice As ns0 cs) := HP5.out.2.cell 5
      have xk6 : V5.cell? ⟨B, 6, none⟩ = some (.slice Ap np cp) := HP5.out.2.cell 6
      have lX1 := (HR.out.2.below HP5.out.1 hXP).lt
      have lB1 := HP5.out.2.lt
      go_cut [13, 14] from 81 to 93 (fun s13 s14 wx => ∃ (G : Nat) (Ao2 : Option Addr) (co2 : Nat) (Aq2 : Option Addr) (cq2 : Nat), s13 = .pointer (some ⟨G, 0, none⟩) ∧ s14 = .int .i64 (-1) ∧ Hid (Blk wx G 25 #[.int .i64 m.s.ses, .int .i64 m.s.lim, .int .i64 m.s.tmo, .int .i64 m.s.base, .int .i64 m.s.next, .int .i64 m.s.cred, .slice Ao2 no co2, .slice Aq2 nq cq2] ∧ OsV wx (w.heap.size + 1) m.s.out (.slice Ao2 no co2) ∧ QsV wx (w.heap.size + 1) m.s.q (.slice Aq2 nq cq2) ∧ Below w3.heap.size w3 wx))
      case first =>
        refine wp_region_lexV (.op 0 1 (.op 4 1 (.op 8 1 (.op 1 1 (.op 5 1 (.op 2 1 (.op 6 1 (.op 3 1 (.op 7 1 (.two 9 13 (.op 10 1 (.op 11 1 (.op 12 1 (.op 13 0 (.op 14 0 (.op 15 1 .nil)))))) (.op 9 0 (.op 10 1 (.op 11 1 (.op 12 1 (.op 14 0 (.op 15 1 .nil)))))))))))))))) [] (fun w9 => w9.cell? ⟨X, 0, none⟩ = some (.int .i64 m.s.ses) ∧ w9.cell? ⟨X, 1, none⟩ = some (.int .i64 m.s.lim) ∧ w9.cell? ⟨X, 2, none⟩ = some (.int .i64 m.s.tmo) ∧ w9.cell? ⟨X, 3, none⟩ = some (.int .i64 m.s.base) ∧ w9.cell? ⟨X, 4, none⟩ = some (.int .i64 m.s.next) ∧ w9.cell? ⟨X, 5, none⟩ = some (.int .i64 m.s.cred) ∧ w9.cell? ⟨X, 6, none⟩ = some (.slice Ao no co) ∧ w9.cell? ⟨X, 7, none⟩ = some (.slice Aq nq cq) ∧ w9.cell? ⟨X, 16, none⟩ = some (.int .i64 m.now) ∧ w9.cell? ⟨B, 0, none⟩ = some (.int .i64 0) ∧ w9.cell? ⟨B, 1, none⟩ = some (.int .i64 q.ses) ∧ w9.cell? ⟨B, 2, none⟩ = some (.int .i64 q.seq) ∧ w9.cell? ⟨B, 3, none⟩ = some (.int .i64 q.ack) ∧ w9.cell? ⟨B, 4, none⟩ = some (.int .i64 q.cred) ∧ w9.cell? ⟨B, 5, none⟩ = some (.slice As ns0 cs) ∧ w9.cell? ⟨B, 6, none⟩ = some (.slice Ap np cp)) (by kernel_rfl) (by kernel_rfl) (by kernel_rfl) (by kernel_rfl) (by kernel_rfl) ⟨xr0, xr1, xr2, xr3, xr4, xr5, xr6, xr7, xr16, xk0, xk1, xk2, xk3, xk4, xk5, xk6⟩ ?_
        repeat ((first | (refine lexV_read rfl (by rfl) (by first | exact wanted_none rfl | exact wanted_some (b := true) (c := true) rfl rfl rfl | exact wanted_some (b := false) (c := false) rfl rfl rfl) (by intro w9 hS9; (try dsimp only at hS9); go_simp <;> with_reducible rfl) ?_) | (refine lexV_skip rfl (fun _ => trivial) (by first | exact wanted_some (b := true) (c := false) rfl rfl rfl | exact wanted_some (b := false) (c := true) rfl rfl rfl) ?_) | (refine lexV_builtin rfl (fun _ => trivial) (by first | exact wanted_none rfl | exact wanted_some (b := true) (c := true) rfl rfl rfl | exact wanted_some (b := false) (c := false) rfl rfl rfl) (by intro w9 hS9; (try dsimp only at hS9); go_simp <;> with_reducible rfl) ?_)); (try simp only [Act.put, List.getElem_toArray, List.getElem_cons_succ, List.getElem_cons_zero, List.setIfInBounds_toArray, List.set_cons_zero, List.set_cons_succ]))
        refine lexV_two ?_ ?_
        · have hv1 : SnV V5.drew (w.heap.size + 1) m.s (.agg (snC m.s (.slice Ao no co) (.slice Aq nq cq))) := ⟨_, _, rfl, (HR.out.1.below (HP5.out.1.drew)).so, (HR.out.1.below (HP5.out.1.drew)).sq⟩
          have hc := Ack_any m.s m.now ({ q with kind := 0 } : Pm) _ _ (w.heap.size + 1) V5.drew hv1 HSM.out.1 ((HQ2.out V5.drew (HP5.out.1.drew)).low55) ⟨HSP.out.sel, HSP.out.p⟩ (Nat.le_trans hbw3 (Below.size (HP5.out.1.drew)))
          unfold snC at hc
          clear hv1
          refine lexV_eff rfl (fun _ => trivial) ?_
          go_simp
          refine CallsIn.mono ((callsIn_wide (n := 0)).2 hc) ?_
          rintro e w5 ⟨⟨sv, n5, rfl, hsv, hn5⟩, hb5⟩
          dsimp only
          rw [HAS.out] at hsv hn5
          dsimp only at hsv hn5
          subst hn5
          obtain ⟨vo2, vq2, rfl, hO2, hQ2⟩ := hsv
          obtain ⟨Ao2, co2, rfl, -, -⟩ := hO2.form
          obtain ⟨Aq2, cq2, rfl, -, -⟩ := hQ2.form
          rw [HLN.out.1] at hO2 ⊢
          rw [HLN.out.2.1] at hQ2 ⊢
          unfold snC
          have hw5 := Below.trans (HP5.out.1.drew) (hb5.mono (Below.size (HP5.out.1.drew)))
          have hk5 := HR.out.2.below hw5 hXP
          have hp5 := (HP5.out.2.drew).below hb5 (Blk.lt (HP5.out.2.drew))
          have lX5 := hk5.lt
          have lB5 := hp5.lt
          have ys0 : w5.cell? ⟨X, 0, none⟩ = some (.int .i64 m.s.ses) := hk5.cell 0
          have ys1 : w5.cell? ⟨X, 1, none⟩ = some (.int .i64 m.s.lim) := hk5.cell 1
          have ys2 : w5.cell? ⟨X, 2, none⟩ = some (.int .i64 m.s.tmo) := hk5.cell 2
          have ys3 : w5.cell? ⟨X, 3, none⟩ = some (.int .i64 m.s.base) := hk5.cell 3
          have ys4 : w5.cell? ⟨X, 4, none⟩ = some (.int .i64 m.s.next) := hk5.cell 4
          have ys5 : w5.cell? ⟨X, 5, none⟩ = some (.int .i64 m.s.cred) := hk5.cell 5
          have ys6 : w5.cell? ⟨X, 6, none⟩ = some (.slice Ao no co) := hk5.cell 6
          have ys7 : w5.cell? ⟨X, 7, none⟩ = some (.slice Aq nq cq) := hk5.cell 7
          have ys16 : w5.cell? ⟨X, 16, none⟩ = some (.int .i64 m.now) := hk5.cell 16
          have yk0 : w5.cell? ⟨B, 0, none⟩ = some (.int .i64 0) := hp5.cell 0
          have yk1 : w5.cell? ⟨B, 1, none⟩ = some (.int .i64 q.ses) := hp5.cell 1
          have yk2 : w5.cell? ⟨B, 2, none⟩ = some (.int .i64 q.seq) := hp5.cell 2
          have yk3 : w5.cell? ⟨B, 3, none⟩ = some (.int .i64 q.ack) := hp5.cell 3
          have yk4 : w5.cell? ⟨B, 4, none⟩ = some (.int .i64 q.cred) := hp5.cell 4
          have yk5 : w5.cell? ⟨B, 5, none⟩ = some (.slice As ns0 cs) := hp5.cell 5
          have yk6 : w5.cell? ⟨B, 6, none⟩ = some (.slice Ap np cp) := hp5.cell 6
          have HP9 := Lib.hid (And.intro hO2 (And.intro hQ2 hw5))
          clear hc hO2 hQ2 hw5 hk5 hp5 hb5 xr0 xr1 xr2 xr3 xr4 xr5 xr6 xr7 xr16 xk0 xk1 xk2 xk3 xk4 xk5 xk6
          refine ⟨⟨ys0, ys1, ys2, ys3, ys4, ys5, ys6, ys7, ys16, yk0, yk1, yk2, yk3, yk4, yk5, yk6⟩, ?_⟩
          (try simp only [Act.put, List.getElem_toArray, List.getElem_cons_succ, List.getElem_cons_zero, List.setIfInBounds_toArray, List.set_cons_zero, List.set_cons_succ])
          repeat ((first | (refine lexV_read rfl (by rfl) (by first | exact wanted_none rfl | exact wanted_some (b := true) (c := true) rfl rfl rfl | exact wanted_some (b := false) (c := false) rfl rfl rfl) (by intro w9 hS9; (try dsimp only at hS9); go_simp <;> with_reducible rfl) ?_) | (refine lexV_skip rfl (fun _ => trivial) (by first | exact wanted_some (b := true) (c := false) rfl rfl rfl | exact wanted_some (b := false) (c := true) rfl rfl rfl) ?_) | (refine lexV_builtin rfl (fun _ => trivial) (by first | exact wanted_none rfl | exact wanted_some (b := true) (c := true) rfl rfl rfl | exact wanted_some (b := false) (c := false) rfl rfl rfl) (by intro w9 hS9; (try dsimp only at hS9); go_simp <;> with_reducible rfl) ?_)); (try simp only [Act.put, List.getElem_toArray, List.getElem_cons_succ, List.getElem_cons_zero, List.setIfInBounds_toArray, List.set_cons_zero, List.set_cons_succ]))
          refine lexV_eff rfl (fun _ => trivial) ?_
          go_simp
          (try simp only [Act.put, List.getElem_toArray, List.getElem_cons_succ, List.getElem_cons_zero, List.setIfInBounds_toArray, List.set_cons_zero, List.set_cons_succ])
          refine lexV_eff rfl (fun _ => trivial) ?_
          go_simp
          (try simp only [Act.put, List.getElem_toArray, List.getElem_cons_succ, List.getElem_cons_zero, List.setIfInBounds_toArray, List.set_cons_zero, List.set_cons_succ])
          repeat ((first | (refine lexV_read rfl (by rfl) (by first | exact wanted_none rfl | exact wanted_some (b := true) (c := true) rfl rfl rfl | exact wanted_some (b := false) (c := false) rfl rfl rfl) (by intro w9 hS9; (try dsimp only at hS9); go_simp <;> with_reducible rfl) ?_) | (refine lexV_skip rfl (fun _ => trivial) (by first | exact wanted_some (b := true) (c := false) rfl rfl rfl | exact wanted_some (b := false) (c := true) rfl rfl rfl) ?_) | (refine lexV_builtin rfl (fun _ => trivial) (by first | exact wanted_none rfl | exact wanted_some (b := true) (c := true) rfl rfl rfl | exact wanted_some (b := false) (c := false) rfl rfl rfl) (by intro w9 hS9; (try dsimp only at hS9); go_simp <;> with_reducible rfl) ?_)); (try simp only [Act.put, List.getElem_toArray, List.getElem_cons_succ, List.getElem_cons_zero, List.setIfInBounds_toArray, List.set_cons_zero, List.set_cons_succ]))
          refine lexV_nil (panQ_normal ?_)
          clear ys0 ys1 ys2 ys3 ys4 ys5 ys6 ys7 ys16 yk0 yk1 yk2 yk3 yk4 yk5 yk6
          have hb6 : Below w5.heap.size w5 (w5.alloc (.cells #[.int .i64 m.s.ses, .int .i64 m.s.lim, .int .i64 m.s.tmo, .int .i64 m.s.base, .int .i64 m.s.next, .int .i64 m.s.cred, .slice Ao2 no co2, .slice Aq2 nq cq2] 25)) := (Below.refl _ w5).alloc (Nat.le_refl _) _
          have HF9 : Hid (Blk (w5.alloc (.cells #[.int .i64 m.s.ses, .int .i64 m.s.lim, .int .i64 m.s.tmo, .int .i64 m.s.base, .int .i64 m.s.next, .int .i64 m.s.cred, .slice Ao2 no co2, .slice Aq2 nq cq2] 25)) w5.heap.size 25 #[.int .i64 m.s.ses, .int .i64 m.s.lim, .int .i64 m.s.tmo, .int .i64 m.s.base, .int .i64 m.s.next, .int .i64 m.s.cred, .slice Ao2 no co2, .slice Aq2 nq cq2] ∧ OsV (w5.alloc (.cells #[.int .i64 m.s.ses, .int .i64 m.s.lim, .int .i64 m.s.tmo, .int .i64 m.s.base, .int .i64 m.s.next, .int .i64 m.s.cred, .slice Ao2 no co2, .slice Aq2 nq cq2] 25)) (w.heap.size + 1) m.s.out (.slice Ao2 no co2) ∧ QsV (w5.alloc (.cells #[.int .i64 m.s.ses, .int .i64 m.s.lim, .int .i64 m.s.tmo, .int .i64 m.s.base, .int .i64 m.s.next, .int .i64 m.s.cred, .slice Ao2 no co2, .slice Aq2 nq cq2] 25)) (w.heap.size + 1) m.s.q (.slice Aq2 nq cq2) ∧ Below w3.heap.size w3 (w5.alloc (.cells #[.int .i64 m.s.ses, .int .i64 m.s.lim, .int .i64 m.s.tmo, .int .i64 m.s.base, .int .i64 m.s.next, .int .i64 m.s.cred, .slice Ao2 no co2, .slice Aq2 nq cq2] 25))) := ⟨Blk.new w5 25 _, HP9.out.1.up hb6, HP9.out.2.1.up hb6, HP9.out.2.2.trans (hb6.mono HP9.out.2.2.size)⟩
          clear hb6 HP9
          try go_wp2_with fail
          go_meet
          exact ⟨_, Ao2, co2, Aq2, cq2, rfl, rfl, HF9⟩
        · have hbz : Below V5.heap.size V5 (V5.alloc (.cells #[.int .i64 0, .int .i64 0, .int .i64 0, .int .i64 0, .int .i64 0, .int .i64 0, .slice none 0 0, .slice none 0 0] 25)).drew := ((Below.refl _ V5).alloc (Nat.le_refl _) _).drew
          have HZ := Lib.hid (And.intro (HP5.out.1.trans (hbz.mono HP5.out.1.size)) (And.intro (HP5.out.2.below hbz lB1) (Blk.new V5 25 #[.int .i64 0, .int .i64 0, .int .i64 0, .int .i64 0, .int .i64 0, .int .i64 0, .slice none 0 0, .slice none 0 0]).drew))
          clear hbz
          refine lexV_eff rfl (fun _ => trivial) ?_
          go_simp
          (try simp only [Act.put, List.getElem_toArray, List.getElem_cons_succ, List.getElem_cons_zero, List.setIfInBounds_toArray, List.set_cons_zero, List.set_cons_succ])
          repeat ((first | (refine lexV_read rfl (by rfl) (by first | exact wanted_none rfl | exact wanted_some (b := true) (c := true) rfl rfl rfl | exact wanted_some (b := false) (c := false) rfl rfl rfl) (by intro w9 hS9; (try dsimp only at hS9); go_simp <;> with_reducible rfl) ?_) | (refine lexV_skip rfl (fun _ => trivial) (by first | exact wanted_some (b := true) (c := false) rfl rfl rfl | exact wanted_some (b := false) (c := true) rfl rfl rfl) ?_) | (refine lexV_builtin rfl (fun _ => trivial) (by first | exact wanted_none rfl | exact wanted_some (b := true) (c := true) rfl rfl rfl | exact wanted_some (b := false) (c := false) rfl rfl rfl) (by intro w9 hS9; (try dsimp only at hS9); go_simp <;> with_reducible rfl) ?_)); (try simp only [Act.put, List.getElem_toArray, List.getElem_cons_succ, List.getElem_cons_zero, List.setIfInBounds_toArray, List.set_cons_zero, List.set_cons_succ]))
          obtain ⟨G, hG⟩ : ∃ x, x = V5.heap.size := ⟨_, rfl⟩
          have hXG : X < G := by rw [hG]; exact lX1
          have hBG : B < G := by rw [hG]; exact lB1
          have hGw : w3.heap.size ≤ G := by omega
          have hbG : w.heap.size + 1 ≤ G := by omega
          rw [← hG] at HZ ⊢
          clear hG
          generalize (V5.alloc (.cells #[.int .i64 0, .int .i64 0, .int .i64 0, .int .i64 0, .int .i64 0, .int .i64 0, .slice none 0 0, .slice none 0 0] 25)).drew = V2 at *
          have hv1 : SnV V2 (w.heap.size + 1) m.s (.agg (snC m.s (.slice Ao no co) (.slice Aq nq cq))) := ⟨_, _, rfl, (HR.out.1.below HZ.out.1).so, (HR.out.1.below HZ.out.1).sq⟩
          have hc := Ack_any m.s m.now ({ q with kind := 0 } : Pm) _ _ (w.heap.size + 1) V2 hv1 HSM.out.1 ((HQ2.out V2 HZ.out.1).low55) ⟨HSP.out.sel, HSP.out.p⟩ (Nat.le_trans hbw3 (Below.size HZ.out.1))
          unfold snC at hc
          clear hv1
          refine lexV_eff rfl (fun _ => trivial) ?_
          go_simp
          refine CallsIn.mono ((callsIn_wide (n := 0)).2 hc) ?_
          rintro e w5 ⟨⟨sv, n5, rfl, hsv, hn5⟩, hb5⟩
          dsimp only
          rw [HAS.out] at hsv hn5
          dsimp only at hsv hn5
          subst hn5
          obtain ⟨vo2, vq2, rfl, hO2, hQ2⟩ := hsv
          obtain ⟨Ao2, co2, rfl, -, -⟩ := hO2.form
          obtain ⟨Aq2, cq2, rfl, -, -⟩ := hQ2.form
          rw [HLN.out.1] at hO2 ⊢
          rw [HLN.out.2.1] at hQ2 ⊢
          unfold snC
          have hw5 := Below.trans HZ.out.1 (hb5.mono (Below.size HZ.out.1))
          have hk5 := HR.out.2.below hw5 hXP
          have hp5 := (HZ.out.2.1).below hb5 (Blk.lt (HZ.out.2.1))
          have lX5 := hk5.lt
          have lB5 := hp5.lt
          have ys0 : w5.cell? ⟨X, 0, none⟩ = some (.int .i64 m.s.ses) := hk5.cell 0
          have ys1 : w5.cell? ⟨X, 1, none⟩ = some (.int .i64 m.s.lim) := hk5.cell 1
          have ys2 : w5.cell? ⟨X, 2, none⟩ = some (.int .i64 m.s.tmo) := hk5.cell 2
          have ys3 : w5.cell? ⟨X, 3, none⟩ = some (.int .i64 m.s.base) := hk5.cell 3
          have ys4 : w5.cell? ⟨X, 4, none⟩ = some (.int .i64 m.s.next) := hk5.cell 4
          have ys5 : w5.cell? ⟨X, 5, none⟩ = some (.int .i64 m.s.cred) := hk5.cell 5
          have ys6 : w5.cell? ⟨X, 6, none⟩ = some (.slice Ao no co) := hk5.cell 6
          have ys7 : w5.cell? ⟨X, 7, none⟩ = some (.slice Aq nq cq) := hk5.cell 7
          have ys16 : w5.cell? ⟨X, 16, none⟩ = some (.int .i64 m.now) := hk5.cell 16
          have yk0 : w5.cell? ⟨B, 0, none⟩ = some (.int .i64 0) := hp5.cell 0
          have yk1 : w5.cell? ⟨B, 1, none⟩ = some (.int .i64 q.ses) := hp5.cell 1
          have yk2 : w5.cell? ⟨B, 2, none⟩ = some (.int .i64 q.seq) := hp5.cell 2
          have yk3 : w5.cell? ⟨B, 3, none⟩ = some (.int .i64 q.ack) := hp5.cell 3
          have yk4 : w5.cell? ⟨B, 4, none⟩ = some (.int .i64 q.cred) := hp5.cell 4
          have yk5 : w5.cell? ⟨B, 5, none⟩ = some (.slice As ns0 cs) := hp5.cell 5
          have yk6 : w5.cell? ⟨B, 6, none⟩ = some (.slice Ap np cp) := hp5.cell 6
          have HQZ := Lib.hid (HZ.out.2.2.below hb5 HZ.out.2.2.lt)
          have yq0 : w5.cell? ⟨G, 0, none⟩ = some (.int .i64 0) := HQZ.out.cell 0
          have yq1 : w5.cell? ⟨G, 1, none⟩ = some (.int .i64 0) := HQZ.out.cell 1
          have yq2 : w5.cell? ⟨G, 2, none⟩ = some (.int .i64 0) := HQZ.out.cell 2
          have yq3 : w5.cell? ⟨G, 3, none⟩ = some (.int .i64 0) := HQZ.out.cell 3
          have yq4 : w5.cell? ⟨G, 4, none⟩ = some (.int .i64 0) := HQZ.out.cell 4
          have yq5 : w5.cell? ⟨G, 5, none⟩ = some (.int .i64 0) := HQZ.out.cell 5
          have yq6 : w5.cell? ⟨G, 6, none⟩ = some (.slice none 0 0) := HQZ.out.cell 6
          have yq7 : w5.cell? ⟨G, 7, none⟩ = some (.slice none 0 0) := HQZ.out.cell 7
          have yw0 := HQZ.out.frozen 0
          have yw1 := HQZ.out.frozen 1
          have yw2 := HQZ.out.frozen 2
          have yw3 := HQZ.out.frozen 3
          have yw4 := HQZ.out.frozen 4
          have yw5 := HQZ.out.frozen 5
          have yw6 := HQZ.out.frozen 6
          have yw7 := HQZ.out.frozen 7
          have lQ5 := HQZ.out.lt
          have HP9 := Lib.hid (And.intro hO2 (And.intro hQ2 hw5))
          clear hc hO2 hQ2 hw5 hk5 hp5 hb5 xr0 xr1 xr2 xr3 xr4 xr5 xr6 xr7 xr16 xk0 xk1 xk2 xk3 xk4 xk5 xk6 HZ
          refine ⟨⟨ys0, ys1, ys2, ys3, ys4, ys5, ys6, ys7, ys16, yk0, yk1, yk2, yk3, yk4, yk5, yk6⟩, ?_⟩
          (try simp only [Act.put, List.getElem_toArray, List.getElem_cons_succ, List.getElem_cons_zero, List.setIfInBounds_toArray, List.set_cons_zero, List.set_cons_succ])
          repeat ((first | (refine lexV_read rfl (by rfl) (by first | exact wanted_none rfl | exact wanted_some (b := true) (c := true) rfl rfl rfl | exact wanted_some (b := false) (c := false) rfl rfl rfl) (by intro w9 hS9; (try dsimp only at hS9); go_simp <;> with_reducible rfl) ?_) | (refine lexV_skip rfl (fun _ => trivial) (by first | exact wanted_some (b := true) (c := false) rfl rfl rfl | exact wanted_some (b := false) (c := true) rfl rfl rfl) ?_) | (refine lexV_builtin rfl (fun _ => trivial) (by first | exact wanted_none rfl | exact wanted_some (b := true) (c := true) rfl rfl rfl | exact wanted_some (b := false) (c := false) rfl rfl rfl) (by intro w9 hS9; (try dsimp only at hS9); go_simp <;> with_reducible rfl) ?_)); (try simp only [Act.put, List.getElem_toArray, List.getElem_cons_succ, List.getElem_cons_zero, List.setIfInBounds_toArray, List.set_cons_zero, List.set_cons_succ]))
          refine lexV_eff rfl (fun _ => trivial) ?_
          go_simp
          (try simp only [Act.put, List.getElem_toArray, List.getElem_cons_succ, List.getElem_cons_zero, List.setIfInBounds_toArray, List.set_cons_zero, List.set_cons_succ])
          repeat ((first | (refine lexV_read rfl (by rfl) (by first | exact wanted_none rfl | exact wanted_some (b := true) (c := true) rfl rfl rfl | exact wanted_some (b := false) (c := false) rfl rfl rfl) (by intro w9 hS9; (try dsimp only at hS9); go_simp <;> with_reducible rfl) ?_) | (refine lexV_skip rfl (fun _ => trivial) (by first | exact wanted_some (b := true) (c := false) rfl rfl rfl | exact wanted_some (b := false) (c := true) rfl rfl rfl) ?_) | (refine lexV_builtin rfl (fun _ => trivial) (by first | exact wanted_none rfl | exact wanted_some (b := true) (c := true) rfl rfl rfl | exact wanted_some (b := false) (c := false) rfl rfl rfl) (by intro w9 hS9; (try dsimp only at hS9); go_simp <;> with_reducible rfl) ?_)); (try simp only [Act.put, List.getElem_toArray, List.getElem_cons_succ, List.getElem_cons_zero, List.setIfInBounds_toArray, List.set_cons_zero, List.set_cons_succ]))
          refine lexV_nil (panQ_normal ?_)
          clear ys0 ys1 ys2 ys3 ys4 ys5 ys6 ys7 ys16 yk0 yk1 yk2 yk3 yk4 yk5 yk6 yq0 yw0 yq1 yw1 yq2 yw2 yq3 yw3 yq4 yw4 yq5 yw5 yq6 yw6 yq7 yw7 lQ5
          have hkq3 := set25_blk HQZ.out (.int .i64 m.s.ses) (.int .i64 m.s.lim) (.int .i64 m.s.tmo) (.int .i64 m.s.base) (.int .i64 m.s.next) (.int .i64 m.s.cred) (.slice Ao2 no co2) (.slice Aq2 nq cq2)
          have hT3 := set25_turn HQZ.out (base := w.heap.size + 1) hbG (.int .i64 m.s.ses) (.int .i64 m.s.lim) (.int .i64 m.s.tmo) (.int .i64 m.s.base) (.int .i64 m.s.next) (.int .i64 m.s.cred) (.slice Ao2 no co2) (.slice Aq2 nq cq2)
          have hb3 := set25_below HP9.out.2.2 (g := G) hGw (.int .i64 m.s.ses) (.int .i64 m.s.lim) (.int .i64 m.s.tmo) (.int .i64 m.s.base) (.int .i64 m.s.next) (.int .i64 m.s.cred) (.slice Ao2 no co2) (.slice Aq2 nq cq2)
          have HF9 : Hid (Blk ((((((((w5.setCell ⟨G, 0, none⟩ (.int .i64 m.s.ses)).setCell ⟨G, 1, none⟩ (.int .i64 m.s.lim)).setCell ⟨G, 2, none⟩ (.int .i64 m.s.tmo)).setCell ⟨G, 3, none⟩ (.int .i64 m.s.base)).setCell ⟨G, 4, none⟩ (.int .i64 m.s.next)).setCell ⟨G, 5, none⟩ (.int .i64 m.s.cred)).setCell ⟨G, 6, none⟩ (.slice Ao2 no co2)).setCell ⟨G, 7, none⟩ (.slice Aq2 nq cq2)) G 25 #[.int .i64 m.s.ses, .int .i64 m.s.lim, .int .i64 m.s.tmo, .int .i64 m.s.base, .int .i64 m.s.next, .int .i64 m.s.cred, .slice Ao2 no co2, .slice Aq2 nq cq2] ∧ OsV ((((((((w5.setCell ⟨G, 0, none⟩ (.int .i64 m.s.ses)).setCell ⟨G, 1, none⟩ (.int .i64 m.s.lim)).setCell ⟨G, 2, none⟩ (.int .i64 m.s.tmo)).setCell ⟨G, 3, none⟩ (.int .i64 m.s.base)).setCell ⟨G, 4, none⟩ (.int .i64 m.s.next)).setCell ⟨G, 5, none⟩ (.int .i64 m.s.cred)).setCell ⟨G, 6, none⟩ (.slice Ao2 no co2)).setCell ⟨G, 7, none⟩ (.slice Aq2 nq cq2)) (w.heap.size + 1) m.s.out (.slice Ao2 no co2) ∧ QsV ((((((((w5.setCell ⟨G, 0, none⟩ (.int .i64 m.s.ses)).setCell ⟨G, 1, none⟩ (.int .i64 m.s.lim)).setCell ⟨G, 2, none⟩ (.int .i64 m.s.tmo)).setCell ⟨G, 3, none⟩ (.int .i64 m.s.base)).setCell ⟨G, 4, none⟩ (.int .i64 m.s.next)).setCell ⟨G, 5, none⟩ (.int .i64 m.s.cred)).setCell ⟨G, 6, none⟩ (.slice Ao2 no co2)).setCell ⟨G, 7, none⟩ (.slice Aq2 nq cq2)) (w.heap.size + 1) m.s.q (.slice Aq2 nq cq2) ∧ Below w3.heap.size w3 ((((((((w5.setCell ⟨G, 0, none⟩ (.int .i64 m.s.ses)).setCell ⟨G, 1, none⟩ (.int .i64 m.s.lim)).setCell ⟨G, 2, none⟩ (.int .i64 m.s.tmo)).setCell ⟨G, 3, none⟩ (.int .i64 m.s.base)).setCell ⟨G, 4, none⟩ (.int .i64 m.s.next)).setCell ⟨G, 5, none⟩ (.int .i64 m.s.cred)).setCell ⟨G, 6, none⟩ (.slice Ao2 no co2)).setCell ⟨G, 7, none⟩ (.slice Aq2 nq cq2))) := ⟨hkq3, HP9.out.1.turn hT3 (by simp) (by simp), HP9.out.2.1.turn hT3 (by simp) (by simp), hb3⟩
          clear hkq3 hT3 hb3 HP9 HQZ
          try go_wp2_with fail
          go_meet
          exact ⟨_, Ao2, co2, Aq2, cq2, rfl, rfl, HF9⟩
      case rest =>
        obtain ⟨G, Ao2, co2, Aq2, cq2, rfl, rfl, HG⟩ := hcut
        clear HP5 lX1 lB1 xr0 xr1 xr2 xr3 xr4 xr5 xr6 xr7 xr16 xk0 xk1 xk2 xk3 xk4 xk5 xk6
        have hk73 := HR.out.2.below HG.out.2.2.2 hXP
        have H15 := Lib.hid (fun w9 (hb9 : Below wc.heap.size wc w9) => SameSender_true m.s (.agg #[.int .i64 m.s.ses, .int .i64 m.s.lim, .int .i64 m.s.tmo, .int .i64 m.s.base, .int .i64 m.s.next, .int .i64 m.s.cred, .slice Ao2 no co2, .slice Aq2 nq cq2]) (.agg #[.int .i64 m.s.ses, .int .i64 m.s.lim, .int .i64 m.s.tmo, .int .i64 m.s.base, .int .i64 m.s.next, .int .i64 m.s.cred, .slice Ao no co, .slice Aq nq cq]) (w.heap.size + 1) (w.heap.size + 1) w9 ⟨_, _, rfl, HG.out.2.1.up hb9, HG.out.2.2.1.up hb9⟩ ⟨_, _, rfl, ((HR.out.1.below HG.out.2.2.2).below hb9).so, ((HR.out.1.below HG.out.2.2.2).below hb9).sq⟩ HSM.out.1)
        go_upto_region 15 with fail
        go_region_held3 (fun w' => w'.cell? ⟨G, 0, none⟩ = some (.int .i64 m.s.ses) ∧ w'.cell? ⟨G, 1, none⟩ = some (.int .i64 m.s.lim) ∧ w'.cell? ⟨G, 2, none⟩ = some (.int .i64 m.s.tmo) ∧ w'.cell? ⟨G, 3, none⟩ = some (.int .i64 m.s.base) ∧ w'.cell? ⟨G, 4, none⟩ = some (.int .i64 m.s.next) ∧ w'.cell? ⟨G, 5, none⟩ = some (.int .i64 m.s.cred) ∧ w'.cell? ⟨G, 6, none⟩ = some (.slice Ao2 no co2) ∧ w'.cell? ⟨G, 7, none⟩ = some (.slice Aq2 nq cq2) ∧ w'.cell? ⟨X, 0, none⟩ = some (.int .i64 m.s.ses) ∧ w'.cell? ⟨X, 1, none⟩ = some (.int .i64 m.s.lim) ∧ w'.cell? ⟨X, 2, none⟩ = some (.int .i64 m.s.tmo) ∧ w'.cell? ⟨X, 3, none⟩ = some (.int .i64 m.s.base) ∧ w'.cell? ⟨X, 4, none⟩ = some (.int .i64 m.s.next) ∧ w'.cell? ⟨X, 5, none⟩ = some (.int .i64 m.s.cred) ∧ w'.cell? ⟨X, 6, none⟩ = some (.slice Ao no co) ∧ w'.cell? ⟨X, 7, none⟩ = some (.slice Aq nq cq) ∧ Below wc.heap.size wc w')
          (first
            | exact b25_held ((Below.refl _ wc).drew) HG.out.1 hk73
            | (go_split_ands; refine b25_held (below_step ?_ hb') HG.out.1 hk73; assumption)
            | (go_split_ands; refine ⟨?_, ?_, ?_, ?_, ?_, ?_, ?_, ?_, ?_, ?_, ?_, ?_, ?_, ?_, ?_, ?_, ?_⟩ <;> assumption))
          (first
            | (go_at_call 15; refine (H15.out _ ?_).mono ?_; (go_split_ands; assumption); rintro e w' ⟨rfl, hb'⟩)
            | (go_at_call 17; refine (awake_any _).mono ?_; rintro e w' ⟨rfl, hb'⟩))
        rename_i hS
        clear hb'
        generalize w' = w6 at *
        have hb6 := hS.2.2.2.2.2.2.2.2.2.2.2.2.2.2.2.2
        have h9 := HG.out.2.2.2.trans (hb6.mono HG.out.2.2.2.size)
        have HF := Lib.hid (H3.out.2.trans (h9.mono H3.out.2.size))
        clear hS H15 hb6 hk73 HG h9
        go_wp2_with fail
        go_ret
        exact ⟨rfl, HF.out⟩
  have kse : (q.ses == 1) = false := by rw [beq_eq_false_iff_ne]; exact hse
  have HSE := Lib.hid hse
  clear hse
  have HRS : Hid (recvR m.r q = (m.r, [], [])) := recv_same (.inr (by rw [hinv.ri.ses]; exact HSE.out))
  have HAS : Hid (ackS m.s m.now q = (m.s, -1)) := ack_same (.inr (by rw [hinv.si.ses]; exact HSE.out))
  have hsm := (hinv.fit (by omega) (by omega) (by omega)).small
  have HSM := Lib.hid hsm
  clear hsm
  go_upto_region 9 with fail
  have HP1 := Lib.hid HP0.out
  clear HP0 xp0 xp1 xp2 xp3 xp4 xp5 xp6 xy0 lB
  generalize V = V1 at *
  have HQ1 : Hid (∀ W', Below w3.heap.size w3 W' → PkV W' w.heap.size q (.agg #[.int .i64 q.kind, .int .i64 q.ses, .int .i64 q.seq, .int .i64 q.ack, .int .i64 q.cred, .slice As ns0 cs, .slice Ap np cp])) := fun W' hW => by
    have h5 := HQ.out.up (H3.out.2.trans (hW.mono H3.out.2.size))
    exact h5
  have HQ2 : Hid (∀ W', Below w3.heap.size w3 W' → PkV W' w.heap.size q (.agg #[.int .i64 q.kind, .int .i64 q.ses, .int .i64 q.seq, .int .i64 q.ack, .int .i64 q.cred, .slice As ns0 cs, .slice Ap np cp])) := fun W' hW => by
    have h5 := HQ.out.up (H3.out.2.trans (hW.mono H3.out.2.size))
    exact h5
  have xr8 : V1.cell? ⟨X, 8, none⟩ = some (.int .i64 m.r.ses) := (HR.out.2.below HP1.out.1 hXP).cell 8
  have xr9 : V1.cell? ⟨X, 9, none⟩ = some (.int .i64 m.r.lim) := (HR.out.2.below HP1.out.1 hXP).cell 9
  have xr10 : V1.cell? ⟨X, 10, none⟩ = some (.int .i64 m.r.next) := (HR.out.2.below HP1.out.1 hXP).cell 10
  have xr11 : V1.cell? ⟨X, 11, none⟩ = some (.slice Ae ne ce) := (HR.out.2.below HP1.out.1 hXP).cell 11
  have xk0 : V1.cell? ⟨B, 0, none⟩ = some (.int .i64 q.kind) := HP1.out.2.cell 0
  have xk1 : V1.cell? ⟨B, 1, none⟩ = some (.int .i64 q.ses) := HP1.out.2.cell 1
  have xk2 : V1.cell? ⟨B, 2, none⟩ = some (.int .i64 q.seq) := HP1.out.2.cell 2
  have xk3 : V1.cell? ⟨B, 3, none⟩ = some (.int .i64 q.ack) := HP1.out.2.cell 3
  have xk4 : V1.cell? ⟨B, 4, none⟩ = some (.int .i64 q.cred) := HP1.out.2.cell 4
  have xk5 : V1.cell? ⟨B, 5, none⟩ = some (.slice As ns0 cs) := HP1.out.2.cell 5
  have xk6 : V1.cell? ⟨B, 6, none⟩ = some (.slice Ap np cp) := HP1.out.2.cell 6
  have lX1 := (HR.out.2.below HP1.out.1 hXP).lt
  have lB1 := HP1.out.2.lt
  go_cut [10, 11, 12] from 50 to 59 (fun s10 s11 s12 wx => ∃ (G : Nat) (Ae2 : Option Addr) (ce2 : Nat) (A1 : Option Addr) (c1 : Nat) (A2 : Option Addr) (c2 : Nat), s10 = .pointer (some ⟨G, 0, none⟩) ∧ s11 = .slice A1 0 c1 ∧ s12 = .slice A2 0 c2 ∧ Hid (Blk wx G 33 #[.int .i64 m.r.ses, .int .i64 m.r.lim, .int .i64 m.r.next, .slice Ae2 ne ce2] ∧ AsV wx (w.heap.size + 1) m.r.early (.slice Ae2 ne ce2) ∧ Below w3.heap.size w3 wx ∧ Blk wx B 55 #[.int .i64 q.kind, .int .i64 q.ses, .int .i64 q.seq, .int .i64 q.ack, .int .i64 q.cred, .slice As ns0 cs, .slice Ap np cp]))
  case first =>
    refine wp_region_lexV (.op 0 1 (.op 4 1 (.op 1 1 (.op 2 1 (.op 3 1 (.two 5 10 (.op 6 1 (.op 7 1 (.op 8 1 (.op 9 1 (.op 10 0 (.op 11 0 (.op 12 1 (.op 13 1 .nil)))))))) (.op 5 0 (.op 6 1 (.op 7 1 (.op 8 1 (.op 9 1 (.op 11 0 (.op 12 1 (.op 13 1 .nil)))))))))))))) [] (fun w9 => w9.cell? ⟨X, 8, none⟩ = some (.int .i64 m.r.ses) ∧ w9.cell? ⟨X, 9, none⟩ = some (.int .i64 m.r.lim) ∧ w9.cell? ⟨X, 10, none⟩ = some (.int .i64 m.r.next) ∧ w9.cell? ⟨X, 11, none⟩ = some (.slice Ae ne ce) ∧ w9.cell? ⟨B, 0, none⟩ = some (.int .i64 q.kind) ∧ w9.cell? ⟨B, 1, none⟩ = some (.int .i64 q.ses) ∧ w9.cell? ⟨B, 2, none⟩ = some (.int .i64 q.seq) ∧ w9.cell? ⟨B, 3, none⟩ = some (.int .i64 q.ack) ∧ w9.cell? ⟨B, 4, none⟩ = some (.int .i64 q.cred) ∧ w9.cell? ⟨B, 5, none⟩ = some (.slice As ns0 cs) ∧ w9.cell? ⟨B, 6, none⟩ = some (.slice Ap np cp)) (by kernel_rfl) (by kernel_rfl) (by kernel_rfl) (by kernel_rfl) (by kernel_rfl) ⟨xr8, xr9, xr10, xr11, xk0, xk1, xk2, xk3, xk4, xk5, xk6⟩ ?_
    repeat ((first | (refine lexV_read rfl (by rfl) (by first | exact wanted_none rfl | exact wanted_some (b := true) (c := true) rfl rfl rfl | exact wanted_some (b := false) (c := false) rfl rfl rfl) (by intro w9 hS9; (try dsimp only at hS9); go_simp <;> with_reducible rfl) ?_) | (refine lexV_skip rfl (fun _ => trivial) (by first | exact wanted_some (b := true) (c := false) rfl rfl rfl | exact wanted_some (b := false) (c := true) rfl rfl rfl) ?_) | (refine lexV_builtin rfl (fun _ => trivial) (by first | exact wanted_none rfl | exact wanted_some (b := true) (c := true) rfl rfl rfl | exact wanted_some (b := false) (c := false) rfl rfl rfl) (by intro w9 hS9; (try dsimp only at hS9); go_simp <;> with_reducible rfl) ?_)); (try simp only [Act.put, List.getElem_toArray, List.getElem_cons_succ, List.getElem_cons_zero, List.setIfInBounds_toArray, List.set_cons_zero, List.set_cons_succ]))
    refine lexV_two ?_ ?_
    · have hv1 : RcV V1.drew (w.heap.size + 1) m.r (.agg (rcC m.r (.slice Ae ne ce))) := ⟨_, rfl, (HR.out.1.below (HP1.out.1.drew)).re⟩
      have hc := Receive_any m.r q _ _ (w.heap.size + 1) V1.drew hv1 HSM.out.2.1 ((HQ1.out V1.drew (HP1.out.1.drew)).low55) ⟨HSP.out.sel, HSP.out.p⟩ (Nat.le_trans hbw3 (Below.size (HP1.out.1.drew)))
      unfold rcC at hc
      clear hv1
      refine lexV_eff rfl (fun _ => trivial) ?_
      go_simp
      refine CallsIn.mono ((callsIn_wide (n := 0)).2 hc) ?_
      rintro e w5 ⟨⟨sv, qv, kv, rfl, hsv, hqv, hkv⟩, hb5⟩
      dsimp only
      rw [HRS.out] at hsv hqv hkv
      dsimp only at hsv hqv hkv
      obtain ⟨ve2, rfl, hE2⟩ := hsv
      obtain ⟨Ae2, ce2, rfl, -, -⟩ := hE2.form
      obtain ⟨A1, c1, rfl, -, -⟩ := hqv.form
      obtain ⟨A2, c2, rfl, -, -⟩ := hkv.form
      rw [HLN.out.2.2.1] at hE2 ⊢
      dsimp only [List.length_nil]
      unfold rcC
      have hw5 := Below.trans (HP1.out.1.drew) (hb5.mono (Below.size (HP1.out.1.drew)))
      have hk5 := HR.out.2.below hw5 hXP
      have hp5 := (HP1.out.2.drew).below hb5 (Blk.lt (HP1.out.2.drew))
      have lX5 := hk5.lt
      have lB5 := hp5.lt
      have ys8 : w5.cell? ⟨X, 8, none⟩ = some (.int .i64 m.r.ses) := hk5.cell 8
      have ys9 : w5.cell? ⟨X, 9, none⟩ = some (.int .i64 m.r.lim) := hk5.cell 9
      have ys10 : w5.cell? ⟨X, 10, none⟩ = some (.int .i64 m.r.next) := hk5.cell 10
      have ys11 : w5.cell? ⟨X, 11, none⟩ = some (.slice Ae ne ce) := hk5.cell 11
      have yk0 : w5.cell? ⟨B, 0, none⟩ = some (.int .i64 q.kind) := hp5.cell 0
      have yk1 : w5.cell? ⟨B, 1, none⟩ = some (.int .i64 q.ses) := hp5.cell 1
      have yk2 : w5.cell? ⟨B, 2, none⟩ = some (.int .i64 q.seq) := hp5.cell 2
      have yk3 : w5.cell? ⟨B, 3, none⟩ = some (.int .i64 q.ack) := hp5.cell 3
      have yk4 : w5.cell? ⟨B, 4, none⟩ = some (.int .i64 q.cred) := hp5.cell 4
      have yk5 : w5.cell? ⟨B, 5, none⟩ = some (.slice As ns0 cs) := hp5.cell 5
      have yk6 : w5.cell? ⟨B, 6, none⟩ = some (.slice Ap np cp) := hp5.cell 6
      have HP9 := Lib.hid (And.intro hE2 (And.intro hw5 hp5))
      clear hc hE2 hw5 hk5 hp5 hb5 hqv hkv xr8 xr9 xr10 xr11 xk0 xk1 xk2 xk3 xk4 xk5 xk6
      refine ⟨⟨ys8, ys9, ys10, ys11, yk0, yk1, yk2, yk3, yk4, yk5, yk6⟩, ?_⟩
      (try simp only [Act.put, List.getElem_toArray, List.getElem_cons_succ, List.getElem_cons_zero, List.setIfInBounds_toArray, List.set_cons_zero, List.set_cons_succ])
      repeat ((first | (refine lexV_read rfl (by rfl) (by first | exact wanted_none rfl | exact wanted_some (b := true) (c := true) rfl rfl rfl | exact wanted_some (b := false) (c := false) rfl rfl rfl) (by intro w9 hS9; (try dsimp only at hS9); go_simp <;> with_reducible rfl) ?_) | (refine lexV_skip rfl (fun _ => trivial) (by first | exact wanted_some (b := true) (c := false) rfl rfl rfl | exact wanted_some (b := false) (c := true) rfl rfl rfl) ?_) | (refine lexV_builtin rfl (fun _ => trivial) (by first | exact wanted_none rfl | exact wanted_some (b := true) (c := true) rfl rfl rfl | exact wanted_some (b := false) (c := false) rfl rfl rfl) (by intro w9 hS9; (try dsimp only at hS9); go_simp <;> with_reducible rfl) ?_)); (try simp only [Act.put, List.getElem_toArray, List.getElem_cons_succ, List.getElem_cons_zero, List.setIfInBounds_toArray, List.set_cons_zero, List.set_cons_succ]))
      refine lexV_eff rfl (fun _ => trivial) ?_
      go_simp
      (try simp only [Act.put, List.getElem_toArray, List.getElem_cons_succ, List.getElem_cons_zero, List.setIfInBounds_toArray, List.set_cons_zero, List.set_cons_succ])
      refine lexV_eff rfl (fun _ => trivial) ?_
      go_simp
      (try simp only [Act.put, List.getElem_toArray, List.getElem_cons_succ, List.getElem_cons_zero, List.setIfInBounds_toArray, List.set_cons_zero, List.set_cons_succ])
      repeat ((first | (refine lexV_read rfl (by rfl) (by first | exact wanted_none rfl | exact wanted_some (b := true) (c := true) rfl rfl rfl | exact wanted_some (b := false) (c := false) rfl rfl rfl) (by intro w9 hS9; (try dsimp only at hS9); go_simp <;> with_reducible rfl) ?_) | (refine lexV_skip rfl (fun _ => trivial) (by first | exact wanted_some (b := true) (c := false) rfl rfl rfl | exact wanted_some (b := false) (c := true) rfl rfl rfl) ?_) | (refine lexV_builtin rfl (fun _ => trivial) (by first | exact wanted_none rfl | exact wanted_some (b := true) (c := true) rfl rfl rfl | exact wanted_some (b := false) (c := false) rfl rfl rfl) (by intro w9 hS9; (try dsimp only at hS9); go_simp <;> with_reducible rfl) ?_)); (try simp only [Act.put, List.getElem_toArray, List.getElem_cons_succ, List.getElem_cons_zero, List.setIfInBounds_toArray, List.set_cons_zero, List.set_cons_succ]))
      refine lexV_nil (panQ_normal ?_)
      clear ys8 ys9 ys10 ys11 yk0 yk1 yk2 yk3 yk4 yk5 yk6
      have hb6 : Below w5.heap.size w5 (w5.alloc (.cells #[.int .i64 m.r.ses, .int .i64 m.r.lim, .int .i64 m.r.next, .slice Ae2 ne ce2] 33)) := (Below.refl _ w5).alloc (Nat.le_refl _) _
      have HF9 : Hid (Blk (w5.alloc (.cells #[.int .i64 m.r.ses, .int .i64 m.r.lim, .int .i64 m.r.next, .slice Ae2 ne ce2] 33)) w5.heap.size 33 #[.int .i64 m.r.ses, .int .i64 m.r.lim, .int .i64 m.r.next, .slice Ae2 ne ce2] ∧ AsV (w5.alloc (.cells #[.int .i64 m.r.ses, .int .i64 m.r.lim, .int .i64 m.r.next, .slice Ae2 ne ce2] 33)) (w.heap.size + 1) m.r.early (.slice Ae2 ne ce2) ∧ Below w3.heap.size w3 (w5.alloc (.cells #[.int .i64 m.r.ses, .int .i64 m.r.lim, .int .i64 m.r.next, .slice Ae2 ne ce2] 33)) ∧ Blk (w5.alloc (.cells #[.int .i64 m.r.ses, .int .i64 m.r.lim, .int .i64 m.r.next, .slice Ae2 ne ce2] 33)) B 55 #[.int .i64 q.kind, .int .i64 q.ses, .int .i64 q.seq, .int .i64 q.ack, .int .i64 q.cred, .slice As ns0 cs, .slice Ap np cp]) := ⟨Blk.new w5 33 _, HP9.out.1.up hb6, HP9.out.2.1.trans (hb6.mono HP9.out.2.1.size), HP9.out.2.2.below hb6 lB5⟩
      clear hb6 HP9
      try go_wp2_with fail
      go_meet
      exact ⟨_, Ae2, ce2, A1, c1, A2, c2, rfl, rfl, rfl, HF9⟩
    · have hbz : Below V1.heap.size V1 (V1.alloc (.cells #[.int .i64 0, .int .i64 0, .int .i64 0, .slice none 0 0] 33)).drew := ((Below.refl _ V1).alloc (Nat.le_refl _) _).drew
      have HZ := Lib.hid (And.intro (HP1.out.1.trans (hbz.mono HP1.out.1.size)) (And.intro (HP1.out.2.below hbz lB1) (Blk.new V1 33 #[.int .i64 0, .int .i64 0, .int .i64 0, .slice none 0 0]).drew))
      clear hbz
      refine lexV_eff rfl (fun _ => trivial) ?_
      go_simp
      (try simp only [Act.put, List.getElem_toArray, List.getElem_cons_succ, List.getElem_cons_zero, List.setIfInBounds_toArray, List.set_cons_zero, List.set_cons_succ])
      repeat ((first | (refine lexV_read rfl (by rfl) (by first | exact wanted_none rfl | exact wanted_some (b := true) (c := true) rfl rfl rfl | exact wanted_some (b := false) (c := false) rfl rfl rfl) (by intro w9 hS9; (try dsimp only at hS9); go_simp <;> with_reducible rfl) ?_) | (refine lexV_skip rfl (fun _ => trivial) (by first | exact wanted_some (b := true) (c := false) rfl rfl rfl | exact wanted_some (b := false) (c := true) rfl rfl rfl) ?_) | (refine lexV_builtin rfl (fun _ => trivial) (by first | exact wanted_none rfl | exact wanted_some (b := true) (c := true) rfl rfl rfl | exact wanted_some (b := false) (c := false) rfl rfl rfl) (by intro w9 hS9; (try dsimp only at hS9); go_simp <;> with_reducible rfl) ?_)); (try simp only [Act.put, List.getElem_toArray, List.getElem_cons_succ, List.getElem_cons_zero, List.setIfInBounds_toArray, List.set_cons_zero, List.set_cons_succ]))
      obtain ⟨G, hG⟩ : ∃ x, x = V1.heap.size := ⟨_, rfl⟩
      have hXG : X < G := by rw [hG]; exact lX1
      have hBG : B < G := by rw [hG]; exact lB1
      have hGw : w3.heap.size ≤ G := by omega
      have hbG : w.heap.size + 1 ≤ G := by omega
      rw [← hG] at HZ ⊢
      clear hG
      generalize (V1.alloc (.cells #[.int .i64 0, .int .i64 0, .int .i64 0, .slice none 0 0] 33)).drew = V2 at *
      have hv1 : RcV V2 (w.heap.size + 1) m.r (.agg (rcC m.r (.slice Ae ne ce))) := ⟨_, rfl, (HR.out.1.below HZ.out.1).re⟩
      have hc := Receive_any m.r q _ _ (w.heap.size + 1) V2 hv1 HSM.out.2.1 ((HQ1.out V2 HZ.out.1).low55) ⟨HSP.out.sel, HSP.out.p⟩ (Nat.le_trans hbw3 (Below.size HZ.out.1))
      unfold rcC at hc
      clear hv1
      refine lexV_eff rfl (fun _ => trivial) ?_
      go_simp
      refine CallsIn.mono ((callsIn_wide (n := 0)).2 hc) ?_
      rintro e w5 ⟨⟨sv, qv, kv, rfl, hsv, hqv, hkv⟩, hb5⟩
      dsimp only
      rw [HRS.out] at hsv hqv hkv
      dsimp only at hsv hqv hkv
      obtain ⟨ve2, rfl, hE2⟩ := hsv
      obtain ⟨Ae2, ce2, rfl, -, -⟩ := hE2.form
      obtain ⟨A1, c1, rfl, -, -⟩ := hqv.form
      obtain ⟨A2, c2, rfl, -, -⟩ := hkv.form
      rw [HLN.out.2.2.1] at hE2 ⊢
      dsimp only [List.length_nil]
      unfold rcC
      have hw5 := Below.trans HZ.out.1 (hb5.mono (Below.size HZ.out.1))
      have hk5 := HR.out.2.below hw5 hXP
      have hp5 := (HZ.out.2.1).below hb5 (Blk.lt (HZ.out.2.1))
      have lX5 := hk5.lt
      have lB5 := hp5.lt
      have ys8 : w5.cell? ⟨X, 8, none⟩ = some (.int .i64 m.r.ses) := hk5.cell 8
      have ys9 : w5.cell? ⟨X, 9, none⟩ = some (.int .i64 m.r.lim) := hk5.cell 9
      have ys10 : w5.cell? ⟨X, 10, none⟩ = some (.int .i64 m.r.next) := hk5.cell 10
      have ys11 : w5.cell? ⟨X, 11, none⟩ = some (.slice Ae ne ce) := hk5.cell 11
      have yk0 : w5.cell? ⟨B, 0, none⟩ = some (.int .i64 q.kind) := hp5.cell 0
      have yk1 : w5.cell? ⟨B, 1, none⟩ = some (.int .i64 q.ses) := hp5.cell 1
      have yk2 : w5.cell? ⟨B, 2, none⟩ = some (.int .i64 q.seq) := hp5.cell 2
      have yk3 : w5.cell? ⟨B, 3, none⟩ = some (.int .i64 q.ack) := hp5.cell 3
      have yk4 : w5.cell? ⟨B, 4, none⟩ = some (.int .i64 q.cred) := hp5.cell 4
      have yk5 : w5.cell? ⟨B, 5, none⟩ = some (.slice As ns0 cs) := hp5.cell 5
      have yk6 : w5.cell? ⟨B, 6, none⟩ = some (.slice Ap np cp) := hp5.cell 6
      have HQZ := Lib.hid (HZ.out.2.2.below hb5 HZ.out.2.2.lt)
      have yq0 : w5.cell? ⟨G, 0, none⟩ = some (.int .i64 0) := HQZ.out.cell 0
      have yq1 : w5.cell? ⟨G, 1, none⟩ = some (.int .i64 0) := HQZ.out.cell 1
      have yq2 : w5.cell? ⟨G, 2, none⟩ = some (.int .i64 0) := HQZ.out.cell 2
      have yq3 : w5.cell? ⟨G, 3, none⟩ = some (.slice none 0 0) := HQZ.out.cell 3
      have yw0 := HQZ.out.frozen 0
      have yw1 := HQZ.out.frozen 1
      have yw2 := HQZ.out.frozen 2
      have yw3 := HQZ.out.frozen 3
      have lQ5 := HQZ.out.lt
      have HP9 := Lib.hid (And.intro hE2 (And.intro hw5 hp5))
      clear hc hE2 hw5 hk5 hp5 hb5 hqv hkv xr8 xr9 xr10 xr11 xk0 xk1 xk2 xk3 xk4 xk5 xk6 HZ
      refine ⟨⟨ys8, ys9, ys10, ys11, yk0, yk1, yk2, yk3, yk4, yk5, yk6⟩, ?_⟩
      (try simp only [Act.put, List.getElem_toArray, List.getElem_cons_succ, List.getElem_cons_zero, List.setIfInBounds_toArray, List.set_cons_zero, List.set_cons_succ])
      repeat ((first | (refine lexV_read rfl (by rfl) (by first | exact wanted_none rfl | exact wanted_some (b := true) (c := true) rfl rfl rfl | exact wanted_some (b := false) (c := false) rfl rfl rfl) (by intro w9 hS9; (try dsimp only at hS9); go_simp <;> with_reducible rfl) ?_) | (refine lexV_skip rfl (fun _ => trivial) (by first | exact wanted_some (b := true) (c := false) rfl rfl rfl | exact wanted_some (b := false) (c := true) rfl rfl rfl) ?_) | (refine lexV_builtin rfl (fun _ => trivial) (by first | exact wanted_none rfl | exact wanted_some (b := true) (c := true) rfl rfl rfl | exact wanted_some (b := false) (c := false) rfl rfl rfl) (by intro w9 hS9; (try dsimp only at hS9); go_simp <;> with_reducible rfl) ?_)); (try simp only [Act.put, List.getElem_toArray, List.getElem_cons_succ, List.getElem_cons_zero, List.setIfInBounds_toArray, List.set_cons_zero, List.set_cons_succ]))
      refine lexV_eff rfl (fun _ => trivial) ?_
      go_simp
      (try simp only [Act.put, List.getElem_toArray, List.getElem_cons_succ, List.getElem_cons_zero, List.setIfInBounds_toArray, List.set_cons_zero, List.set_cons_succ])
      repeat ((first | (refine lexV_read rfl (by rfl) (by first | exact wanted_none rfl | exact wanted_some (b := true) (c := true) rfl rfl rfl | exact wanted_some (b := false) (c := false) rfl rfl rfl) (by intro w9 hS9; (try dsimp only at hS9); go_simp <;> with_reducible rfl) ?_) | (refine lexV_skip rfl (fun _ => trivial) (by first | exact wanted_some (b := true) (c := false) rfl rfl rfl | exact wanted_some (b := false) (c := true) rfl rfl rfl) ?_) | (refine lexV_builtin rfl (fun _ => trivial) (by first | exact wanted_none rfl | exact wanted_some (b := true) (c := true) rfl rfl rfl | exact wanted_some (b := false) (c := false) rfl rfl rfl) (by intro w9 hS9; (try dsimp only at hS9); go_simp <;> with_reducible rfl) ?_)); (try simp only [Act.put, List.getElem_toArray, List.getElem_cons_succ, List.getElem_cons_zero, List.setIfInBounds_toArray, List.set_cons_zero, List.set_cons_succ]))
      refine lexV_nil (panQ_normal ?_)
      clear ys8 ys9 ys10 ys11 yk0 yk1 yk2 yk3 yk4 yk5 yk6 yq0 yw0 yq1 yw1 yq2 yw2 yq3 yw3 lQ5
      have hkq3 := set33_blk HQZ.out (.int .i64 m.r.ses) (.int .i64 m.r.lim) (.int .i64 m.r.next) (.slice Ae2 ne ce2)
      have hT3 := set33_turn HQZ.out (base := w.heap.size + 1) hbG (.int .i64 m.r.ses) (.int .i64 m.r.lim) (.int .i64 m.r.next) (.slice Ae2 ne ce2)
      have hb3 := set33_below HP9.out.2.1 (g := G) hGw (.int .i64 m.r.ses) (.int .i64 m.r.lim) (.int .i64 m.r.next) (.slice Ae2 ne ce2)
      have HF9 : Hid (Blk ((((w5.setCell ⟨G, 0, none⟩ (.int .i64 m.r.ses)).setCell ⟨G, 1, none⟩ (.int .i64 m.r.lim)).setCell ⟨G, 2, none⟩ (.int .i64 m.r.next)).setCell ⟨G, 3, none⟩ (.slice Ae2 ne ce2)) G 33 #[.int .i64 m.r.ses, .int .i64 m.r.lim, .int .i64 m.r.next, .slice Ae2 ne ce2] ∧ AsV ((((w5.setCell ⟨G, 0, none⟩ (.int .i64 m.r.ses)).setCell ⟨G, 1, none⟩ (.int .i64 m.r.lim)).setCell ⟨G, 2, none⟩ (.int .i64 m.r.next)).setCell ⟨G, 3, none⟩ (.slice Ae2 ne ce2)) (w.heap.size + 1) m.r.early (.slice Ae2 ne ce2) ∧ Below w3.heap.size w3 ((((w5.setCell ⟨G, 0, none⟩ (.int .i64 m.r.ses)).setCell ⟨G, 1, none⟩ (.int .i64 m.r.lim)).setCell ⟨G, 2, none⟩ (.int .i64 m.r.next)).setCell ⟨G, 3, none⟩ (.slice Ae2 ne ce2)) ∧ Blk ((((w5.setCell ⟨G, 0, none⟩ (.int .i64 m.r.ses)).setCell ⟨G, 1, none⟩ (.int .i64 m.r.lim)).setCell ⟨G, 2, none⟩ (.int .i64 m.r.next)).setCell ⟨G, 3, none⟩ (.slice Ae2 ne ce2)) B 55 #[.int .i64 q.kind, .int .i64 q.ses, .int .i64 q.seq, .int .i64 q.ack, .int .i64 q.cred, .slice As ns0 cs, .slice Ap np cp]) := ⟨hkq3, HP9.out.1.turn hT3 (by simp) (by simp), hb3, HP9.out.2.2.turn hT3 (by simp)⟩
      clear hkq3 hT3 hb3 HP9 HQZ
      try go_wp2_with fail
      go_meet
      exact ⟨_, Ae2, ce2, A1, c1, A2, c2, rfl, rfl, rfl, HF9⟩
  case rest =>
    obtain ⟨G, Ae2, ce2, A1, c1, A2, c2, rfl, rfl, rfl, HG⟩ := hcut
    clear HP1 lX1 lB1 xr8 xr9 xr10 xr11 xk0 xk1 xk2 xk3 xk4 xk5 xk6
    have hk73 := HR.out.2.below HG.out.2.2.1 hXP
    have H16 := Lib.hid (fun w9 (hb9 : Below wc.heap.size wc w9) => SameReceiver_true m.r (.agg #[.int .i64 m.r.ses, .int .i64 m.r.lim, .int .i64 m.r.next, .slice Ae2 ne ce2]) (.agg #[.int .i64 m.r.ses, .int .i64 m.r.lim, .int .i64 m.r.next, .slice Ae ne ce]) (w.heap.size + 1) (w.heap.size + 1) w9 ⟨_, rfl, HG.out.2.1.up hb9⟩ ⟨_, rfl, ((HR.out.1.below HG.out.2.2.1).below hb9).re⟩ HSM.out.2.1)
    go_upto_region 10 with fail
    go_region_held3 (fun w' => w'.cell? ⟨G, 0, none⟩ = some (.int .i64 m.r.ses) ∧ w'.cell? ⟨G, 1, none⟩ = some (.int .i64 m.r.lim) ∧ w'.cell? ⟨G, 2, none⟩ = some (.int .i64 m.r.next) ∧ w'.cell? ⟨G, 3, none⟩ = some (.slice Ae2 ne ce2) ∧ w'.cell? ⟨X, 8, none⟩ = some (.int .i64 m.r.ses) ∧ w'.cell? ⟨X, 9, none⟩ = some (.int .i64 m.r.lim) ∧ w'.cell? ⟨X, 10, none⟩ = some (.int .i64 m.r.next) ∧ w'.cell? ⟨X, 11, none⟩ = some (.slice Ae ne ce) ∧ Below wc.heap.size wc w')
      (first
        | exact b33_held ((Below.refl _ wc).drew) HG.out.1 hk73
        | (go_split_ands; refine b33_held (below_step ?_ hb') HG.out.1 hk73; assumption)
        | (go_split_ands; refine ⟨?_, ?_, ?_, ?_, ?_, ?_, ?_, ?_, ?_⟩ <;> assumption))
      (first
        | (go_at_call 16; refine (H16.out _ ?_).mono ?_; (go_split_ands; assumption); rintro e w' ⟨rfl, hb'⟩))
    rename_i hS
    clear hb'
    generalize w' = w4 at *
    have hb4 := hS.2.2.2.2.2.2.2.2
    have HP4 := Lib.hid (And.intro (HG.out.2.2.1.trans (hb4.mono HG.out.2.2.1.size)) (HG.out.2.2.2.below hb4 HG.out.2.2.2.lt))
    clear hS H16 hb4 hk73 HG
    have xp0 : w4.cell? ⟨B, 0, none⟩ = some (.int .i64 q.kind) := HP4.out.2.cell 0
    have xp1 : w4.cell? ⟨B, 1, none⟩ = some (.int .i64 q.ses) := HP4.out.2.cell 1
    have xp2 : w4.cell? ⟨B, 2, none⟩ = some (.int .i64 q.seq) := HP4.out.2.cell 2
    have xp3 : w4.cell? ⟨B, 3, none⟩ = some (.int .i64 q.ack) := HP4.out.2.cell 3
    have xp4 : w4.cell? ⟨B, 4, none⟩ = some (.int .i64 q.cred) := HP4.out.2.cell 4
    have xp5 : w4.cell? ⟨B, 5, none⟩ = some (.slice As ns0 cs) := HP4.out.2.cell 5
    have xp6 : w4.cell? ⟨B, 6, none⟩ = some (.slice Ap np cp) := HP4.out.2.cell 6
    have xy0 := HP4.out.2.frozen 0
    have lB := HP4.out.2.lt
    go_upto_region 14 with fail
    have HP5 := Lib.hid HP4.out
    clear HP4 xp0 xp1 xp2 xp3 xp4 xp5 xp6 xy0 lB
    generalize w4 = V5 at *
    have xr0 : V5.cell? ⟨X, 0, none⟩ = some (.int .i64 m.s.ses) := (HR.out.2.below HP5.out.1 hXP).cell 0
    have xr1 : V5.cell? ⟨X, 1, none⟩ = some (.int .i64 m.s.lim) := (HR.out.2.below HP5.out.1 hXP).cell 1
    have xr2 : V5.cell? ⟨X, 2, none⟩ = some (.int .i64 m.s.tmo) := (HR.out.2.below HP5.out.1 hXP).cell 2
    have xr3 : V5.cell? ⟨X, 3, none⟩ = some (.int .i64 m.s.base) := (HR.out.2.below HP5.out.1 hXP).cell 3
    have xr4 : V5.cell? ⟨X, 4, none⟩ = some (.int .i64 m.s.next) := (HR.out.2.below HP5.out.1 hXP).cell 4
    have xr5 : V5.cell? ⟨X, 5, none⟩ = some (.int .i64 m.s.cred) := (HR.out.2.below HP5.out.1 hXP).cell 5
    have xr6 : V5.cell? ⟨X, 6, none⟩ = some (.slice Ao no co) := (HR.out.2.below HP5.out.1 hXP).cell 6
    have xr7 : V5.cell? ⟨X, 7, none⟩ = some (.slice Aq nq cq) := (HR.out.2.below HP5.out.1 hXP).cell 7
    have xr16 : V5.cell? ⟨X, 16, none⟩ = some (.int .i64 m.now) := (HR.out.2.below HP5.out.1 hXP).cell 16
    have xk0 : V5.cell? ⟨B, 0, none⟩ = some (.int .i64 q.kind) := HP5.out.2.cell 0
    have xk1 : V5.cell? ⟨B, 1, none⟩ = some (.int .i64 q.ses) := HP5.out.2.cell 1
    have xk2 : V5.cell? ⟨B, 2, none⟩ = some (.int .i64 q.seq) := HP5.out.2.cell 2
    have xk3 : V5.cell? ⟨B, 3, none⟩ = some (.int .i64 q.ack) := HP5.out.2.cell 3
    have xk4 : V5.cell? ⟨B, 4, none⟩ = some (.int .i64 q.cred) := HP5.out.2.cell 4
    have xk5 : V5.cell? ⟨B, 5, none⟩ = some (.slice As ns0 cs) := HP5.out.2.cell 5
    have xk6 : V5.cell? ⟨B, 6, none⟩ = some (.slice Ap np cp) := HP5.out.2.cell 6
    have lX1 := (HR.out.2.below HP5.out.1 hXP).lt
    have lB1 := HP5.out.2.lt
    go_cut [13, 14] from 81 to 93 (fun s13 s14 wx => ∃ (G : Nat) (Ao2 : Option Addr) (co2 : Nat) (Aq2 : Option Addr) (cq2 : Nat), s13 = .pointer (some ⟨G, 0, none⟩) ∧ s14 = .int .i64 (-1) ∧ Hid (Blk wx G 25 #[.int .i64 m.s.ses, .int .i64 m.s.lim, .int .i64 m.s.tmo, .int .i64 m.s.base, .int .i64 m.s.next, .int .i64 m.s.cred, .slice Ao2 no co2, .slice Aq2 nq cq2] ∧ OsV wx (w.heap.size + 1) m.s.out (.slice Ao2 no co2) ∧ QsV wx (w.heap.size + 1) m.s.q (.slice Aq2 nq cq2) ∧ Below w3.heap.size w3 wx))
    case first =>
      refine wp_region_lexV (.op 0 1 (.op 4 1 (.op 8 1 (.op 1 1 (.op 5 1 (.op 2 1 (.op 6 1 (.op 3 1 (.op 7 1 (.two 9 13 (.op 10 1 (.op 11 1 (.op 12 1 (.op 13 0 (.op 14 0 (.op 15 1 .nil)))))) (.op 9 0 (.op 10 1 (.op 11 1 (.op 12 1 (.op 14 0 (.op 15 1 .nil)))))))))))))))) [] (fun w9 => w9.cell? ⟨X, 0, none⟩ = some (.int .i64 m.s.ses) ∧ w9.cell? ⟨X, 1, none⟩ = some (.int .i64 m.s.lim) ∧ w9.cell? ⟨X, 2, none⟩ = some (.int .i64 m.s.tmo) ∧ w9.cell? ⟨X, 3, none⟩ = some (.int .i64 m.s.base) ∧ w9.cell? ⟨X, 4, none⟩ = some (.int .i64 m.s.next) ∧ w9.cell? ⟨X, 5, none⟩ = some (.int .i64 m.s.cred) ∧ w9.cell? ⟨X, 6, none⟩ = some (.slice Ao no co) ∧ w9.cell? ⟨X, 7, none⟩ = some (.slice Aq nq cq) ∧ w9.cell? ⟨X, 16, none⟩ = some (.int .i64 m.now) ∧ w9.cell? ⟨B, 0, none⟩ = some (.int .i64 q.kind) ∧ w9.cell? ⟨B, 1, none⟩ = some (.int .i64 q.ses) ∧ w9.cell? ⟨B, 2, none⟩ = some (.int .i64 q.seq) ∧ w9.cell? ⟨B, 3, none⟩ = some (.int .i64 q.ack) ∧ w9.cell? ⟨B, 4, none⟩ = some (.int .i64 q.cred) ∧ w9.cell? ⟨B, 5, none⟩ = some (.slice As ns0 cs) ∧ w9.cell? ⟨B, 6, none⟩ = some (.slice Ap np cp)) (by kernel_rfl) (by kernel_rfl) (by kernel_rfl) (by kernel_rfl) (by kernel_rfl) ⟨xr0, xr1, xr2, xr3, xr4, xr5, xr6, xr7, xr16, xk0, xk1, xk2, xk3, xk4, xk5, xk6⟩ ?_
      repeat ((first | (refine lexV_read rfl (by rfl) (by first | exact wanted_none rfl | exact wanted_some (b := true) (c := true) rfl rfl rfl | exact wanted_some (b := false) (c := false) rfl rfl rfl) (by intro w9 hS9; (try dsimp only at hS9); go_simp <;> with_reducible rfl) ?_) | (refine lexV_skip rfl (fun _ => trivial) (by first | exact wanted_some (b := true) (c := false) rfl rfl rfl | exact wanted_some (b := false) (c := true) rfl rfl rfl) ?_) | (refine lexV_builtin rfl (fun _ => trivial) (by first | exact wanted_none rfl | exact wanted_some (b := true) (c := true) rfl rfl rfl | exact wanted_some (b := false) (c := false) rfl rfl rfl) (by intro w9 hS9; (try dsimp only at hS9); go_simp <;> with_reducible rfl) ?_)); (try simp only [Act.put, List.getElem_toArray, List.getElem_cons_succ, List.getElem_cons_zero, List.setIfInBounds_toArray, List.set_cons_zero, List.set_cons_succ]))
      refine lexV_two ?_ ?_
      · have hv1 : SnV V5.drew (w.heap.size + 1) m.s (.agg (snC m.s (.slice Ao no co) (.slice Aq nq cq))) := ⟨_, _, rfl, (HR.out.1.below (HP5.out.1.drew)).so, (HR.out.1.below (HP5.out.1.drew)).sq⟩
        have hc := Ack_any m.s m.now q _ _ (w.heap.size + 1) V5.drew hv1 HSM.out.1 ((HQ2.out V5.drew (HP5.out.1.drew)).low55) ⟨HSP.out.sel, HSP.out.p⟩ (Nat.le_trans hbw3 (Below.size (HP5.out.1.drew)))
        unfold snC at hc
        clear hv1
        refine lexV_eff rfl (fun _ => trivial) ?_
        go_simp
        refine CallsIn.mono ((callsIn_wide (n := 0)).2 hc) ?_
        rintro e w5 ⟨⟨sv, n5, rfl, hsv, hn5⟩, hb5⟩
        dsimp only
        rw [HAS.out] at hsv hn5
        dsimp only at hsv hn5
        subst hn5
        obtain ⟨vo2, vq2, rfl, hO2, hQ2⟩ := hsv
        obtain ⟨Ao2, co2, rfl, -, -⟩ := hO2.form
        obtain ⟨Aq2, cq2, rfl, -, -⟩ := hQ2.form
        rw [HLN.out.1] at hO2 ⊢
        rw [HLN.out.2.1] at hQ2 ⊢
        unfold snC
        have hw5 := Below.trans (HP5.out.1.drew) (hb5.mono (Below.size (HP5.out.1.drew)))
        have hk5 := HR.out.2.below hw5 hXP
        have hp5 := (HP5.out.2.drew).below hb5 (Blk.lt (HP5.out.2.drew))
        have lX5 := hk5.lt
        have lB5 := hp5.lt
        have ys0 : w5.cell? ⟨X, 0, none⟩ = some (.int .i64 m.s.ses) := hk5.cell 0
        have ys1 : w5.cell? ⟨X, 1, none⟩ = some (.int .i64 m.s.lim) := hk5.cell 1
        have ys2 : w5.cell? ⟨X, 2, none⟩ = some (.int .i64 m.s.tmo) := hk5.cell 2
        have ys3 : w5.cell? ⟨X, 3, none⟩ = some (.int .i64 m.s.base) := hk5.cell 3
        have ys4 : w5.cell? ⟨X, 4, none⟩ = some (.int .i64 m.s.next) := hk5.cell 4
        have ys5 : w5.cell? ⟨X, 5, none⟩ = some (.int .i64 m.s.cred) := hk5.cell 5
        have ys6 : w5.cell? ⟨X, 6, none⟩ = some (.slice Ao no co) := hk5.cell 6
        have ys7 : w5.cell? ⟨X, 7, none⟩ = some (.slice Aq nq cq) := hk5.cell 7
        have ys16 : w5.cell? ⟨X, 16, none⟩ = some (.int .i64 m.now) := hk5.cell 16
        have yk0 : w5.cell? ⟨B, 0, none⟩ = some (.int .i64 q.kind) := hp5.cell 0
        have yk1 : w5.cell? ⟨B, 1, none⟩ = some (.int .i64 q.ses) := hp5.cell 1
        have yk2 : w5.cell? ⟨B, 2, none⟩ = some (.int .i64 q.seq) := hp5.cell 2
        have yk3 : w5.cell? ⟨B, 3, none⟩ = some (.int .i64 q.ack) := hp5.cell 3
        have yk4 : w5.cell? ⟨B, 4, none⟩ = some (.int .i64 q.cred) := hp5.cell 4
        have yk5 : w5.cell? ⟨B, 5, none⟩ = some (.slice As ns0 cs) := hp5.cell 5
        have yk6 : w5.cell? ⟨B, 6, none⟩ = some (.slice Ap np cp) := hp5.cell 6
        have HP9 := Lib.hid (And.intro hO2 (And.intro hQ2 hw5))
        clear hc hO2 hQ2 hw5 hk5 hp5 hb5 xr0 xr1 xr2 xr3 xr4 xr5 xr6 xr7 xr16 xk0 xk1 xk2 xk3 xk4 xk5 xk6
        refine ⟨⟨ys0, ys1, ys2, ys3, ys4, ys5, ys6, ys7, ys16, yk0, yk1, yk2, yk3, yk4, yk5, yk6⟩, ?_⟩
        (try simp only [Act.put, List.getElem_toArray, List.getElem_cons_succ, List.getElem_cons_zero, List.setIfInBounds_toArray, List.set_cons_zero, List.set_cons_succ])
        repeat ((first | (refine lexV_read rfl (by rfl) (by first | exact wanted_none rfl | exact wanted_some (b := true) (c := true) rfl rfl rfl | exact wanted_some (b := false) (c := false) rfl rfl rfl) (by intro w9 hS9; (try dsimp only at hS9); go_simp <;> with_reducible rfl) ?_) | (refine lexV_skip rfl (fun _ => trivial) (by first | exact wanted_some (b := true) (c := false) rfl rfl rfl | exact wanted_some (b := false) (c := true) rfl rfl rfl) ?_) | (refine lexV_builtin rfl (fun _ => trivial) (by first | exact wanted_none rfl | exact wanted_some (b := true) (c := true) rfl rfl rfl | exact wanted_some (b := false) (c := false) rfl rfl rfl) (by intro w9 hS9; (try dsimp only at hS9); go_simp <;> with_reducible rfl) ?_)); (try simp only [Act.put, List.getElem_toArray, List.getElem_cons_succ, List.getElem_cons_zero, List.setIfInBounds_toArray, List.set_cons_zero, List.set_cons_succ]))
        refine lexV_eff rfl (fun _ => trivial) ?_
        go_simp
        (try simp only [Act.put, List.getElem_toArray, List.getElem_cons_succ, List.getElem_cons_zero, List.setIfInBounds_toArray, List.set_cons_zero, List.set_cons_succ])
        refine lexV_eff rfl (fun _ => trivial) ?_
        go_simp
        (try simp only [Act.put, List.getElem_toArray, List.getElem_cons_succ, List.getElem_cons_zero, List.setIfInBounds_toArray, List.set_cons_zero, List.set_cons_succ])
        repeat ((first | (refine lexV_read rfl (by rfl) (by first | exact wanted_none rfl | exact wanted_some (b := true) (c := true) rfl rfl rfl | exact wanted_some (b := false) (c := false) rfl rfl rfl) (by intro w9 hS9; (try dsimp only at hS9); go_simp <;> with_reducible rfl) ?_) | (refine lexV_skip rfl (fun _ => trivial) (by first | exact wanted_some (b := true) (c := false) rfl rfl rfl | exact wanted_some (b := false) (c := true) rfl rfl rfl) ?_) | (refine lexV_builtin rfl (fun _ => trivial) (by first | exact wanted_none rfl | exact wanted_some (b := true) (c := true) rfl rfl rfl | exact wanted_some (b := false) (c := false) rfl rfl rfl) (by intro w9 hS9; (try dsimp only at hS9); go_simp <;> with_reducible rfl) ?_)); (try simp only [Act.put, List.getElem_toArray, List.getElem_cons_succ, List.getElem_cons_zero, List.setIfInBounds_toArray, List.set_cons_zero, List.set_cons_succ]))
        refine lexV_nil (panQ_normal ?_)
        clear ys0 ys1 ys2 ys3 ys4 ys5 ys6 ys7 ys16 yk0 yk1 yk2 yk3 yk4 yk5 yk6
        have hb6 : Below w5.heap.size w5 (w5.alloc (.cells #[.int .i64 m.s.ses, .int .i64 m.s.lim, .int .i64 m.s.tmo, .int .i64 m.s.base, .int .i64 m.s.next, .int .i64 m.s.cred, .slice Ao2 no co2, .slice Aq2 nq cq2] 25)) := (Below.refl _ w5).alloc (Nat.le_refl _) _
        have HF9 : Hid (Blk (w5.alloc (.cells #[.int .i64 m.s.ses, .int .i64 m.s.lim, .int .i64 m.s.tmo, .int .i64 m.s.base, .int .i64 m.s.next, .int .i64 m.s.cred, .slice Ao2 no co2, .slice Aq2 nq cq2] 25)) w5.heap.size 25 #[.int .i64 m.s.ses, .int .i64 m.s.lim, .int .i64 m.s.tmo, .int .i64 m.s.base, .int .i64 m.s.next, .int .i64 m.s.cred, .slice Ao2 no co2, .slice Aq2 nq cq2] ∧ OsV (w5.alloc (.cells #[.int .i64 m.s.ses, .int .i64 m.s.lim, .int .i64 m.s.tmo, .int .i64 m.s.base, .int .i64 m.s.next, .int .i64 m.s.cred, .slice Ao2 no co2, .slice Aq2 nq cq2] 25)) (w.heap.size + 1) m.s.out (.slice Ao2 no co2) ∧ QsV (w5.alloc (.cells #[.int .i64 m.s.ses, .int .i64 m.s.lim, .int .i64 m.s.tmo, .int .i64 m.s.base, .int .i64 m.s.next, .int .i64 m.s.cred, .slice Ao2 no co2, .slice Aq2 nq cq2] 25)) (w.heap.size + 1) m.s.q (.slice Aq2 nq cq2) ∧ Below w3.heap.size w3 (w5.alloc (.cells #[.int .i64 m.s.ses, .int .i64 m.s.lim, .int .i64 m.s.tmo, .int .i64 m.s.base, .int .i64 m.s.next, .int .i64 m.s.cred, .slice Ao2 no co2, .slice Aq2 nq cq2] 25))) := ⟨Blk.new w5 25 _, HP9.out.1.up hb6, HP9.out.2.1.up hb6, HP9.out.2.2.trans (hb6.mono HP9.out.2.2.size)⟩
        clear hb6 HP9
        try go_wp2_with fail
        go_meet
        exact ⟨_, Ao2, co2, Aq2, cq2, rfl, rfl, HF9⟩
      · have hbz : Below V5.heap.size V5 (V5.alloc (.cells #[.int .i64 0, .int .i64 0, .int .i64 0, .int .i64 0, .int .i64 0, .int .i64 0, .slice none 0 0, .slice none 0 0] 25)).drew := ((Below.refl _ V5).alloc (Nat.le_refl _) _).drew
        have HZ := Lib.hid (And.intro (HP5.out.1.trans (hbz.mono HP5.out.1.size)) (And.intro (HP5.out.2.below hbz lB1) (Blk.new V5 25 #[.int .i64 0, .int .i64 0, .int .i64 0, .int .i64 0, .int .i64 0, .int .i64 0, .slice none 0 0, .slice none 0 0]).drew))
        clear hbz
        refine lexV_eff rfl (fun _ => trivial) ?_
        go_simp
        (try simp only [Act.put, List.getElem_toArray, List.getElem_cons_succ, List.getElem_cons_zero, List.setIfInBounds_toArray, List.set_cons_zero, List.set_cons_succ])
        repeat ((first | (refine lexV_read rfl (by rfl) (by first | exact wanted_none rfl | exact wanted_some (b := true) (c := true) rfl rfl rfl | exact wanted_some (b := false) (c := false) rfl rfl rfl) (by intro w9 hS9; (try dsimp only at hS9); go_simp <;> with_reducible rfl) ?_) | (refine lexV_skip rfl (fun _ => trivial) (by first | exact wanted_some (b := true) (c := false) rfl rfl rfl | exact wanted_some (b := false) (c := true) rfl rfl rfl) ?_) | (refine lexV_builtin rfl (fun _ => trivial) (by first | exact wanted_none rfl | exact wanted_some (b := true) (c := true) rfl rfl rfl | exact wanted_some (b := false) (c := false) rfl rfl rfl) (by intro w9 hS9; (try dsimp only at hS9); go_simp <;> with_reducible rfl) ?_)); (try simp only [Act.put, List.getElem_toArray, List.getElem_cons_succ, List.getElem_cons_zero, List.setIfInBounds_toArray, List.set_cons_zero, List.set_cons_succ]))
        obtain ⟨G, hG⟩ : ∃ x, x = V5.heap.size := ⟨_, rfl⟩
        have hXG : X < G := by rw [hG]; exact lX1
        have hBG : B < G := by rw [hG]; exact lB1
        have hGw : w3.heap.size ≤ G := by omega
        have hbG : w.heap.size + 1 ≤ G := by omega
        rw [← hG] at HZ ⊢
        clear hG
        generalize (V5.alloc (.cells #[.int .i64 0, .int .i64 0, .int .i64 0, .int .i64 0, .int .i64 0, .int .i64 0, .slice none 0 0, .slice none 0 0] 25)).drew = V2 at *
        have hv1 : SnV V2 (w.heap.size + 1) m.s (.agg (snC m.s (.slice Ao no co) (.slice Aq nq cq))) := ⟨_, _, rfl, (HR.out.1.below HZ.out.1).so, (HR.out.1.below HZ.out.1).sq⟩
        have hc := Ack_any m.s m.now q _ _ (w.heap.size + 1) V2 hv1 HSM.out.1 ((HQ2.out V2 HZ.out.1).low55) ⟨HSP.out.sel, HSP.out.p⟩ (Nat.le_trans hbw3 (Below.size HZ.out.1))
        unfold snC at hc
        clear hv1
        refine lexV_eff rfl (fun _ => trivial) ?_
        go_simp
        refine CallsIn.mono ((callsIn_wide (n := 0)).2 hc) ?_
        rintro e w5 ⟨⟨sv, n5, rfl, hsv, hn5⟩, hb5⟩
        dsimp only
        rw [HAS.out] at hsv hn5
        dsimp only at hsv hn5
        subst hn5
        obtain ⟨vo2, vq2, rfl, hO2, hQ2⟩ := hsv
        obtain ⟨Ao2, co2, rfl, -, -⟩ := hO2.form
        obtain ⟨Aq2, cq2, rfl, -, -⟩ := hQ2.form
        rw [HLN.out.1] at hO2 ⊢
        rw [HLN.out.2.1] at hQ2 ⊢
        unfold snC
        have hw5 := Below.trans HZ.out.1 (hb5.mono (Below.size HZ.out.1))
        have hk5 := HR.out.2.below hw5 hXP
        have hp5 := (HZ.out.2.1).below hb5 (Blk.lt (HZ.out.2.1))
        have lX5 := hk5.lt
        have lB5 := hp5.lt
        have ys0 : w5.cell? ⟨X, 0, none⟩ = some (.int .i64 m.s.ses) := hk5.cell 0
        have ys1 : w5.cell? ⟨X, 1, none⟩ = some (.int .i64 m.s.lim) := hk5.cell 1
        have ys2 : w5.cell? ⟨X, 2, none⟩ = some (.int .i64 m.s.tmo) := hk5.cell 2
        have ys3 : w5.cell? ⟨X, 3, none⟩ = some (.int .i64 m.s.base) := hk5.cell 3
        have ys4 : w5.cell? ⟨X, 4, none⟩ = some (.int .i64 m.s.next) := hk5.cell 4
        have ys5 : w5.cell? ⟨X, 5, none⟩ = some (.int .i64 m.s.cred) := hk5.cell 5
        have ys6 : w5.cell? ⟨X, 6, none⟩ = some (.slice Ao no co) := hk5.cell 6
        have ys7 : w5.cell? ⟨X, 7, none⟩ = some (.slice Aq nq cq) := hk5.cell 7
        have ys16 : w5.cell? ⟨X, 16, none⟩ = some (.int .i64 m.now) := hk5.cell 16
        have yk0 : w5.cell? ⟨B, 0, none⟩ = some (.int .i64 q.kind) := hp5.cell 0
        have yk1 : w5.cell? ⟨B, 1, none⟩ = some (.int .i64 q.ses) := hp5.cell 1
        have yk2 : w5.cell? ⟨B, 2, none⟩ = some (.int .i64 q.seq) := hp5.cell 2
        have yk3 : w5.cell? ⟨B, 3, none⟩ = some (.int .i64 q.ack) := hp5.cell 3
        have yk4 : w5.cell? ⟨B, 4, none⟩ = some (.int .i64 q.cred) := hp5.cell 4
        have yk5 : w5.cell? ⟨B, 5, none⟩ = some (.slice As ns0 cs) := hp5.cell 5
        have yk6 : w5.cell? ⟨B, 6, none⟩ = some (.slice Ap np cp) := hp5.cell 6
        have HQZ := Lib.hid (HZ.out.2.2.below hb5 HZ.out.2.2.lt)
        have yq0 : w5.cell? ⟨G, 0, none⟩ = some (.int .i64 0) := HQZ.out.cell 0
        have yq1 : w5.cell? ⟨G, 1, none⟩ = some (.int .i64 0) := HQZ.out.cell 1
        have yq2 : w5.cell? ⟨G, 2, none⟩ = some (.int .i64 0) := HQZ.out.cell 2
        have yq3 : w5.cell? ⟨G, 3, none⟩ = some (.int .i64 0) := HQZ.out.cell 3
        have yq4 : w5.cell? ⟨G, 4, none⟩ = some (.int .i64 0) := HQZ.out.cell 4
        have yq5 : w5.cell? ⟨G, 5, none⟩ = some (.int .i64 0) := HQZ.out.cell 5
        have yq6 : w5.cell? ⟨G, 6, none⟩ = some (.slice none 0 0) := HQZ.out.cell 6
        have yq7 : w5.cell? ⟨G, 7, none⟩ = some (.slice none 0 0) := HQZ.out.cell 7
        have yw0 := HQZ.out.frozen 0
        have yw1 := HQZ.out.frozen 1
        have yw2 := HQZ.out.frozen 2
        have yw3 := HQZ.out.frozen 3
        have yw4 := HQZ.out.frozen 4
        have yw5 := HQZ.out.frozen 5
        have yw6 := HQZ.out.frozen 6
        have yw7 := HQZ.out.frozen 7
        have lQ5 := HQZ.out.lt
        have HP9 := Lib.hid (And.intro hO2 (And.intro hQ2 hw5))
        clear hc hO2 hQ2 hw5 hk5 hp5 hb5 xr0 xr1 xr2 xr3 xr4 xr5 xr6 xr7 xr16 xk0 xk1 xk2 xk3 xk4 xk5 xk6 HZ
        refine ⟨⟨ys0, ys1, ys2, ys3, ys4, ys5, ys6, ys7, ys16, yk0, yk1, yk2, yk3, yk4, yk5, yk6⟩, ?_⟩
        (try simp only [Act.put, List.getElem_toArray, List.getElem_cons_succ, List.getElem_cons_zero, List.setIfInBounds_toArray, List.set_cons_zero, List.set_cons_succ])
        repeat ((first | (refine lexV_read rfl (by rfl) (by first | exact wanted_none rfl | exact wanted_some (b := true) (c := true) rfl rfl rfl | exact wanted_some (b := false) (c := false) rfl rfl rfl) (by intro w9 hS9; (try dsimp only at hS9); go_simp <;> with_reducible rfl) ?_) | (refine lexV_skip rfl (fun _ => trivial) (by first | exact wanted_some (b := true) (c := false) rfl rfl rfl | exact wanted_some (b := false) (c := true) rfl rfl rfl) ?_) | (refine lexV_builtin rfl (fun _ => trivial) (by first | exact wanted_none rfl | exact wanted_some (b := true) (c := true) rfl rfl rfl | exact wanted_some (b := false) (c := false) rfl rfl rfl) (by intro w9 hS9; (try dsimp only at hS9); go_simp <;> with_reducible rfl) ?_)); (try simp only [Act.put, List.getElem_toArray, List.getElem_cons_succ, List.getElem_cons_zero, List.setIfInBounds_toArray, List.set_cons_zero, List.set_cons_succ]))
        refine lexV_eff rfl (fun _ => trivial) ?_
        go_simp
        (try simp only [Act.put, List.getElem_toArray, List.getElem_cons_succ, List.getElem_cons_zero, List.setIfInBounds_toArray, List.set_cons_zero, List.set_cons_succ])
        repeat ((first | (refine lexV_read rfl (by rfl) (by first | exact wanted_none rfl | exact wanted_some (b := true) (c := true) rfl rfl rfl | exact wanted_some (b := false) (c := false) rfl rfl rfl) (by intro w9 hS9; (try dsimp only at hS9); go_simp <;> with_reducible rfl) ?_) | (refine lexV_skip rfl (fun _ => trivial) (by first | exact wanted_some (b := true) (c := false) rfl rfl rfl | exact wanted_some (b := false) (c := true) rfl rfl rfl) ?_) | (refine lexV_builtin rfl (fun _ => trivial) (by first | exact wanted_none rfl | exact wanted_some (b := true) (c := true) rfl rfl rfl | exact wanted_some (b := false) (c := false) rfl rfl rfl) (by intro w9 hS9; (try dsimp only at hS9); go_simp <;> with_reducible rfl) ?_)); (try simp only [Act.put, List.getElem_toArray, List.getElem_cons_succ, List.getElem_cons_zero, List.setIfInBounds_toArray, List.set_cons_zero, List.set_cons_succ]))
        refine lexV_nil (panQ_normal ?_)
        clear ys0 ys1 ys2 ys3 ys4 ys5 ys6 ys7 ys16 yk0 yk1 yk2 yk3 yk4 yk5 yk6 yq0 yw0 yq1 yw1 yq2 yw2 yq3 yw3 yq4 yw4 yq5 yw5 yq6 yw6 yq7 yw7 lQ5
        have hkq3 := set25_blk HQZ.out (.int .i64 m.s.ses) (.int .i64 m.s.lim) (.int .i64 m.s.tmo) (.int .i64 m.s.base) (.int .i64 m.s.next) (.int .i64 m.s.cred) (.slice Ao2 no co2) (.slice Aq2 nq cq2)
        have hT3 := set25_turn HQZ.out (base := w.heap.size + 1) hbG (.int .i64 m.s.ses) (.int .i64 m.s.lim) (.int .i64 m.s.tmo) (.int .i64 m.s.base) (.int .i64 m.s.next) (.int .i64 m.s.cred) (.slice Ao2 no co2) (.slice Aq2 nq cq2)
        have hb3 := set25_below HP9.out.2.2 (g := G) hGw (.int .i64 m.s.ses) (.int .i64 m.s.lim) (.int .i64 m.s.tmo) (.int .i64 m.s.base) (.int .i64 m.s.next) (.int .i64 m.s.cred) (.slice Ao2 no co2) (.slice Aq2 nq cq2)
        have HF9 : Hid (Blk ((((((((w5.setCell ⟨G, 0, none⟩ (.int .i64 m.s.ses)).setCell ⟨G, 1, none⟩ (.int .i64 m.s.lim)).setCell ⟨G, 2, none⟩ (.int .i64 m.s.tmo)).setCell ⟨G, 3, none⟩ (.int .i64 m.s.base)).setCell ⟨G, 4, none⟩ (.int .i64 m.s.next)).setCell ⟨G, 5, none⟩ (.int .i64 m.s.cred)).setCell ⟨G, 6, none⟩ (.slice Ao2 no co2)).setCell ⟨G, 7, none⟩ (.slice Aq2 nq cq2)) G 25 #[.int .i64 m.s.ses, .int .i64 m.s.lim, .int .i64 m.s.tmo, .int .i64 m.s.base, .int .i64 m.s.next, .int .i64 m.s.cred, .slice Ao2 no co2, .slice Aq2 nq cq2] ∧ OsV ((((((((w5.setCell ⟨G, 0, none⟩ (.int .i64 m.s.ses)).setCell ⟨G, 1, none⟩ (.int .i64 m.s.lim)).setCell ⟨G, 2, none⟩ (.int .i64 m.s.tmo)).setCell ⟨G, 3, none⟩ (.int .i64 m.s.base)).setCell ⟨G, 4, none⟩ (.int .i64 m.s.next)).setCell ⟨G, 5, none⟩ (.int .i64 m.s.cred)).setCell ⟨G, 6, none⟩ (.slice Ao2 no co2)).setCell ⟨G, 7, none⟩ (.slice Aq2 nq cq2)) (w.heap.size + 1) m.s.out (.slice Ao2 no co2) ∧ QsV ((((((((w5.setCell ⟨G, 0, none⟩ (.int .i64 m.s.ses)).setCell ⟨G, 1, none⟩ (.int .i64 m.s.lim)).setCell ⟨G, 2, none⟩ (.int .i64 m.s.tmo)).setCell ⟨G, 3, none⟩ (.int .i64 m.s.base)).setCell ⟨G, 4, none⟩ (.int .i64 m.s.next)).setCell ⟨G, 5, none⟩ (.int .i64 m.s.cred)).setCell ⟨G, 6, none⟩ (.slice Ao2 no co2)).setCell ⟨G, 7, none⟩ (.slice Aq2 nq cq2)) (w.heap.size + 1) m.s.q (.slice Aq2 nq cq2) ∧ Below w3.heap.size w3 ((((((((w5.setCell ⟨G, 0, none⟩ (.int .i64 m.s.ses)).setCell ⟨G, 1, none⟩ (.int .i64 m.s.lim)).setCell ⟨G, 2, none⟩ (.int .i64 m.s.tmo)).setCell ⟨G, 3, none⟩ (.int .i64 m.s.base)).setCell ⟨G, 4, none⟩ (.int .i64 m.s.next)).setCell ⟨G, 5, none⟩ (.int .i64 m.s.cred)).setCell ⟨G, 6, none⟩ (.slice Ao2 no co2)).setCell ⟨G, 7, none⟩ (.slice Aq2 nq cq2))) := ⟨hkq3, HP9.out.1.turn hT3 (by simp) (by simp), HP9.out.2.1.turn hT3 (by simp) (by simp), hb3⟩
        clear hkq3 hT3 hb3 HP9 HQZ
        try go_wp2_with fail
        go_meet
        exact ⟨_, Ao2, co2, Aq2, cq2, rfl, rfl, HF9⟩
    case rest =>
      obtain ⟨G, Ao2, co2, Aq2, cq2, rfl, rfl, HG⟩ := hcut
      clear HP5 lX1 lB1 xr0 xr1 xr2 xr3 xr4 xr5 xr6 xr7 xr16 xk0 xk1 xk2 xk3 xk4 xk5 xk6
      have hk73 := HR.out.2.below HG.out.2.2.2 hXP
      have H15 := Lib.hid (fun w9 (hb9 : Below wc.heap.size wc w9) => SameSender_true m.s (.agg #[.int .i64 m.s.ses, .int .i64 m.s.lim, .int .i64 m.s.tmo, .int .i64 m.s.base, .int .i64 m.s.next, .int .i64 m.s.cred, .slice Ao2 no co2, .slice Aq2 nq cq2]) (.agg #[.int .i64 m.s.ses, .int .i64 m.s.lim, .int .i64 m.s.tmo, .int .i64 m.s.base, .int .i64 m.s.next, .int .i64 m.s.cred, .slice Ao no co, .slice Aq nq cq]) (w.heap.size + 1) (w.heap.size + 1) w9 ⟨_, _, rfl, HG.out.2.1.up hb9, HG.out.2.2.1.up hb9⟩ ⟨_, _, rfl, ((HR.out.1.below HG.out.2.2.2).below hb9).so, ((HR.out.1.below HG.out.2.2.2).below hb9).sq⟩ HSM.out.1)
      go_upto_region 15 with fail
      go_region_held3 (fun w' => w'.cell? ⟨G, 0, none⟩ = some (.int .i64 m.s.ses) ∧ w'.cell? ⟨G, 1, none⟩ = some (.int .i64 m.s.lim) ∧ w'.cell? ⟨G, 2, none⟩ = some (.int .i64 m.s.tmo) ∧ w'.cell? ⟨G, 3, none⟩ = some (.int .i64 m.s.base) ∧ w'.cell? ⟨G, 4, none⟩ = some (.int .i64 m.s.next) ∧ w'.cell? ⟨G, 5, none⟩ = some (.int .i64 m.s.cred) ∧ w'.cell? ⟨G, 6, none⟩ = some (.slice Ao2 no co2) ∧ w'.cell? ⟨G, 7, none⟩ = some (.slice Aq2 nq cq2) ∧ w'.cell? ⟨X, 0, none⟩ = some (.int .i64 m.s.ses) ∧ w'.cell? ⟨X, 1, none⟩ = some (.int .i64 m.s.lim) ∧ w'.cell? ⟨X, 2, none⟩ = some (.int .i64 m.s.tmo) ∧ w'.cell? ⟨X, 3, none⟩ = some (.int .i64 m.s.base) ∧ w'.cell? ⟨X, 4, none⟩ = some (.int .i64 m.s.next) ∧ w'.cell? ⟨X, 5, none⟩ = some (.int .i64 m.s.cred) ∧ w'.cell? ⟨X, 6, none⟩ = some (.slice Ao no co) ∧ w'.cell? ⟨X, 7, none⟩ = some (.slice Aq nq cq) ∧ Below wc.heap.size wc w')
        (first
          | exact b25_held ((Below.refl _ wc).drew) HG.out.1 hk73
          | (go_split_ands; refine b25_held (below_step ?_ hb') HG.out.1 hk73; assumption)
          | (go_split_ands; refine ⟨?_, ?_, ?_, ?_, ?_, ?_, ?_, ?_, ?_, ?_, ?_, ?_, ?_, ?_, ?_, ?_, ?_⟩ <;> assumption))
        (first
          | (go_at_call 15; refine (H15.out _ ?_).mono ?_; (go_split_ands; assumption); rintro e w' ⟨rfl, hb'⟩)
          | (go_at_call 17; refine (awake_any _).mono ?_; rintro e w' ⟨rfl, hb'⟩))
      rename_i hS
      clear hb'
      generalize w' = w6 at *
      have hb6 := hS.2.2.2.2.2.2.2.2.2.2.2.2.2.2.2.2
      have h9 := HG.out.2.2.2.trans (hb6.mono HG.out.2.2.2.size)
      have HF := Lib.hid (H3.out.2.trans (h9.mono H3.out.2.size))
      clear hS H15 hb6 hk73 HG h9
      go_wp2_with fail
      go_ret
      exact ⟨rfl, HF.out⟩
end Go.Proofs.Ytanmndhdhlmjgaa
