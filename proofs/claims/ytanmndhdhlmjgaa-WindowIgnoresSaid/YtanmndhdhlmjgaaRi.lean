/- The walk of the transmission's step. Conditions: small. -/
import Derived.Test.YtanmndhdhlmjgaaMathK
import Derived.Test.YtanmndhdhlmjgaaRc
import Derived.Test.YtanmndhdhlmjgaaRd
import Derived.Test.YtanmndhdhlmjgaaRe
import Derived.Test.YtanmndhdhlmjgaaRf
import Derived.Test.YtanmndhdhlmjgaaRh
namespace Go.Proofs.Ytanmndhdhlmjgaa
open Go.RowKit
theorem Vec.pick {W : World} {base n c : Nat} {A : Option Addr} {l : List Ke} {k : Nat} (h : Vec encK KeR 55 7 W base (.slice A n c) l) (hn : l.length = n) (hk : k < l.length) : ∃ b off, A = some ⟨b, off, none⟩ ∧ b < W.heap.size ∧ (∀ j u, (encK l[k])[j]? = some u → W.cell? ⟨b, off + (k * 7 + j), none⟩ = some u) ∧ KeR W base l[k] := by
  obtain ⟨b, off, c2, hv, -, -, hb, hc⟩ := h.at_ encK_len (by omega) (by omega)
  injection hv with hA _ _
  exact ⟨b, off, hA, hb, hc k hk, h.el _ (List.getElem_mem hk)⟩
set_option maxRecDepth 100000 in
set_option maxHeartbeats 4000000 in
set_option linter.unusedSimpArgs false in
theorem runStep_any (m : RunM) (u : RVal) (X base : Nat) (n : Int) (W : World) (h : RunI W base X m u) (hX : base ≤ X) (hf : Fit m) (hn : -9223372036854775808 ≤ n ∧ n ≤ 9223372036854775807) :
    Calls Try.prog 43 #[.pointer (some ⟨X, 0, none⟩), .int .i64 n] W fun e W' => e = .returned (.bool true) ∧ (∃ u', RunI W' base X (stepR m n) u') ∧ Below base W W' := by
  have HFT := Lib.hid hf
  have HH := Lib.hid h
  clear hf
  obtain ⟨vo, vq, ve, vpu, vdl, vpk, van, pu, dl, pk, an⟩ := u
  have hso := h.rows.so.form
  have hsq := h.rows.sq.form
  have hre := h.rows.re.form
  have hpu := h.rows.pu.vform
  have hdl := h.rows.dl.vform
  have hpk := h.rows.pk.vform
  have han := h.rows.an.vform
  dsimp only at hso hsq hre hpu hdl hpk han
  obtain ⟨Ao, co, rfl, -, -⟩ := hso
  obtain ⟨Aq, cq, rfl, -, -⟩ := hsq
  obtain ⟨Ae, ce, rfl, -, -⟩ := hre
  obtain ⟨Apu, cpu, rfl, -, -⟩ := hpu
  obtain ⟨Adl, cdl, rfl, -, -⟩ := hdl
  obtain ⟨Apk, cpk, rfl, -, -⟩ := hpk
  obtain ⟨Aan, can, rfl, -, -⟩ := han
  have e1 : pu.length = m.pu.length := by rw [← h.rows.puM, List.length_map]
  have e2 : dl.length = m.dl.length := by rw [← h.rows.dlM, List.length_map]
  have e3 : pk.length = m.pk.length := by rw [← h.rows.pkM, List.length_map]
  have e4 : an.length = m.an.length := by rw [← h.rows.anM, List.length_map]
  obtain ⟨no, hno⟩ : ∃ n, m.s.out.length = n := ⟨_, rfl⟩
  obtain ⟨nq, hnq⟩ : ∃ n, m.s.q.length = n := ⟨_, rfl⟩
  obtain ⟨ne, hne⟩ : ∃ n, m.r.early.length = n := ⟨_, rfl⟩
  obtain ⟨npu, hnpu⟩ : ∃ n, pu.length = n := ⟨_, rfl⟩
  obtain ⟨ndl, hndl⟩ : ∃ n, dl.length = n := ⟨_, rfl⟩
  obtain ⟨npk, hnpk⟩ : ∃ n, pk.length = n := ⟨_, rfl⟩
  obtain ⟨nan, hnan⟩ : ∃ n, an.length = n := ⟨_, rfl⟩
  rw [hno, hnq, hne, hnpu, hndl, hnpk, hnan] at h
  try rw [hno]
  try rw [hnq]
  try rw [hne]
  try rw [hnpu]
  try rw [hndl]
  try rw [hnpk]
  try rw [hnan]
  have HLN := Lib.hid (And.intro hno (And.intro hnq (And.intro hne (And.intro hnpu (And.intro hndl (And.intro hnpk hnan))))))
  have HLE := Lib.hid (And.intro e1 (And.intro e2 (And.intro e3 e4)))
  have lX := h.blk.lt
  have hbk := h.blk
  unfold runC at hbk
  dsimp only at hbk
  have HR := Lib.hid (And.intro h.rows hbk)
  clear hno hnq hne hnpu hndl hnpk hnan e1 e2 e3 e4 h hbk
  have hbW : base ≤ W.heap.size := by omega
  have HBI := Lib.hid (And.intro (stepJ_eq n) (stepK_eq n))
  have hnpk : npk ≤ 50000 := by have h1 := HFT.out.pk; have h2 := HLE.out.2.2.1; have h3 := HLN.out.2.2.2.2.2.1; omega
  have hnan : nan ≤ 50000 := by have h1 := HFT.out.an; have h2 := HLE.out.2.2.2; have h3 := HLN.out.2.2.2.2.2.2; omega
  have HU : Hid (∃ u, RunI W base X m u) := ⟨_, HH.out⟩
  go_enter Try.func43, Try.ntmps43
  go_upto_region 3 with fail
  rw [HBI.out.1.1, HBI.out.2.1]
  obtain ⟨K, hK⟩ : ∃ K, stepK n = K := ⟨_, rfl⟩
  obtain ⟨J, hJ⟩ : ∃ J, stepJ n = J := ⟨_, rfl⟩
  have hK2 : K ≤ 1048575 := by rw [← hK]; exact HBI.out.2.2
  have hJ3 : J ≤ 3 := by rw [← hJ]; exact HBI.out.1.2
  rw [hK, hJ]
  have HJK := Lib.hid (And.intro hJ hK)
  clear hJ hK
  by_cases j0 : J = 0
  · have k0 : ((J : Int) == 0) = true := by rw [beq_iff_eq]; omega
    have HJ0 := Lib.hid j0
    clear j0
    have HC := Lib.hid (runPush_any m _ X base W HH.out hX HFT.out.small.1 (by have := HFT.out.pu; omega))
    go_wp2_with fail
    refine HC.out.mono ?_
    clear HC
    rintro e w1 ⟨rfl, hu, hb⟩
    have HF := Lib.hid (And.intro hu hb)
    clear hu hb
    go_wp2_with fail
    go_ret
    refine ⟨ret_bool ?_, ?_, HF.out.2⟩
    · rw [HFT.out.push]
      simp
    · have hst : stepR m n = pshM m := by unfold stepR; rw [HJK.out.1, if_pos HJ0.out]
      rw [hst]
      exact HF.out.1
  have k0 : ((J : Int) == 0) = false := by rw [beq_eq_false_iff_ne]; omega
  by_cases j1 : J = 1
  · have k1 : ((J : Int) == 1) = true := by rw [beq_iff_eq]; omega
    have HJ0 := Lib.hid (And.intro j0 j1)
    clear j0 j1
    have kt : Int.tmod (K : Int) 8 = ((K % 8 : Nat) : Int) := by rw [Int.tmod_eq_emod_of_nonneg (by omega)]; omega
    have hpl := pollS_pk (s := m.s) (now := m.now + ((K % 8 : Nat) : Int)) HFT.out.q
    have HC := Lib.hid (runPoll_any m _ X base ((K % 8 : Nat) : Int) W HH.out hX HFT.out.small.1 (by have := HFT.out.now; omega) (by omega) hpl.1 (by have := HFT.out.pk; omega))
    clear hpl
    go_wp2_with fail
    refine HC.out.mono ?_
    clear HC
    rintro e w1 ⟨⟨ve9, rfl⟩, ⟨vo', vq', vpk', pk', hu⟩, hb⟩
    have HF := Lib.hid (And.intro hu hb)
    clear hu hb
    go_wp2_with fail
    go_ret
    refine ⟨rfl, ?_, HF.out.2⟩
    have hst : stepR m n = pollM m ((K % 8 : Nat) : Int) := by unfold stepR; rw [HJK.out.1, if_neg HJ0.out.1, if_pos HJ0.out.2, HJK.out.2]
    rw [hst]
    exact ⟨_, HF.out.1⟩
  have k1 : ((J : Int) == 1) = false := by rw [beq_eq_false_iff_ne]; omega
  by_cases j2 : J = 2
  · have k2 : ((J : Int) == 2) = true := by rw [beq_iff_eq]; omega
    have HJ0 := Lib.hid (And.intro j0 (And.intro j1 j2))
    clear j0 j1 j2
    have xr14 : W.cell? ⟨X, 14, none⟩ = some (.slice Apk npk cpk) := HR.out.2.cell 14
    by_cases hz : 0 < npk
    rotate_left 1
    · have kz : decide ((0 : Int) < (npk : Int)) = false := decide_eq_false (by omega)
      have kzb : (0 < npk) = False := eq_false hz
      have hst : stepR m n = m := by
        have h0 : m.pk = [] := List.length_eq_zero_iff.1 (by have h2 := HLE.out.2.2.1; have h3 := HLN.out.2.2.2.2.2.1; omega)
        unfold stepR; rw [HJK.out.1, if_neg HJ0.out.1, if_neg HJ0.out.2.1, if_pos HJ0.out.2.2, HJK.out.2]
        unfold pickP
        rw [h0]
        rfl
      have HST := Lib.hid hst
      clear hst hz
      go_wp2_with fail
      go_ret
      refine ⟨rfl, ?_, Below.refl _ _⟩
      rw [HST.out]
      exact HU.out
    have kz : decide ((0 : Int) < (npk : Int)) = true := decide_eq_true (by omega)
    have kzb : (0 < npk) = True := eq_true hz
    obtain ⟨i, hi⟩ : ∃ i, npk - 1 - K % npk = i := ⟨_, rfl⟩
    have hin : i < npk := by omega
    have hKm : K % npk < npk := Nat.mod_lt _ hz
    have kt : Int.tmod (K : Int) (npk : Int) = ((K % npk : Nat) : Int) := by rw [Int.tmod_eq_emod_of_nonneg (by omega)]; omega
    have kw1 : IntKind.i64.wrap ((npk : Int) - 1) = (npk : Int) - 1 := by rw [IntWalk.i64_in _ (by omega)]
    have hem : (K : Int) % (npk : Int) = ((K % npk : Nat) : Int) := by omega
    have kw2 : IntKind.i64.wrap ((npk : Int) - 1 - (K : Int) % (npk : Int)) = (i : Int) := by rw [hem, IntWalk.i64_in _ (by omega)]; omega
    clear hem
    have kw3 : IntKind.i64.wrap ((K % npk : Nat) : Int) = ((K % npk : Nat) : Int) := by rw [IntWalk.i64_in _ (by omega)]
    have hne0 : ((npk : Int) == 0) = false := by rw [beq_eq_false_iff_ne]; omega
    have hne1 : ¬ ((npk : Int) = 0) := by omega
    have hne2 : (npk = 0) = False := eq_false (by omega)
    have hil : i < pk.length := by have h3 := HLN.out.2.2.2.2.2.1; omega
    obtain ⟨b, off, hA, hbl, hc, hK9⟩ := Vec.pick HR.out.1.pk.vec HLN.out.2.2.2.2.2.1 hil
    try dsimp only at hA
    subst hA
    obtain ⟨E, hE⟩ : ∃ E, E = pk[i] := ⟨_, rfl⟩
    have hpick : pickP m.pk K = some E.pm := by
      unfold pickP
      have h2 := HLE.out.2.2.1
      have h3 := HLN.out.2.2.2.2.2.1
      rw [show m.pk.length - 1 - K % m.pk.length = i by rw [← h2, h3]; exact hi, ← HR.out.1.pkM, List.getElem?_map, List.getElem?_eq_getElem hil, hE]
      rfl
    rw [← hE] at hc hK9
    have d0 : W.cell? ⟨b, off + i * 7, none⟩ = some (.int .i64 E.kind) := hc 0 _ rfl
    have d1 : W.cell? ⟨b, off + i * 7 + 1, none⟩ = some (.int .i64 E.ses) := hc 1 _ rfl
    have d2 : W.cell? ⟨b, off + i * 7 + 2, none⟩ = some (.int .i64 E.seq) := hc 2 _ rfl
    have d3 : W.cell? ⟨b, off + i * 7 + 3, none⟩ = some (.int .i64 E.ack) := hc 3 _ rfl
    have d4 : W.cell? ⟨b, off + i * 7 + 4, none⟩ = some (.int .i64 E.cred) := hc 4 _ rfl
    have d5 : W.cell? ⟨b, off + i * 7 + 5, none⟩ = some (E.vs) := hc 5 _ rfl
    have d6 : W.cell? ⟨b, off + i * 7 + 6, none⟩ = some (.slice E.A E.p.length E.c) := hc 6 _ rfl
    have HE := Lib.hid (And.intro hpick (And.intro hK9 (HFT.out.pks E.pm (pickP_mem hpick))))
    obtain ⟨Avs, cvs, hvs, -, -⟩ := XsV.form hK9.1
    rw [hvs] at d5
    have HVS := Lib.hid hvs
    clear hpick hK9 hc hE hil hvs hi
    go_upto_region 9 with fail
    refine wp_region_lexY [(0, 1), (1, 1), (5, 1), (11, 1), (12, 1), (2, 1), (6, 1), (13, 1), (3, 1), (7, 1), (14, 1), (4, 1), (8, 1), (15, 1), (9, 1), (16, 1), (10, 1), (17, 1), (18, 1), (19, 1), (20, 1), (21, 0)] [21] (fun w9 => w9.cell? ⟨X, 14, none⟩ = some (.slice (some ⟨b, off, none⟩) npk cpk) ∧ w9.cell? ⟨b, off + i * 7, none⟩ = some (.int .i64 E.kind) ∧ w9.cell? ⟨b, off + i * 7 + 1, none⟩ = some (.int .i64 E.ses) ∧ w9.cell? ⟨b, off + i * 7 + 2, none⟩ = some (.int .i64 E.seq) ∧ w9.cell? ⟨b, off + i * 7 + 3, none⟩ = some (.int .i64 E.ack) ∧ w9.cell? ⟨b, off + i * 7 + 4, none⟩ = some (.int .i64 E.cred) ∧ w9.cell? ⟨b, off + i * 7 + 5, none⟩ = some (.slice Avs E.sel.length cvs) ∧ w9.cell? ⟨b, off + i * 7 + 6, none⟩ = some (.slice E.A E.p.length E.c)) (by kernel_rfl) (by kernel_rfl) (by kernel_rfl) (by kernel_rfl) (by kernel_rfl) ⟨xr14, d0, d1, d2, d3, d4, d5, d6⟩ ?_
    repeat ((first | (refine lexY_late rfl (fun _ => trivial) (by rfl) (by intro w9; go_simp <;> with_reducible rfl) ?_) | (refine lexY_read rfl (by rfl) (by first | exact wanted_none rfl | exact wanted_some (b := true) (c := true) rfl rfl rfl | exact wanted_some (b := false) (c := false) rfl rfl rfl) (by intro w9 hS9; (try dsimp only at hS9); go_simp <;> with_reducible rfl) ?_) | (refine lexY_skip rfl (fun _ => trivial) (by first | exact wanted_some (b := true) (c := false) rfl rfl rfl | exact wanted_some (b := false) (c := true) rfl rfl rfl) ?_) | (refine lexY_builtin rfl (fun _ => trivial) (by first | exact wanted_none rfl | exact wanted_some (b := true) (c := true) rfl rfl rfl | exact wanted_some (b := false) (c := false) rfl rfl rfl) (by intro w9 hS9; (try dsimp only at hS9); go_simp <;> with_reducible rfl) ?_)); (try simp only [Act.put, List.getElem_toArray, List.getElem_cons_succ, List.getElem_cons_zero, List.setIfInBounds_toArray, List.set_cons_zero, List.set_cons_succ]))
    have hWd : RunI W.drew base X m _ := HH.out.below (Below.refl _ W).drew
    have hpv : PkV W.drew base E.pm (.agg #[.int .i64 E.kind, .int .i64 E.ses, .int .i64 E.seq, .int .i64 E.ack, .int .i64 E.cred, .slice Avs E.sel.length cvs, .slice E.A E.p.length E.c]) := by
      have h9 := keR_ab (T := []) (by simp) (by simp) _ _ _ _ (Turn.of_below (Below.refl _ W).drew) HE.out.2.1
      exact ⟨_, _, rfl, by rw [← HVS.out]; exact h9.1, ⟨_, _, rfl, h9.2⟩⟩
    have hc9 := runArrive_any m _ X base E.pm _ W.drew hWd hX HFT.out.small.2.1 hpv HE.out.2.2 (by have h1 := (recvR_small2 (p := E.pm) HFT.out.small.2.2).d; have h2 := HFT.out.dl; omega) (by have h1 := (recvR_small2 (p := E.pm) HFT.out.small.2.2).k; have h2 := HFT.out.an; omega)
    clear hWd hpv
    refine lexY_eff rfl (fun _ => trivial) ?_
    go_simp
    refine CallsIn.mono ((callsIn_wide (n := 0)).2 hc9) ?_
    rintro e w1 ⟨⟨ve9, rfl⟩, ⟨ve', vdl', van', dl', an', hu⟩, hb⟩
    dsimp only
    have HF := Lib.hid (And.intro hu ((Below.refl base W).drew.trans hb))
    have HST : Hid (stepR m n = arrM m E.pm) := by
      show _ = _
      unfold stepR; rw [HJK.out.1, if_neg HJ0.out.1, if_neg HJ0.out.2.1, if_pos HJ0.out.2.2, HJK.out.2]
      rw [HE.out.1]
    clear hc9 hu hb
    (try simp only [Act.put, List.getElem_toArray, List.getElem_cons_succ, List.getElem_cons_zero, List.setIfInBounds_toArray, List.set_cons_zero, List.set_cons_succ])
    repeat ((first | (refine lexY_late rfl (fun _ => trivial) (by rfl) (by intro w9; go_simp <;> with_reducible rfl) ?_) | (refine lexY_read rfl (by rfl) (by first | exact wanted_none rfl | exact wanted_some (b := true) (c := true) rfl rfl rfl | exact wanted_some (b := false) (c := false) rfl rfl rfl) (by intro w9 hS9; (try dsimp only at hS9); go_simp <;> with_reducible rfl) ?_) | (refine lexY_skip rfl (fun _ => trivial) (by first | exact wanted_some (b := true) (c := false) rfl rfl rfl | exact wanted_some (b := false) (c := true) rfl rfl rfl) ?_) | (refine lexY_builtin rfl (fun _ => trivial) (by first | exact wanted_none rfl | exact wanted_some (b := true) (c := true) rfl rfl rfl | exact wanted_some (b := false) (c := false) rfl rfl rfl) (by intro w9 hS9; (try dsimp only at hS9); go_simp <;> with_reducible rfl) ?_)); (try simp only [Act.put, List.getElem_toArray, List.getElem_cons_succ, List.getElem_cons_zero, List.setIfInBounds_toArray, List.set_cons_zero, List.set_cons_succ]))
    refine lexY_nil (panQ_normal ?_)
    go_wp2_with fail
    go_ret
    refine ⟨rfl, ?_, HF.out.2⟩
    rw [HST.out]
    exact ⟨_, HF.out.1⟩
  have k2 : ((J : Int) == 2) = false := by rw [beq_eq_false_iff_ne]; omega
  have k3 : ((J : Int) == 3) = true := by rw [beq_iff_eq]; omega
  have HJ0 := Lib.hid (And.intro j0 (And.intro j1 j2))
  clear j0 j1 j2
  have xr15 : W.cell? ⟨X, 15, none⟩ = some (.slice Aan nan can) := HR.out.2.cell 15
  by_cases hz : 0 < nan
  rotate_left 1
  · have kz : decide ((0 : Int) < (nan : Int)) = false := decide_eq_false (by omega)
    have kzb : (0 < nan) = False := eq_false hz
    have hst : stepR m n = m := by
      have h0 : m.an = [] := List.length_eq_zero_iff.1 (by have h2 := HLE.out.2.2.2; have h3 := HLN.out.2.2.2.2.2.2; omega)
      unfold stepR; rw [HJK.out.1, if_neg HJ0.out.1, if_neg HJ0.out.2.1, if_neg HJ0.out.2.2, HJK.out.2]
      unfold pickP
      rw [h0]
      rfl
    have HST := Lib.hid hst
    clear hst hz
    go_wp2_with fail
    go_ret
    refine ⟨rfl, ?_, Below.refl _ _⟩
    rw [HST.out]
    exact HU.out
  have kz : decide ((0 : Int) < (nan : Int)) = true := decide_eq_true (by omega)
  have kzb : (0 < nan) = True := eq_true hz
  obtain ⟨i, hi⟩ : ∃ i, nan - 1 - K % nan = i := ⟨_, rfl⟩
  have hin : i < nan := by omega
  have hKm : K % nan < nan := Nat.mod_lt _ hz
  have kt : Int.tmod (K : Int) (nan : Int) = ((K % nan : Nat) : Int) := by rw [Int.tmod_eq_emod_of_nonneg (by omega)]; omega
  have kw1 : IntKind.i64.wrap ((nan : Int) - 1) = (nan : Int) - 1 := by rw [IntWalk.i64_in _ (by omega)]
  have hem : (K : Int) % (nan : Int) = ((K % nan : Nat) : Int) := by omega
  have kw2 : IntKind.i64.wrap ((nan : Int) - 1 - (K : Int) % (nan : Int)) = (i : Int) := by rw [hem, IntWalk.i64_in _ (by omega)]; omega
  clear hem
  have kw3 : IntKind.i64.wrap ((K % nan : Nat) : Int) = ((K % nan : Nat) : Int) := by rw [IntWalk.i64_in _ (by omega)]
  have hne0 : ((nan : Int) == 0) = false := by rw [beq_eq_false_iff_ne]; omega
  have hne1 : ¬ ((nan : Int) = 0) := by omega
  have hne2 : (nan = 0) = False := eq_false (by omega)
  have hil : i < an.length := by have h3 := HLN.out.2.2.2.2.2.2; omega
  obtain ⟨b, off, hA, hbl, hc, hK9⟩ := Vec.pick HR.out.1.an.vec HLN.out.2.2.2.2.2.2 hil
  try dsimp only at hA
  subst hA
  obtain ⟨E, hE⟩ : ∃ E, E = an[i] := ⟨_, rfl⟩
  have hpick : pickP m.an K = some E.pm := by
    unfold pickP
    have h2 := HLE.out.2.2.2
    have h3 := HLN.out.2.2.2.2.2.2
    rw [show m.an.length - 1 - K % m.an.length = i by rw [← h2, h3]; exact hi, ← HR.out.1.anM, List.getElem?_map, List.getElem?_eq_getElem hil, hE]
    rfl
  rw [← hE] at hc hK9
  have d0 : W.cell? ⟨b, off + i * 7, none⟩ = some (.int .i64 E.kind) := hc 0 _ rfl
  have d1 : W.cell? ⟨b, off + i * 7 + 1, none⟩ = some (.int .i64 E.ses) := hc 1 _ rfl
  have d2 : W.cell? ⟨b, off + i * 7 + 2, none⟩ = some (.int .i64 E.seq) := hc 2 _ rfl
  have d3 : W.cell? ⟨b, off + i * 7 + 3, none⟩ = some (.int .i64 E.ack) := hc 3 _ rfl
  have d4 : W.cell? ⟨b, off + i * 7 + 4, none⟩ = some (.int .i64 E.cred) := hc 4 _ rfl
  have d5 : W.cell? ⟨b, off + i * 7 + 5, none⟩ = some (E.vs) := hc 5 _ rfl
  have d6 : W.cell? ⟨b, off + i * 7 + 6, none⟩ = some (.slice E.A E.p.length E.c) := hc 6 _ rfl
  have HE := Lib.hid (And.intro hpick (And.intro hK9 (HFT.out.ans E.pm (pickP_mem hpick))))
  obtain ⟨Avs, cvs, hvs, -, -⟩ := XsV.form hK9.1
  rw [hvs] at d5
  have HVS := Lib.hid hvs
  clear hpick hK9 hc hE hil hvs hi
  go_upto_region 12 with fail
  refine wp_region_lexY [(0, 1), (1, 1), (5, 1), (11, 1), (12, 1), (2, 1), (6, 1), (13, 1), (3, 1), (7, 1), (14, 1), (4, 1), (8, 1), (15, 1), (9, 1), (16, 1), (10, 1), (17, 1), (18, 1), (19, 1), (20, 1), (21, 0)] [21] (fun w9 => w9.cell? ⟨X, 15, none⟩ = some (.slice (some ⟨b, off, none⟩) nan can) ∧ w9.cell? ⟨b, off + i * 7, none⟩ = some (.int .i64 E.kind) ∧ w9.cell? ⟨b, off + i * 7 + 1, none⟩ = some (.int .i64 E.ses) ∧ w9.cell? ⟨b, off + i * 7 + 2, none⟩ = some (.int .i64 E.seq) ∧ w9.cell? ⟨b, off + i * 7 + 3, none⟩ = some (.int .i64 E.ack) ∧ w9.cell? ⟨b, off + i * 7 + 4, none⟩ = some (.int .i64 E.cred) ∧ w9.cell? ⟨b, off + i * 7 + 5, none⟩ = some (.slice Avs E.sel.length cvs) ∧ w9.cell? ⟨b, off + i * 7 + 6, none⟩ = some (.slice E.A E.p.length E.c)) (by kernel_rfl) (by kernel_rfl) (by kernel_rfl) (by kernel_rfl) (by kernel_rfl) ⟨xr15, d0, d1, d2, d3, d4, d5, d6⟩ ?_
  repeat ((first | (refine lexY_late rfl (fun _ => trivial) (by rfl) (by intro w9; go_simp <;> with_reducible rfl) ?_) | (refine lexY_read rfl (by rfl) (by first | exact wanted_none rfl | exact wanted_some (b := true) (c := true) rfl rfl rfl | exact wanted_some (b := false) (c := false) rfl rfl rfl) (by intro w9 hS9; (try dsimp only at hS9); go_simp <;> with_reducible rfl) ?_) | (refine lexY_skip rfl (fun _ => trivial) (by first | exact wanted_some (b := true) (c := false) rfl rfl rfl | exact wanted_some (b := false) (c := true) rfl rfl rfl) ?_) | (refine lexY_builtin rfl (fun _ => trivial) (by first | exact wanted_none rfl | exact wanted_some (b := true) (c := true) rfl rfl rfl | exact wanted_some (b := false) (c := false) rfl rfl rfl) (by intro w9 hS9; (try dsimp only at hS9); go_simp <;> with_reducible rfl) ?_)); (try simp only [Act.put, List.getElem_toArray, List.getElem_cons_succ, List.getElem_cons_zero, List.setIfInBounds_toArray, List.set_cons_zero, List.set_cons_succ]))
  have hWd : RunI W.drew base X m _ := HH.out.below (Below.refl _ W).drew
  have hpv : PkV W.drew base E.pm (.agg #[.int .i64 E.kind, .int .i64 E.ses, .int .i64 E.seq, .int .i64 E.ack, .int .i64 E.cred, .slice Avs E.sel.length cvs, .slice E.A E.p.length E.c]) := by
    have h9 := keR_ab (T := []) (by simp) (by simp) _ _ _ _ (Turn.of_below (Below.refl _ W).drew) HE.out.2.1
    exact ⟨_, _, rfl, by rw [← HVS.out]; exact h9.1, ⟨_, _, rfl, h9.2⟩⟩
  have hc9 := runAnswer_any m _ X base E.pm _ W.drew hWd hX HFT.out.small.1 hpv HE.out.2.2
  clear hWd hpv
  refine lexY_eff rfl (fun _ => trivial) ?_
  go_simp
  refine CallsIn.mono ((callsIn_wide (n := 0)).2 hc9) ?_
  rintro e w1 ⟨⟨ve9, rfl⟩, ⟨vo', vq', hu⟩, hb⟩
  dsimp only
  have HF := Lib.hid (And.intro hu ((Below.refl base W).drew.trans hb))
  have HST : Hid (stepR m n = ansM m E.pm) := by
    show _ = _
    unfold stepR; rw [HJK.out.1, if_neg HJ0.out.1, if_neg HJ0.out.2.1, if_neg HJ0.out.2.2, HJK.out.2]
    rw [HE.out.1]
  clear hc9 hu hb
  (try simp only [Act.put, List.getElem_toArray, List.getElem_cons_succ, List.getElem_cons_zero, List.setIfInBounds_toArray, List.set_cons_zero, List.set_cons_succ])
  repeat ((first | (refine lexY_late rfl (fun _ => trivial) (by rfl) (by intro w9; go_simp <;> with_reducible rfl) ?_) | (refine lexY_read rfl (by rfl) (by first | exact wanted_none rfl | exact wanted_some (b := true) (c := true) rfl rfl rfl | exact wanted_some (b := false) (c := false) rfl rfl rfl) (by intro w9 hS9; (try dsimp only at hS9); go_simp <;> with_reducible rfl) ?_) | (refine lexY_skip rfl (fun _ => trivial) (by first | exact wanted_some (b := true) (c := false) rfl rfl rfl | exact wanted_some (b := false) (c := true) rfl rfl rfl) ?_) | (refine lexY_builtin rfl (fun _ => trivial) (by first | exact wanted_none rfl | exact wanted_some (b := true) (c := true) rfl rfl rfl | exact wanted_some (b := false) (c := false) rfl rfl rfl) (by intro w9 hS9; (try dsimp only at hS9); go_simp <;> with_reducible rfl) ?_)); (try simp only [Act.put, List.getElem_toArray, List.getElem_cons_succ, List.getElem_cons_zero, List.setIfInBounds_toArray, List.set_cons_zero, List.set_cons_succ]))
  refine lexY_nil (panQ_normal ?_)
  go_wp2_with fail
  go_ret
  refine ⟨rfl, ?_, HF.out.2⟩
  rw [HST.out]
  exact ⟨_, HF.out.1⟩
end Go.Proofs.Ytanmndhdhlmjgaa
