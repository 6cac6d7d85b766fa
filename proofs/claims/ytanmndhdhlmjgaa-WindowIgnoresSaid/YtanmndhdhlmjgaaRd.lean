/- The walk of the transmission's poll. Conditions: small. -/
import Derived.Test.YtanmndhdhlmjgaaRa
import Derived.Test.YtanmndhdhlmjgaaXe
import Derived.Test.YtanmndhdhlmjgaaMathG
namespace Go.Proofs.Ytanmndhdhlmjgaa
open Go.RowKit
/-- the queue behind a call is apart from what grows -/
theorem apart_next {W : World} {base : Nat} {m : RunM} {u : RVal} (h : RowsI W base m u) {q2 : List (List Nat)} {vq2 : Value} (hq : vq2 = u.vq ∨ ∀ g, vq2.ownBlock = some g → W.heap.size ≤ g) (hl : vq2 = u.vq → q2 ≠ [] → m.s.q ≠ []) :
    ∀ g, vq2.ownBlock = some g → q2 ≠ [] → u.vpu.ownBlock ≠ some g ∧ u.vdl.ownBlock ≠ some g := by
  intro g hg hn
  rcases hq with rfl | hq
  · exact h.ap3 g hg (hl rfl hn)
  · have h1 := hq g hg
    refine ⟨fun e => ?_, fun e => ?_⟩
    · have h2 := own_block_lt' h.pu.own g e; omega
    · have h2 := own_block_lt' h.dl.own g e; omega
theorem slice_len {q q2 : List (List Nat)} {A A2 : Option Addr} {n n2 c c2 : Nat} (h1 : q.length = n) (h2 : q2.length = n2) (e : Value.slice A2 n2 c2 = .slice A n c) (hn : q2 ≠ []) : q ≠ [] := by
  injection e with _ e
  rintro rfl
  simp at h1
  exact hn (List.length_eq_zero_iff.1 (by omega))
theorem next_q {c0 c1 c2 c3 c4 c5 c6 vq2 d0 d1 d2 d3 d4 d5 d6 vq : Value} {low : Nat} (h : (Value.agg #[c0, c1, c2, c3, c4, c5, c6, vq2]) = .agg #[d0, d1, d2, d3, d4, d5, d6, vq] ∨ Fr.FreshQ low (.agg #[c0, c1, c2, c3, c4, c5, c6, vq2])) : vq2 = vq ∨ ∀ g, vq2.ownBlock = some g → low ≤ g := by
  rcases h with h | h
  · injection h with h
    injection h with h
    simp only [List.cons.injEq] at h
    exact .inl h.2.2.2.2.2.2.2.1
  · exact .inr (fun g e => h _ rfl g e)
set_option maxRecDepth 100000 in
set_option maxHeartbeats 2000000 in
set_option linter.unusedSimpArgs false in
theorem runPoll_any (m : RunM) (u : RVal) (X base : Nat) (t : Int) (W : World) (h : RunI W base X m u) (hX : base ≤ X) (hs : Small m.s) (hn : 0 ≤ m.now ∧ m.now ≤ 1000000) (ht : 0 ≤ t ∧ t ≤ 100) (hl : (pollS m.s (m.now + t)).2.length ≤ 100000) (hk : m.pk.length ≤ 100000) :
    Calls Try.prog 39 #[.pointer (some ⟨X, 0, none⟩), .int .i64 t] W fun e W' => (∃ v, e = .returned v) ∧ (∃ vo vq vpk pk, RunI W' base X { m with s := (pollS m.s (m.now + t)).1, now := m.now + t, pk := m.pk ++ (pollS m.s (m.now + t)).2 } { u with vo := vo, vq := vq, vpk := vpk, pk := pk }) ∧ Below base W W' := by
  obtain ⟨vo, vq, ve, vpu, vdl, vpk, van, pu, dl, pk, an⟩ := u
  have hso := h.rows.so.form
  have hsq := h.rows.sq.form
  have hre := h.rows.re.form
  have hpu := h.rows.pu.vform
  have hdl := h.rows.dl.vform
  have hpk := h.rows.pk.vform
  have han := h.rows.an.vform
  dsimp only at hso hsq hre hpu hdl hpk han
  obtain ⟨Ao, co, rfl, -, -⟩ := hso
  obtain ⟨Aq, cq, rfl, -, -⟩ := hsq
  obtain ⟨Ae, ce, rfl, -, -⟩ := hre
  obtain ⟨Apu, cpu, rfl, -, -⟩ := hpu
  obtain ⟨Adl, cdl, rfl, -, -⟩ := hdl
  obtain ⟨Apk, cpk, rfl, -, -⟩ := hpk
  obtain ⟨Aan, can, rfl, -, -⟩ := han
  have e1 : pu.length = m.pu.length := by rw [← h.rows.puM, List.length_map]
  have e2 : dl.length = m.dl.length := by rw [← h.rows.dlM, List.length_map]
  have e3 : pk.length = m.pk.length := by rw [← h.rows.pkM, List.length_map]
  have e4 : an.length = m.an.length := by rw [← h.rows.anM, List.length_map]
  obtain ⟨no, hno⟩ : ∃ n, m.s.out.length = n := ⟨_, rfl⟩
  obtain ⟨nq, hnq⟩ : ∃ n, m.s.q.length = n := ⟨_, rfl⟩
  obtain ⟨ne, hne⟩ : ∃ n, m.r.early.length = n := ⟨_, rfl⟩
  obtain ⟨npu, hnpu⟩ : ∃ n, pu.length = n := ⟨_, rfl⟩
  obtain ⟨ndl, hndl⟩ : ∃ n, dl.length = n := ⟨_, rfl⟩
  obtain ⟨npk, hnpk⟩ : ∃ n, pk.length = n := ⟨_, rfl⟩
  obtain ⟨nan, hnan⟩ : ∃ n, an.length = n := ⟨_, rfl⟩
  rw [hno, hnq, hne, hnpu, hndl, hnpk, hnan] at h
  try rw [hno]
  try rw [hnq]
  try rw [hne]
  try rw [hnpu]
  try rw [hndl]
  try rw [hnpk]
  try rw [hnan]
  have HLN := Lib.hid (And.intro hno (And.intro hnq (And.intro hne (And.intro hnpu (And.intro hndl (And.intro hnpk hnan))))))
  have HLE := Lib.hid (And.intro e1 (And.intro e2 (And.intro e3 e4)))
  have lX := h.blk.lt
  have hbk := h.blk
  unfold runC at hbk
  dsimp only at hbk
  have HR := Lib.hid (And.intro h.rows hbk)
  clear hno hnq hne hnpu hndl hnpk hnan e1 e2 e3 e4 h hbk
  have hbW : base ≤ W.heap.size := by omega
  obtain ⟨⟨s2, kl⟩, hs2⟩ : ∃ q, pollS m.s (m.now + t) = q := ⟨_, rfl⟩
  rw [hs2] at hl ⊢
  dsimp only at hl ⊢
  have HS2 := Lib.hid (And.intro hs2 hs)
  have hpkn : npk ≤ 100000 := by rw [← HLN.out.2.2.2.2.2.1, HLE.out.2.2.1]; exact hk
  clear hs hs2 hk
  have kwn : IntKind.i64.wrap (m.now + t) = m.now + t := by rw [IntWalk.i64_in _ (by omega)]
  have hkS := HR.out.2.set_ 16 (.int .i64 (m.now + t))
  simp only [List.setIfInBounds_toArray, List.set_cons_zero, List.set_cons_succ] at hkS
  have hTS := set73_turn HR.out.2 hX 16 (.int .i64 (m.now + t))
  have HP0 := Lib.hid (And.intro ((HR.out.1.t73 hTS).time (m.now + t)) (And.intro hkS (Turn.belowT (B := base) (Below.refl base W) hTS (Nat.le_refl _) hbW)))
  clear hkS hTS
  have xr16 : W.cell? ⟨X, 16, none⟩ = some (.int .i64 m.now) := HR.out.2.cell 16
  have xz16 := HR.out.2.frozen 16
  go_enter Try.func39, Try.ntmps39
  go_upto_region 1 with fail
  clear xr16 xz16 kwn
  have hXW : X < (W.setCell ⟨X, 16, none⟩ (.int .i64 (m.now + t))).heap.size := HP0.out.2.1.lt
  generalize (W.setCell ⟨X, 16, none⟩ (.int .i64 (m.now + t))) = W1 at *
  have xr0 : W1.cell? ⟨X, 0, none⟩ = some (.int .i64 m.s.ses) := HP0.out.2.1.cell 0
  have xr1 : W1.cell? ⟨X, 1, none⟩ = some (.int .i64 m.s.lim) := HP0.out.2.1.cell 1
  have xr2 : W1.cell? ⟨X, 2, none⟩ = some (.int .i64 m.s.tmo) := HP0.out.2.1.cell 2
  have xr3 : W1.cell? ⟨X, 3, none⟩ = some (.int .i64 m.s.base) := HP0.out.2.1.cell 3
  have xr4 : W1.cell? ⟨X, 4, none⟩ = some (.int .i64 m.s.next) := HP0.out.2.1.cell 4
  have xr5 : W1.cell? ⟨X, 5, none⟩ = some (.int .i64 m.s.cred) := HP0.out.2.1.cell 5
  have xr6 : W1.cell? ⟨X, 6, none⟩ = some (.slice Ao no co) := HP0.out.2.1.cell 6
  have xr7 : W1.cell? ⟨X, 7, none⟩ = some (.slice Aq nq cq) := HP0.out.2.1.cell 7
  have xr16 : W1.cell? ⟨X, 16, none⟩ = some (.int .i64 (m.now + t)) := HP0.out.2.1.cell 16
  have hbW1 : base ≤ W1.heap.size := by omega
  refine wp_region_lexV (.op 0 1 (.op 4 1 (.op 1 1 (.op 5 1 (.op 2 1 (.op 6 1 (.op 3 1 (.op 7 1 (.two 8 12 (.op 9 1 (.op 10 1 (.op 11 1 (.op 12 0 (.op 13 0 (.op 14 1 .nil)))))) (.op 8 0 (.op 9 1 (.op 10 1 (.op 11 1 (.op 13 0 (.op 14 1 .nil))))))))))))))) [] (fun w9 => w9.cell? ⟨X, 0, none⟩ = some (.int .i64 m.s.ses) ∧ w9.cell? ⟨X, 1, none⟩ = some (.int .i64 m.s.lim) ∧ w9.cell? ⟨X, 2, none⟩ = some (.int .i64 m.s.tmo) ∧ w9.cell? ⟨X, 3, none⟩ = some (.int .i64 m.s.base) ∧ w9.cell? ⟨X, 4, none⟩ = some (.int .i64 m.s.next) ∧ w9.cell? ⟨X, 5, none⟩ = some (.int .i64 m.s.cred) ∧ w9.cell? ⟨X, 6, none⟩ = some (.slice Ao no co) ∧ w9.cell? ⟨X, 7, none⟩ = some (.slice Aq nq cq) ∧ w9.cell? ⟨X, 16, none⟩ = some (.int .i64 (m.now + t))) (by kernel_rfl) (by kernel_rfl) (by kernel_rfl) (by kernel_rfl) (by kernel_rfl) ⟨xr0, xr1, xr2, xr3, xr4, xr5, xr6, xr7, xr16⟩ ?_
  repeat ((first | (refine lexV_read rfl (by rfl) (by first | exact wanted_none rfl | exact wanted_some (b := true) (c := true) rfl rfl rfl | exact wanted_some (b := false) (c := false) rfl rfl rfl) (by intro w9 hS9; (try dsimp only at hS9); go_simp <;> with_reducible rfl) ?_) | (refine lexV_skip rfl (fun _ => trivial) (by first | exact wanted_some (b := true) (c := false) rfl rfl rfl | exact wanted_some (b := false) (c := true) rfl rfl rfl) ?_) | (refine lexV_builtin rfl (fun _ => trivial) (by first | exact wanted_none rfl | exact wanted_some (b := true) (c := true) rfl rfl rfl | exact wanted_some (b := false) (c := false) rfl rfl rfl) (by intro w9 hS9; (try dsimp only at hS9); go_simp <;> with_reducible rfl) ?_)); (try simp only [Act.put, List.getElem_toArray, List.getElem_cons_succ, List.getElem_cons_zero, List.setIfInBounds_toArray, List.set_cons_zero, List.set_cons_succ]))
  refine lexV_two ?_ ?_
  · have hv1 : SnV W1.drew base m.s (.agg (snC m.s (.slice Ao no co) (.slice Aq nq cq))) := ⟨_, _, rfl, (HP0.out.1.below (Below.refl _ W1).drew).so, (HP0.out.1.below (Below.refl _ W1).drew).sq⟩
    have hc := Fr.Poll_any m.s (m.now + t) _ base W1.drew hv1 HS2.out.2 hbW1
    unfold snC at hc
    clear hv1
    refine lexV_eff rfl (fun _ => trivial) ?_
    go_simp
    refine CallsIn.mono ((callsIn_wide (n := 0)).2 hc) ?_
    rintro e w2 ⟨⟨sv, kv, rfl, hsv, hkv, hfr⟩, hb2⟩
    dsimp only
    rw [HS2.out.1] at hsv hkv
    dsimp only at hsv hkv
    obtain ⟨vo2, vq2, rfl, hO2, hQ2⟩ := hsv
    obtain ⟨Ao2, co2, rfl, -, -⟩ := hO2.form
    obtain ⟨Aq2, cq2, rfl, -, -⟩ := hQ2.form
    obtain ⟨kes, hKV, hkm⟩ := hkv
    obtain ⟨Ak2, ck2, rfl, -, -, hKR⟩ := hKV.val
    obtain ⟨no2, hno2⟩ : ∃ n, s2.out.length = n := ⟨_, rfl⟩
    obtain ⟨nq2, hnq2⟩ : ∃ n, s2.q.length = n := ⟨_, rfl⟩
    obtain ⟨nk2, hnk2⟩ : ∃ n, kes.length = n := ⟨_, rfl⟩
    rw [hno2] at hO2 hfr ⊢
    rw [hnq2] at hQ2 hfr ⊢
    rw [hnk2] at hKR ⊢
    have hkn : nk2 ≤ 100000 := by rw [← hnk2, ← List.length_map (f := Ke.pm), hkm]; exact hl
    unfold snC at hfr ⊢
    have HAP := Lib.hid (apart_next (HP0.out.1.below (Below.refl _ W1).drew) (next_q hfr) (slice_len HLN.out.2.1 hnq2))
    have hk12 := HP0.out.2.1.drew.below hb2 hXW
    have HP1 := Lib.hid (And.intro ((HP0.out.1.below (Below.refl _ W1).drew).below hb2) (And.intro hk12 (And.intro hO2 (And.intro hQ2 (And.intro hKR (And.intro hKV.el (And.intro hkm (HP0.out.2.2.drew.trans (hb2.mono hbW1))))))))) 
    have HNK := Lib.hid hnk2
    have ys0 : w2.cell? ⟨X, 0, none⟩ = some (.int .i64 m.s.ses) := hk12.cell 0
    have ys1 : w2.cell? ⟨X, 1, none⟩ = some (.int .i64 m.s.lim) := hk12.cell 1
    have ys2 : w2.cell? ⟨X, 2, none⟩ = some (.int .i64 m.s.tmo) := hk12.cell 2
    have ys3 : w2.cell? ⟨X, 3, none⟩ = some (.int .i64 m.s.base) := hk12.cell 3
    have ys4 : w2.cell? ⟨X, 4, none⟩ = some (.int .i64 m.s.next) := hk12.cell 4
    have ys5 : w2.cell? ⟨X, 5, none⟩ = some (.int .i64 m.s.cred) := hk12.cell 5
    have ys6 : w2.cell? ⟨X, 6, none⟩ = some (.slice Ao no co) := hk12.cell 6
    have ys7 : w2.cell? ⟨X, 7, none⟩ = some (.slice Aq nq cq) := hk12.cell 7
    have ys16 : w2.cell? ⟨X, 16, none⟩ = some (.int .i64 (m.now + t)) := hk12.cell 16
    have lX2 := hk12.lt
    have hbw2 : base ≤ w2.heap.size := Nat.le_trans hbW1 hb2.size
    clear hc hfr hk12 hO2 hQ2 hKV hKR hkm hnk2 hb2 xr0 xr1 xr2 xr3 xr4 xr5 xr6 xr7 xr16
    refine ⟨⟨ys0, ys1, ys2, ys3, ys4, ys5, ys6, ys7, ys16⟩, ?_⟩
    (try simp only [Act.put, List.getElem_toArray, List.getElem_cons_succ, List.getElem_cons_zero, List.setIfInBounds_toArray, List.set_cons_zero, List.set_cons_succ])
    repeat ((first | (refine lexV_read rfl (by rfl) (by first | exact wanted_none rfl | exact wanted_some (b := true) (c := true) rfl rfl rfl | exact wanted_some (b := false) (c := false) rfl rfl rfl) (by intro w9 hS9; (try dsimp only at hS9); go_simp <;> with_reducible rfl) ?_) | (refine lexV_skip rfl (fun _ => trivial) (by first | exact wanted_some (b := true) (c := false) rfl rfl rfl | exact wanted_some (b := false) (c := true) rfl rfl rfl) ?_) | (refine lexV_builtin rfl (fun _ => trivial) (by first | exact wanted_none rfl | exact wanted_some (b := true) (c := true) rfl rfl rfl | exact wanted_some (b := false) (c := false) rfl rfl rfl) (by intro w9 hS9; (try dsimp only at hS9); go_simp <;> with_reducible rfl) ?_)); (try simp only [Act.put, List.getElem_toArray, List.getElem_cons_succ, List.getElem_cons_zero, List.setIfInBounds_toArray, List.set_cons_zero, List.set_cons_succ]))
    refine lexV_eff rfl (fun _ => trivial) ?_
    go_simp
    (try simp only [Act.put, List.getElem_toArray, List.getElem_cons_succ, List.getElem_cons_zero, List.setIfInBounds_toArray, List.set_cons_zero, List.set_cons_succ])
    refine lexV_eff rfl (fun _ => trivial) ?_
    go_simp
    (try simp only [Act.put, List.getElem_toArray, List.getElem_cons_succ, List.getElem_cons_zero, List.setIfInBounds_toArray, List.set_cons_zero, List.set_cons_succ])
    repeat ((first | (refine lexV_read rfl (by rfl) (by first | exact wanted_none rfl | exact wanted_some (b := true) (c := true) rfl rfl rfl | exact wanted_some (b := false) (c := false) rfl rfl rfl) (by intro w9 hS9; (try dsimp only at hS9); go_simp <;> with_reducible rfl) ?_) | (refine lexV_skip rfl (fun _ => trivial) (by first | exact wanted_some (b := true) (c := false) rfl rfl rfl | exact wanted_some (b := false) (c := true) rfl rfl rfl) ?_) | (refine lexV_builtin rfl (fun _ => trivial) (by first | exact wanted_none rfl | exact wanted_some (b := true) (c := true) rfl rfl rfl | exact wanted_some (b := false) (c := false) rfl rfl rfl) (by intro w9 hS9; (try dsimp only at hS9); go_simp <;> with_reducible rfl) ?_)); (try simp only [Act.put, List.getElem_toArray, List.getElem_cons_succ, List.getElem_cons_zero, List.setIfInBounds_toArray, List.set_cons_zero, List.set_cons_succ]))
    refine lexV_nil (panQ_normal ?_)
    clear ys0 ys1 ys2 ys3 ys4 ys5 ys6 ys7 ys16
    have hb3 : Below w2.heap.size w2 (w2.alloc (.cells #[.int .i64 s2.ses, .int .i64 s2.lim, .int .i64 s2.tmo, .int .i64 s2.base, .int .i64 s2.next, .int .i64 s2.cred, .slice Ao2 no2 co2, .slice Aq2 nq2 cq2] 25)) := (Below.refl _ w2).alloc (Nat.le_refl _) _
    have hr3 := (HP1.out.1.below hb3).sender (s := s2) (HP1.out.2.2.1.up hb3) (HP1.out.2.2.2.1.up hb3) HAP.out
    have hkx3 := HP1.out.2.1.below hb3 lX2
    have hkq3 := Blk.new w2 25 #[.int .i64 s2.ses, .int .i64 s2.lim, .int .i64 s2.tmo, .int .i64 s2.base, .int .i64 s2.next, .int .i64 s2.cred, .slice Ao2 no2 co2, .slice Aq2 nq2 cq2]
    have hkr3 := HP1.out.2.2.2.2.1.up hb3
    have hel3 := fun (e : Ke) he => keR_ab (T := []) (by simp) (by simp) _ _ _ _ (Turn.of_below hb3) (HP1.out.2.2.2.2.2.1 e he)
    have hbl3 := HP1.out.2.2.2.2.2.2.2.trans (hb3.mono hbw2)
    have hXB2 : X < w2.heap.size := lX2
    clear hb3
    have HP2 := Lib.hid (And.intro hr3 (And.intro hkx3 (And.intro hkq3 (And.intro hkr3 (And.intro hel3 hbl3)))))
    have HKM := Lib.hid HP1.out.2.2.2.2.2.2.1
    clear hr3 hkx3 hkq3 hkr3 hel3 hbl3 HP1 HP0 HAP
    go_upto_region 2 with fail
    obtain ⟨B2, hB3⟩ : ∃ x, x = w2.heap.size := ⟨_, rfl⟩
    rw [← hB3] at HP2 lX2 hXB2 hbw2 ⊢
    clear hB3
    generalize (w2.alloc (.cells #[.int .i64 s2.ses, .int .i64 s2.lim, .int .i64 s2.tmo, .int .i64 s2.base, .int .i64 s2.next, .int .i64 s2.cred, .slice Ao2 no2 co2, .slice Aq2 nq2 cq2] 25)) = W2 at *
    have xb0 : W2.cell? ⟨B2, 0, none⟩ = some (.int .i64 s2.ses) := HP2.out.2.2.1.cell 0
    have xb1 : W2.cell? ⟨B2, 1, none⟩ = some (.int .i64 s2.lim) := HP2.out.2.2.1.cell 1
    have xb2 : W2.cell? ⟨B2, 2, none⟩ = some (.int .i64 s2.tmo) := HP2.out.2.2.1.cell 2
    have xb3 : W2.cell? ⟨B2, 3, none⟩ = some (.int .i64 s2.base) := HP2.out.2.2.1.cell 3
    have xb4 : W2.cell? ⟨B2, 4, none⟩ = some (.int .i64 s2.next) := HP2.out.2.2.1.cell 4
    have xb5 : W2.cell? ⟨B2, 5, none⟩ = some (.int .i64 s2.cred) := HP2.out.2.2.1.cell 5
    have xb6 : W2.cell? ⟨B2, 6, none⟩ = some (.slice Ao2 no2 co2) := HP2.out.2.2.1.cell 6
    have xb7 : W2.cell? ⟨B2, 7, none⟩ = some (.slice Aq2 nq2 cq2) := HP2.out.2.2.1.cell 7
    have xr14 : W2.cell? ⟨X, 14, none⟩ = some (.slice Apk npk cpk) := HP2.out.2.1.cell 14
    have lX3 := HP2.out.2.1.lt
    have lB2 := HP2.out.2.2.1.lt
    refine wp_region_lexP [(0, 1), (1, 1), (2, 1), (3, 1), (7, 1), (4, 1), (5, 1), (6, 1), (8, 0), (9, 1), (10, 1), (11, 0), (12, 1), (13, 1), (14, 0)] [14] (fun w9 => w9.cell? ⟨B2, 0, none⟩ = some (.int .i64 s2.ses) ∧ w9.cell? ⟨B2, 1, none⟩ = some (.int .i64 s2.lim) ∧ w9.cell? ⟨B2, 2, none⟩ = some (.int .i64 s2.tmo) ∧ w9.cell? ⟨B2, 3, none⟩ = some (.int .i64 s2.base) ∧ w9.cell? ⟨B2, 4, none⟩ = some (.int .i64 s2.next) ∧ w9.cell? ⟨B2, 5, none⟩ = some (.int .i64 s2.cred) ∧ w9.cell? ⟨B2, 6, none⟩ = some (.slice Ao2 no2 co2) ∧ w9.cell? ⟨B2, 7, none⟩ = some (.slice Aq2 nq2 cq2) ∧ w9.cell? ⟨X, 14, none⟩ = some (.slice Apk npk cpk)) (by kernel_rfl) (by kernel_rfl) (by kernel_rfl) (by kernel_rfl) (by kernel_rfl) ⟨xb0, xb1, xb2, xb3, xb4, xb5, xb6, xb7, xr14⟩ ?_
    repeat ((first | (refine lexP_read rfl (by rfl) (by first | exact wanted_none rfl | exact wanted_some (b := true) (c := true) rfl rfl rfl | exact wanted_some (b := false) (c := false) rfl rfl rfl) (by intro w9 hS9; (try dsimp only at hS9); go_simp <;> with_reducible rfl) ?_) | (refine lexP_skip rfl (fun _ => trivial) (by first | exact wanted_some (b := true) (c := false) rfl rfl rfl | exact wanted_some (b := false) (c := true) rfl rfl rfl) ?_) | (refine lexP_builtin rfl (fun _ => trivial) (by first | exact wanted_none rfl | exact wanted_some (b := true) (c := true) rfl rfl rfl | exact wanted_some (b := false) (c := false) rfl rfl rfl) (by intro w9 hS9; (try dsimp only at hS9); go_simp <;> with_reducible rfl) ?_)); (try simp only [Act.put, List.getElem_toArray, List.getElem_cons_succ, List.getElem_cons_zero, List.setIfInBounds_toArray, List.set_cons_zero, List.set_cons_succ]))
    have hbN : Below W2.heap.size W2 W2.drew := (Below.refl _ W2).drew
    have HN := Lib.hid (And.intro (HP2.out.1.below hbN) (And.intro (HP2.out.2.1.below hbN lX3) (And.intro (HP2.out.2.2.1.drew) (And.intro (HP2.out.2.2.2.1.up hbN) (And.intro (fun (e : Ke) he => keR_ab (T := []) (by simp) (by simp) _ _ _ _ (Turn.of_below hbN) (HP2.out.2.2.2.2.1 e he)) (HP2.out.2.2.2.2.2.drew))))))
    have hbWN : base ≤ W2.drew.heap.size := by show base ≤ W2.heap.size; omega
    have hln := HLN.out.2.2.2.2.2.1
    have hE1 : ∀ e ∈ kes, ∀ v ∈ encK e, v.oneCell' = true := fun e he => by
      obtain ⟨As, cs, hvs, -, -⟩ := XsV.form (HN.out.2.2.2.2.1 e he).1
      exact Fr.encK_one e _ _ _ hvs
    clear hbN
    refine lexP_pushN (E := encK) (R := KeR) (t := 55) (sz := 7) (base := base) (low := base) (l := pk) (l2 := kes) (v := .slice Apk npk cpk) rfl (fun _ => trivial) _ _ 48 (by rfl) _ 88 Try.underlying48 info55 rfl (by omega) hE1 (by rfl) HN.out.1.pk (Nat.le_refl _) (keR_ab (by simp) (by simp)) HN.out.2.2.2.2.1 (by rfl) HN.out.2.2.2.1.rd HNK.out (by omega) (by omega) hbWN ?_
    intro v9 w9 hp9
    obtain ⟨A9, c9, rfl, -, -⟩ := hp9.own.vform
    have hrw := HN.out.1.pushPk hp9
    obtain ⟨n9, hn9⟩ : ∃ n, (pk ++ kes).length = n := ⟨_, rfl⟩
    rw [hn9] at hrw ⊢
    have hk9 := HN.out.2.1.turn hp9.turn (by simp)
    have hkb9 := HN.out.2.2.1.turn hp9.turn (by simp)
    have hb9 := Turn.belowT (B := base) HN.out.2.2.2.2.2 hp9.turn (Nat.le_refl _) hbWN
    have hbW9 := Nat.le_trans hbWN hp9.turn.size
    have HQ9 := Lib.hid (And.intro hrw (And.intro hk9 hb9))
    clear hrw hn9 hb9 hp9 HN hln
    have yb0 : w9.cell? ⟨B2, 0, none⟩ = some (.int .i64 s2.ses) := hkb9.cell 0
    have yb1 : w9.cell? ⟨B2, 1, none⟩ = some (.int .i64 s2.lim) := hkb9.cell 1
    have yb2 : w9.cell? ⟨B2, 2, none⟩ = some (.int .i64 s2.tmo) := hkb9.cell 2
    have yb3 : w9.cell? ⟨B2, 3, none⟩ = some (.int .i64 s2.base) := hkb9.cell 3
    have yb4 : w9.cell? ⟨B2, 4, none⟩ = some (.int .i64 s2.next) := hkb9.cell 4
    have yb5 : w9.cell? ⟨B2, 5, none⟩ = some (.int .i64 s2.cred) := hkb9.cell 5
    have yb6 : w9.cell? ⟨B2, 6, none⟩ = some (.slice Ao2 no2 co2) := hkb9.cell 6
    have yb7 : w9.cell? ⟨B2, 7, none⟩ = some (.slice Aq2 nq2 cq2) := hkb9.cell 7
    have y14 : w9.cell? ⟨X, 14, none⟩ = some (.slice Apk npk cpk) := hk9.cell 14
    have lB9 := hkb9.lt
    have yr0 : w9.cell? ⟨X, 0, none⟩ = some (.int .i64 m.s.ses) := hk9.cell 0
    have yr1 : w9.cell? ⟨X, 1, none⟩ = some (.int .i64 m.s.lim) := hk9.cell 1
    have yr2 : w9.cell? ⟨X, 2, none⟩ = some (.int .i64 m.s.tmo) := hk9.cell 2
    have yr3 : w9.cell? ⟨X, 3, none⟩ = some (.int .i64 m.s.base) := hk9.cell 3
    have yr4 : w9.cell? ⟨X, 4, none⟩ = some (.int .i64 m.s.next) := hk9.cell 4
    have yr5 : w9.cell? ⟨X, 5, none⟩ = some (.int .i64 m.s.cred) := hk9.cell 5
    have yr6 : w9.cell? ⟨X, 6, none⟩ = some (.slice Ao no co) := hk9.cell 6
    have yr7 : w9.cell? ⟨X, 7, none⟩ = some (.slice Aq nq cq) := hk9.cell 7
    have yz0 := hk9.frozen 0
    have yz1 := hk9.frozen 1
    have yz2 := hk9.frozen 2
    have yz3 := hk9.frozen 3
    have yz4 := hk9.frozen 4
    have yz5 := hk9.frozen 5
    have yz6 := hk9.frozen 6
    have yz7 := hk9.frozen 7
    have yz14 := hk9.frozen 14
    have lX9 := hk9.lt
    clear hk9 hkb9 xr14 lX3 lB2 hE1 xb0 xb1 xb2 xb3 xb4 xb5 xb6 xb7
    refine ⟨.inr ⟨yb0, yb1, yb2, yb3, yb4, yb5, yb6, yb7, y14⟩, ?_⟩
    (try simp only [Act.put, List.getElem_toArray, List.getElem_cons_succ, List.getElem_cons_zero, List.setIfInBounds_toArray, List.set_cons_zero, List.set_cons_succ])
    repeat ((first | (refine lexP_read rfl (by rfl) (by first | exact wanted_none rfl | exact wanted_some (b := true) (c := true) rfl rfl rfl | exact wanted_some (b := false) (c := false) rfl rfl rfl) (by intro w9 hS9; (try dsimp only at hS9); go_simp <;> with_reducible rfl) ?_) | (refine lexP_skip rfl (fun _ => trivial) (by first | exact wanted_some (b := true) (c := false) rfl rfl rfl | exact wanted_some (b := false) (c := true) rfl rfl rfl) ?_) | (refine lexP_builtin rfl (fun _ => trivial) (by first | exact wanted_none rfl | exact wanted_some (b := true) (c := true) rfl rfl rfl | exact wanted_some (b := false) (c := false) rfl rfl rfl) (by intro w9 hS9; (try dsimp only at hS9); go_simp <;> with_reducible rfl) ?_)); (try simp only [Act.put, List.getElem_toArray, List.getElem_cons_succ, List.getElem_cons_zero, List.setIfInBounds_toArray, List.set_cons_zero, List.set_cons_succ]))
    refine lexP_eff rfl (fun _ => trivial) ?_
    go_simp
    (try simp only [Act.put, List.getElem_toArray, List.getElem_cons_succ, List.getElem_cons_zero, List.setIfInBounds_toArray, List.set_cons_zero, List.set_cons_succ])
    repeat ((first | (refine lexP_read rfl (by rfl) (by first | exact wanted_none rfl | exact wanted_some (b := true) (c := true) rfl rfl rfl | exact wanted_some (b := false) (c := false) rfl rfl rfl) (by intro w9 hS9; (try dsimp only at hS9); go_simp <;> with_reducible rfl) ?_) | (refine lexP_skip rfl (fun _ => trivial) (by first | exact wanted_some (b := true) (c := false) rfl rfl rfl | exact wanted_some (b := false) (c := true) rfl rfl rfl) ?_) | (refine lexP_builtin rfl (fun _ => trivial) (by first | exact wanted_none rfl | exact wanted_some (b := true) (c := true) rfl rfl rfl | exact wanted_some (b := false) (c := false) rfl rfl rfl) (by intro w9 hS9; (try dsimp only at hS9); go_simp <;> with_reducible rfl) ?_)); (try simp only [Act.put, List.getElem_toArray, List.getElem_cons_succ, List.getElem_cons_zero, List.setIfInBounds_toArray, List.set_cons_zero, List.set_cons_succ]))
    refine lexP_eff rfl (fun _ => trivial) ?_
    go_simp
    (try simp only [Act.put, List.getElem_toArray, List.getElem_cons_succ, List.getElem_cons_zero, List.setIfInBounds_toArray, List.set_cons_zero, List.set_cons_succ])
    refine lexP_nil (panQ_normal ?_)
    have hk2 := set73s_blk HQ9.out.2.1 (.int .i64 s2.ses) (.int .i64 s2.lim) (.int .i64 s2.tmo) (.int .i64 s2.base) (.int .i64 s2.next) (.int .i64 s2.cred) (.slice Ao2 no2 co2) (.slice Aq2 nq2 cq2)
    have hT2 := set73s_turn HQ9.out.2.1 hX (.int .i64 s2.ses) (.int .i64 s2.lim) (.int .i64 s2.tmo) (.int .i64 s2.base) (.int .i64 s2.next) (.int .i64 s2.cred) (.slice Ao2 no2 co2) (.slice Aq2 nq2 cq2)
    have hT3 := set73_turn hk2 hX 14 (.slice A9 n9 c9)
    have hk3 := hk2.set_ 14 (.slice A9 n9 c9)
    simp only [List.setIfInBounds_toArray, List.set_cons_zero, List.set_cons_succ] at hk3
    have hrF := (HQ9.out.1.t73 hT2).t73 hT3
    have hbF := Turn.belowT (B := base) HQ9.out.2.2 (hT2.trans hT3) (Nat.le_refl _) hbW9
    rw [HKM.out] at hrF
    have HF := Lib.hid (And.intro hrF (And.intro hk3 hbF))
    clear hk2 hT2 hT3 hk3 hrF hbF
    go_wp2_with fail
    ((try simp only [Exit.inBlock, Exit.then]); first | refine bodyPost_ret (results_none rfl _ _ _) rfl ?_ | refine bodyPost_end (results_none rfl _ _ _) rfl ?_)
    exact ⟨⟨_, rfl⟩, ⟨.slice Ao2 no2 co2, .slice Aq2 nq2 cq2, .slice A9 n9 c9, pk ++ kes, ⟨HF.out.1, HF.out.2.1⟩⟩, HF.out.2.2⟩
  · have hbz : Below W1.heap.size W1 (W1.alloc (.cells #[.int .i64 0, .int .i64 0, .int .i64 0, .int .i64 0, .int .i64 0, .int .i64 0, .slice none 0 0, .slice none 0 0] 25)).drew := ((Below.refl _ W1).alloc (Nat.le_refl _) _).drew
    have HZ := Lib.hid (And.intro (HP0.out.1.below hbz) (And.intro (HP0.out.2.1.below hbz hXW) (And.intro (HP0.out.2.2.trans (hbz.mono hbW1)) (Blk.new W1 25 #[.int .i64 0, .int .i64 0, .int .i64 0, .int .i64 0, .int .i64 0, .int .i64 0, .slice none 0 0, .slice none 0 0]).drew)))
    have hXV : X < (W1.alloc (.cells #[.int .i64 0, .int .i64 0, .int .i64 0, .int .i64 0, .int .i64 0, .int .i64 0, .slice none 0 0, .slice none 0 0] 25)).drew.heap.size := Nat.lt_of_lt_of_le hXW hbz.size
    have hbV : base ≤ (W1.alloc (.cells #[.int .i64 0, .int .i64 0, .int .i64 0, .int .i64 0, .int .i64 0, .int .i64 0, .slice none 0 0, .slice none 0 0] 25)).drew.heap.size := Nat.le_trans hbW1 hbz.size
    clear hbz
    refine lexV_eff rfl (fun _ => trivial) ?_
    go_simp
    (try simp only [Act.put, List.getElem_toArray, List.getElem_cons_succ, List.getElem_cons_zero, List.setIfInBounds_toArray, List.set_cons_zero, List.set_cons_succ])
    repeat ((first | (refine lexV_read rfl (by rfl) (by first | exact wanted_none rfl | exact wanted_some (b := true) (c := true) rfl rfl rfl | exact wanted_some (b := false) (c := false) rfl rfl rfl) (by intro w9 hS9; (try dsimp only at hS9); go_simp <;> with_reducible rfl) ?_) | (refine lexV_skip rfl (fun _ => trivial) (by first | exact wanted_some (b := true) (c := false) rfl rfl rfl | exact wanted_some (b := false) (c := true) rfl rfl rfl) ?_) | (refine lexV_builtin rfl (fun _ => trivial) (by first | exact wanted_none rfl | exact wanted_some (b := true) (c := true) rfl rfl rfl | exact wanted_some (b := false) (c := false) rfl rfl rfl) (by intro w9 hS9; (try dsimp only at hS9); go_simp <;> with_reducible rfl) ?_)); (try simp only [Act.put, List.getElem_toArray, List.getElem_cons_succ, List.getElem_cons_zero, List.setIfInBounds_toArray, List.set_cons_zero, List.set_cons_succ]))
    obtain ⟨B2, hB3⟩ : ∃ x, x = W1.heap.size := ⟨_, rfl⟩
    have hXB2 : X < B2 := by rw [hB3]; exact hXW
    have hbB2 : base ≤ B2 := by rw [hB3]; exact hbW1
    rw [← hB3] at HZ ⊢
    clear hB3
    generalize (W1.alloc (.cells #[.int .i64 0, .int .i64 0, .int .i64 0, .int .i64 0, .int .i64 0, .int .i64 0, .slice none 0 0, .slice none 0 0] 25)).drew = V at *
    have hv1 : SnV V base m.s (.agg (snC m.s (.slice Ao no co) (.slice Aq nq cq))) := ⟨_, _, rfl, HZ.out.1.so, HZ.out.1.sq⟩
    have hc := Fr.Poll_any m.s (m.now + t) _ base V hv1 HS2.out.2 hbV
    unfold snC at hc
    clear hv1
    refine lexV_eff rfl (fun _ => trivial) ?_
    go_simp
    refine CallsIn.mono ((callsIn_wide (n := 0)).2 hc) ?_
    rintro e w2 ⟨⟨sv, kv, rfl, hsv, hkv, hfr⟩, hb2⟩
    dsimp only
    rw [HS2.out.1] at hsv hkv
    dsimp only at hsv hkv
    obtain ⟨vo2, vq2, rfl, hO2, hQ2⟩ := hsv
    obtain ⟨Ao2, co2, rfl, -, -⟩ := hO2.form
    obtain ⟨Aq2, cq2, rfl, -, -⟩ := hQ2.form
    obtain ⟨kes, hKV, hkm⟩ := hkv
    obtain ⟨Ak2, ck2, rfl, -, -, hKR⟩ := hKV.val
    obtain ⟨no2, hno2⟩ : ∃ n, s2.out.length = n := ⟨_, rfl⟩
    obtain ⟨nq2, hnq2⟩ : ∃ n, s2.q.length = n := ⟨_, rfl⟩
    obtain ⟨nk2, hnk2⟩ : ∃ n, kes.length = n := ⟨_, rfl⟩
    rw [hno2] at hO2 hfr ⊢
    rw [hnq2] at hQ2 hfr ⊢
    rw [hnk2] at hKR ⊢
    have hkn : nk2 ≤ 100000 := by rw [← hnk2, ← List.length_map (f := Ke.pm), hkm]; exact hl
    unfold snC at hfr ⊢
    have HAP := Lib.hid (apart_next HZ.out.1 (next_q hfr) (slice_len HLN.out.2.1 hnq2))
    have hk12 := HZ.out.2.1.below hb2 hXV
    have HP1 := Lib.hid (And.intro (HZ.out.1.below hb2) (And.intro hk12 (And.intro hO2 (And.intro hQ2 (And.intro hKR (And.intro hKV.el (And.intro hkm (HZ.out.2.2.1.trans (hb2.mono hbV))))))))) 
    have HNK := Lib.hid hnk2
    have ys0 : w2.cell? ⟨X, 0, none⟩ = some (.int .i64 m.s.ses) := hk12.cell 0
    have ys1 : w2.cell? ⟨X, 1, none⟩ = some (.int .i64 m.s.lim) := hk12.cell 1
    have ys2 : w2.cell? ⟨X, 2, none⟩ = some (.int .i64 m.s.tmo) := hk12.cell 2
    have ys3 : w2.cell? ⟨X, 3, none⟩ = some (.int .i64 m.s.base) := hk12.cell 3
    have ys4 : w2.cell? ⟨X, 4, none⟩ = some (.int .i64 m.s.next) := hk12.cell 4
    have ys5 : w2.cell? ⟨X, 5, none⟩ = some (.int .i64 m.s.cred) := hk12.cell 5
    have ys6 : w2.cell? ⟨X, 6, none⟩ = some (.slice Ao no co) := hk12.cell 6
    have ys7 : w2.cell? ⟨X, 7, none⟩ = some (.slice Aq nq cq) := hk12.cell 7
    have ys16 : w2.cell? ⟨X, 16, none⟩ = some (.int .i64 (m.now + t)) := hk12.cell 16
    have lX2 := hk12.lt
    have hbw2 : base ≤ w2.heap.size := Nat.le_trans hbV hb2.size
    have HQZ := Lib.hid (HZ.out.2.2.2.below hb2 HZ.out.2.2.2.lt)
    have yq0 : w2.cell? ⟨B2, 0, none⟩ = some (.int .i64 0) := HQZ.out.cell 0
    have yq1 : w2.cell? ⟨B2, 1, none⟩ = some (.int .i64 0) := HQZ.out.cell 1
    have yq2 : w2.cell? ⟨B2, 2, none⟩ = some (.int .i64 0) := HQZ.out.cell 2
    have yq3 : w2.cell? ⟨B2, 3, none⟩ = some (.int .i64 0) := HQZ.out.cell 3
    have yq4 : w2.cell? ⟨B2, 4, none⟩ = some (.int .i64 0) := HQZ.out.cell 4
    have yq5 : w2.cell? ⟨B2, 5, none⟩ = some (.int .i64 0) := HQZ.out.cell 5
    have yq6 : w2.cell? ⟨B2, 6, none⟩ = some (.slice none 0 0) := HQZ.out.cell 6
    have yq7 : w2.cell? ⟨B2, 7, none⟩ = some (.slice none 0 0) := HQZ.out.cell 7
    have yw0 := HQZ.out.frozen 0
    have yw1 := HQZ.out.frozen 1
    have yw2 := HQZ.out.frozen 2
    have yw3 := HQZ.out.frozen 3
    have yw4 := HQZ.out.frozen 4
    have yw5 := HQZ.out.frozen 5
    have yw6 := HQZ.out.frozen 6
    have yw7 := HQZ.out.frozen 7
    have lQ2 := HQZ.out.lt
    clear hc hfr hk12 hO2 hQ2 hKV hKR hkm hnk2 hb2 HZ xr0 xr1 xr2 xr3 xr4 xr5 xr6 xr7 xr16
    refine ⟨⟨ys0, ys1, ys2, ys3, ys4, ys5, ys6, ys7, ys16⟩, ?_⟩
    (try simp only [Act.put, List.getElem_toArray, List.getElem_cons_succ, List.getElem_cons_zero, List.setIfInBounds_toArray, List.set_cons_zero, List.set_cons_succ])
    repeat ((first | (refine lexV_read rfl (by rfl) (by first | exact wanted_none rfl | exact wanted_some (b := true) (c := true) rfl rfl rfl | exact wanted_some (b := false) (c := false) rfl rfl rfl) (by intro w9 hS9; (try dsimp only at hS9); go_simp <;> with_reducible rfl) ?_) | (refine lexV_skip rfl (fun _ => trivial) (by first | exact wanted_some (b := true) (c := false) rfl rfl rfl | exact wanted_some (b := false) (c := true) rfl rfl rfl) ?_) | (refine lexV_builtin rfl (fun _ => trivial) (by first | exact wanted_none rfl | exact wanted_some (b := true) (c := true) rfl rfl rfl | exact wanted_some (b := false) (c := false) rfl rfl rfl) (by intro w9 hS9; (try dsimp only at hS9); go_simp <;> with_reducible rfl) ?_)); (try simp only [Act.put, List.getElem_toArray, List.getElem_cons_succ, List.getElem_cons_zero, List.setIfInBounds_toArray, List.set_cons_zero, List.set_cons_succ]))
    refine lexV_eff rfl (fun _ => trivial) ?_
    go_simp
    (try simp only [Act.put, List.getElem_toArray, List.getElem_cons_succ, List.getElem_cons_zero, List.setIfInBounds_toArray, List.set_cons_zero, List.set_cons_succ])
    repeat ((first | (refine lexV_read rfl (by rfl) (by first | exact wanted_none rfl | exact wanted_some (b := true) (c := true) rfl rfl rfl | exact wanted_some (b := false) (c := false) rfl rfl rfl) (by intro w9 hS9; (try dsimp only at hS9); go_simp <;> with_reducible rfl) ?_) | (refine lexV_skip rfl (fun _ => trivial) (by first | exact wanted_some (b := true) (c := false) rfl rfl rfl | exact wanted_some (b := false) (c := true) rfl rfl rfl) ?_) | (refine lexV_builtin rfl (fun _ => trivial) (by first | exact wanted_none rfl | exact wanted_some (b := true) (c := true) rfl rfl rfl | exact wanted_some (b := false) (c := false) rfl rfl rfl) (by intro w9 hS9; (try dsimp only at hS9); go_simp <;> with_reducible rfl) ?_)); (try simp only [Act.put, List.getElem_toArray, List.getElem_cons_succ, List.getElem_cons_zero, List.setIfInBounds_toArray, List.set_cons_zero, List.set_cons_succ]))
    refine lexV_nil (panQ_normal ?_)
    clear ys0 ys1 ys2 ys3 ys4 ys5 ys6 ys7 ys16 yq0 yw0 yq1 yw1 yq2 yw2 yq3 yw3 yq4 yw4 yq5 yw5 yq6 yw6 yq7 yw7 lQ2
    have hkq3 := set25_blk HQZ.out (.int .i64 s2.ses) (.int .i64 s2.lim) (.int .i64 s2.tmo) (.int .i64 s2.base) (.int .i64 s2.next) (.int .i64 s2.cred) (.slice Ao2 no2 co2) (.slice Aq2 nq2 cq2)
    have hT3 := set25_turn HQZ.out (base := base) hbB2 (.int .i64 s2.ses) (.int .i64 s2.lim) (.int .i64 s2.tmo) (.int .i64 s2.base) (.int .i64 s2.next) (.int .i64 s2.cred) (.slice Ao2 no2 co2) (.slice Aq2 nq2 cq2)
    have hkx3 := HP1.out.2.1.turn hT3 (by simp)
    have hr3 := (HP1.out.1.turn hT3 (by simp) (by simp) (by simp) (by simp) (by simp) (by simp)).sender (s := s2) (HP1.out.2.2.1.turn hT3 (by simp) (by simp)) (HP1.out.2.2.2.1.turn hT3 (by simp) (by simp)) HAP.out
    have hkr3 := HP1.out.2.2.2.2.1.turn hT3 (by simp)
    have hel3 := fun (e : Ke) he => keR_ab (T := [25]) (by simp) (by simp) _ _ _ _ hT3 (HP1.out.2.2.2.2.2.1 e he)
    have hbl3 := Turn.belowT HP1.out.2.2.2.2.2.2.2 hT3 (Nat.le_refl _) hbw2
    have hbw3 := Nat.le_trans hbw2 hT3.size
    clear hT3 HQZ
    have HP2 := Lib.hid (And.intro hr3 (And.intro hkx3 (And.intro hkq3 (And.intro hkr3 (And.intro hel3 hbl3)))))
    have HKM := Lib.hid HP1.out.2.2.2.2.2.2.1
    clear hr3 hkx3 hkq3 hkr3 hel3 hbl3 HP1 HP0 HAP
    clear lX2 hbw2
    go_upto_region 2 with fail
    generalize ((((((((w2.setCell ⟨B2, 0, none⟩ (.int .i64 s2.ses)).setCell ⟨B2, 1, none⟩ (.int .i64 s2.lim)).setCell ⟨B2, 2, none⟩ (.int .i64 s2.tmo)).setCell ⟨B2, 3, none⟩ (.int .i64 s2.base)).setCell ⟨B2, 4, none⟩ (.int .i64 s2.next)).setCell ⟨B2, 5, none⟩ (.int .i64 s2.cred)).setCell ⟨B2, 6, none⟩ (.slice Ao2 no2 co2)).setCell ⟨B2, 7, none⟩ (.slice Aq2 nq2 cq2)) = W2 at *
    have xb0 : W2.cell? ⟨B2, 0, none⟩ = some (.int .i64 s2.ses) := HP2.out.2.2.1.cell 0
    have xb1 : W2.cell? ⟨B2, 1, none⟩ = some (.int .i64 s2.lim) := HP2.out.2.2.1.cell 1
    have xb2 : W2.cell? ⟨B2, 2, none⟩ = some (.int .i64 s2.tmo) := HP2.out.2.2.1.cell 2
    have xb3 : W2.cell? ⟨B2, 3, none⟩ = some (.int .i64 s2.base) := HP2.out.2.2.1.cell 3
    have xb4 : W2.cell? ⟨B2, 4, none⟩ = some (.int .i64 s2.next) := HP2.out.2.2.1.cell 4
    have xb5 : W2.cell? ⟨B2, 5, none⟩ = some (.int .i64 s2.cred) := HP2.out.2.2.1.cell 5
    have xb6 : W2.cell? ⟨B2, 6, none⟩ = some (.slice Ao2 no2 co2) := HP2.out.2.2.1.cell 6
    have xb7 : W2.cell? ⟨B2, 7, none⟩ = some (.slice Aq2 nq2 cq2) := HP2.out.2.2.1.cell 7
    have xr14 : W2.cell? ⟨X, 14, none⟩ = some (.slice Apk npk cpk) := HP2.out.2.1.cell 14
    have lX3 := HP2.out.2.1.lt
    have lB2 := HP2.out.2.2.1.lt
    refine wp_region_lexP [(0, 1), (1, 1), (2, 1), (3, 1), (7, 1), (4, 1), (5, 1), (6, 1), (8, 0), (9, 1), (10, 1), (11, 0), (12, 1), (13, 1), (14, 0)] [14] (fun w9 => w9.cell? ⟨B2, 0, none⟩ = some (.int .i64 s2.ses) ∧ w9.cell? ⟨B2, 1, none⟩ = some (.int .i64 s2.lim) ∧ w9.cell? ⟨B2, 2, none⟩ = some (.int .i64 s2.tmo) ∧ w9.cell? ⟨B2, 3, none⟩ = some (.int .i64 s2.base) ∧ w9.cell? ⟨B2, 4, none⟩ = some (.int .i64 s2.next) ∧ w9.cell? ⟨B2, 5, none⟩ = some (.int .i64 s2.cred) ∧ w9.cell? ⟨B2, 6, none⟩ = some (.slice Ao2 no2 co2) ∧ w9.cell? ⟨B2, 7, none⟩ = some (.slice Aq2 nq2 cq2) ∧ w9.cell? ⟨X, 14, none⟩ = some (.slice Apk npk cpk)) (by kernel_rfl) (by kernel_rfl) (by kernel_rfl) (by kernel_rfl) (by kernel_rfl) ⟨xb0, xb1, xb2, xb3, xb4, xb5, xb6, xb7, xr14⟩ ?_
    repeat ((first | (refine lexP_read rfl (by rfl) (by first | exact wanted_none rfl | exact wanted_some (b := true) (c := true) rfl rfl rfl | exact wanted_some (b := false) (c := false) rfl rfl rfl) (by intro w9 hS9; (try dsimp only at hS9); go_simp <;> with_reducible rfl) ?_) | (refine lexP_skip rfl (fun _ => trivial) (by first | exact wanted_some (b := true) (c := false) rfl rfl rfl | exact wanted_some (b := false) (c := true) rfl rfl rfl) ?_) | (refine lexP_builtin rfl (fun _ => trivial) (by first | exact wanted_none rfl | exact wanted_some (b := true) (c := true) rfl rfl rfl | exact wanted_some (b := false) (c := false) rfl rfl rfl) (by intro w9 hS9; (try dsimp only at hS9); go_simp <;> with_reducible rfl) ?_)); (try simp only [Act.put, List.getElem_toArray, List.getElem_cons_succ, List.getElem_cons_zero, List.setIfInBounds_toArray, List.set_cons_zero, List.set_cons_succ]))
    have hbN : Below W2.heap.size W2 W2.drew := (Below.refl _ W2).drew
    have HN := Lib.hid (And.intro (HP2.out.1.below hbN) (And.intro (HP2.out.2.1.below hbN lX3) (And.intro (HP2.out.2.2.1.drew) (And.intro (HP2.out.2.2.2.1.up hbN) (And.intro (fun (e : Ke) he => keR_ab (T := []) (by simp) (by simp) _ _ _ _ (Turn.of_below hbN) (HP2.out.2.2.2.2.1 e he)) (HP2.out.2.2.2.2.2.drew))))))
    have hbWN : base ≤ W2.drew.heap.size := by show base ≤ W2.heap.size; omega
    have hln := HLN.out.2.2.2.2.2.1
    have hE1 : ∀ e ∈ kes, ∀ v ∈ encK e, v.oneCell' = true := fun e he => by
      obtain ⟨As, cs, hvs, -, -⟩ := XsV.form (HN.out.2.2.2.2.1 e he).1
      exact Fr.encK_one e _ _ _ hvs
    clear hbN
    refine lexP_pushN (E := encK) (R := KeR) (t := 55) (sz := 7) (base := base) (low := base) (l := pk) (l2 := kes) (v := .slice Apk npk cpk) rfl (fun _ => trivial) _ _ 48 (by rfl) _ 88 Try.underlying48 info55 rfl (by omega) hE1 (by rfl) HN.out.1.pk (Nat.le_refl _) (keR_ab (by simp) (by simp)) HN.out.2.2.2.2.1 (by rfl) HN.out.2.2.2.1.rd HNK.out (by omega) (by omega) hbWN ?_
    intro v9 w9 hp9
    obtain ⟨A9, c9, rfl, -, -⟩ := hp9.own.vform
    have hrw := HN.out.1.pushPk hp9
    obtain ⟨n9, hn9⟩ : ∃ n, (pk ++ kes).length = n := ⟨_, rfl⟩
    rw [hn9] at hrw ⊢
    have hk9 := HN.out.2.1.turn hp9.turn (by simp)
    have hkb9 := HN.out.2.2.1.turn hp9.turn (by simp)
    have hb9 := Turn.belowT (B := base) HN.out.2.2.2.2.2 hp9.turn (Nat.le_refl _) hbWN
    have hbW9 := Nat.le_trans hbWN hp9.turn.size
    have HQ9 := Lib.hid (And.intro hrw (And.intro hk9 hb9))
    clear hrw hn9 hb9 hp9 HN hln
    have yb0 : w9.cell? ⟨B2, 0, none⟩ = some (.int .i64 s2.ses) := hkb9.cell 0
    have yb1 : w9.cell? ⟨B2, 1, none⟩ = some (.int .i64 s2.lim) := hkb9.cell 1
    have yb2 : w9.cell? ⟨B2, 2, none⟩ = some (.int .i64 s2.tmo) := hkb9.cell 2
    have yb3 : w9.cell? ⟨B2, 3, none⟩ = some (.int .i64 s2.base) := hkb9.cell 3
    have yb4 : w9.cell? ⟨B2, 4, none⟩ = some (.int .i64 s2.next) := hkb9.cell 4
    have yb5 : w9.cell? ⟨B2, 5, none⟩ = some (.int .i64 s2.cred) := hkb9.cell 5
    have yb6 : w9.cell? ⟨B2, 6, none⟩ = some (.slice Ao2 no2 co2) := hkb9.cell 6
    have yb7 : w9.cell? ⟨B2, 7, none⟩ = some (.slice Aq2 nq2 cq2) := hkb9.cell 7
    have y14 : w9.cell? ⟨X, 14, none⟩ = some (.slice Apk npk cpk) := hk9.cell 14
    have lB9 := hkb9.lt
    have yr0 : w9.cell? ⟨X, 0, none⟩ = some (.int .i64 m.s.ses) := hk9.cell 0
    have yr1 : w9.cell? ⟨X, 1, none⟩ = some (.int .i64 m.s.lim) := hk9.cell 1
    have yr2 : w9.cell? ⟨X, 2, none⟩ = some (.int .i64 m.s.tmo) := hk9.cell 2
    have yr3 : w9.cell? ⟨X, 3, none⟩ = some (.int .i64 m.s.base) := hk9.cell 3
    have yr4 : w9.cell? ⟨X, 4, none⟩ = some (.int .i64 m.s.next) := hk9.cell 4
    have yr5 : w9.cell? ⟨X, 5, none⟩ = some (.int .i64 m.s.cred) := hk9.cell 5
    have yr6 : w9.cell? ⟨X, 6, none⟩ = some (.slice Ao no co) := hk9.cell 6
    have yr7 : w9.cell? ⟨X, 7, none⟩ = some (.slice Aq nq cq) := hk9.cell 7
    have yz0 := hk9.frozen 0
    have yz1 := hk9.frozen 1
    have yz2 := hk9.frozen 2
    have yz3 := hk9.frozen 3
    have yz4 := hk9.frozen 4
    have yz5 := hk9.frozen 5
    have yz6 := hk9.frozen 6
    have yz7 := hk9.frozen 7
    have yz14 := hk9.frozen 14
    have lX9 := hk9.lt
    clear hk9 hkb9 xr14 lX3 lB2 hE1 xb0 xb1 xb2 xb3 xb4 xb5 xb6 xb7
    refine ⟨.inr ⟨yb0, yb1, yb2, yb3, yb4, yb5, yb6, yb7, y14⟩, ?_⟩
    (try simp only [Act.put, List.getElem_toArray, List.getElem_cons_succ, List.getElem_cons_zero, List.setIfInBounds_toArray, List.set_cons_zero, List.set_cons_succ])
    repeat ((first | (refine lexP_read rfl (by rfl) (by first | exact wanted_none rfl | exact wanted_some (b := true) (c := true) rfl rfl rfl | exact wanted_some (b := false) (c := false) rfl rfl rfl) (by intro w9 hS9; (try dsimp only at hS9); go_simp <;> with_reducible rfl) ?_) | (refine lexP_skip rfl (fun _ => trivial) (by first | exact wanted_some (b := true) (c := false) rfl rfl rfl | exact wanted_some (b := false) (c := true) rfl rfl rfl) ?_) | (refine lexP_builtin rfl (fun _ => trivial) (by first | exact wanted_none rfl | exact wanted_some (b := true) (c := true) rfl rfl rfl | exact wanted_some (b := false) (c := false) rfl rfl rfl) (by intro w9 hS9; (try dsimp only at hS9); go_simp <;> with_reducible rfl) ?_)); (try simp only [Act.put, List.getElem_toArray, List.getElem_cons_succ, List.getElem_cons_zero, List.setIfInBounds_toArray, List.set_cons_zero, List.set_cons_succ]))
    refine lexP_eff rfl (fun _ => trivial) ?_
    go_simp
    (try simp only [Act.put, List.getElem_toArray, List.getElem_cons_succ, List.getElem_cons_zero, List.setIfInBounds_toArray, List.set_cons_zero, List.set_cons_succ])
    repeat ((first | (refine lexP_read rfl (by rfl) (by first | exact wanted_none rfl | exact wanted_some (b := true) (c := true) rfl rfl rfl | exact wanted_some (b := false) (c := false) rfl rfl rfl) (by intro w9 hS9; (try dsimp only at hS9); go_simp <;> with_reducible rfl) ?_) | (refine lexP_skip rfl (fun _ => trivial) (by first | exact wanted_some (b := true) (c := false) rfl rfl rfl | exact wanted_some (b := false) (c := true) rfl rfl rfl) ?_) | (refine lexP_builtin rfl (fun _ => trivial) (by first | exact wanted_none rfl | exact wanted_some (b := true) (c := true) rfl rfl rfl | exact wanted_some (b := false) (c := false) rfl rfl rfl) (by intro w9 hS9; (try dsimp only at hS9); go_simp <;> with_reducible rfl) ?_)); (try simp only [Act.put, List.getElem_toArray, List.getElem_cons_succ, List.getElem_cons_zero, List.setIfInBounds_toArray, List.set_cons_zero, List.set_cons_succ]))
    refine lexP_eff rfl (fun _ => trivial) ?_
    go_simp
    (try simp only [Act.put, List.getElem_toArray, List.getElem_cons_succ, List.getElem_cons_zero, List.setIfInBounds_toArray, List.set_cons_zero, List.set_cons_succ])
    refine lexP_nil (panQ_normal ?_)
    have hk2 := set73s_blk HQ9.out.2.1 (.int .i64 s2.ses) (.int .i64 s2.lim) (.int .i64 s2.tmo) (.int .i64 s2.base) (.int .i64 s2.next) (.int .i64 s2.cred) (.slice Ao2 no2 co2) (.slice Aq2 nq2 cq2)
    have hT2 := set73s_turn HQ9.out.2.1 hX (.int .i64 s2.ses) (.int .i64 s2.lim) (.int .i64 s2.tmo) (.int .i64 s2.base) (.int .i64 s2.next) (.int .i64 s2.cred) (.slice Ao2 no2 co2) (.slice Aq2 nq2 cq2)
    have hT3 := set73_turn hk2 hX 14 (.slice A9 n9 c9)
    have hk3 := hk2.set_ 14 (.slice A9 n9 c9)
    simp only [List.setIfInBounds_toArray, List.set_cons_zero, List.set_cons_succ] at hk3
    have hrF := (HQ9.out.1.t73 hT2).t73 hT3
    have hbF := Turn.belowT (B := base) HQ9.out.2.2 (hT2.trans hT3) (Nat.le_refl _) hbW9
    rw [HKM.out] at hrF
    have HF := Lib.hid (And.intro hrF (And.intro hk3 hbF))
    clear hk2 hT2 hT3 hk3 hrF hbF
    go_wp2_with fail
    ((try simp only [Exit.inBlock, Exit.then]); first | refine bodyPost_ret (results_none rfl _ _ _) rfl ?_ | refine bodyPost_end (results_none rfl _ _ _) rfl ?_)
    exact ⟨⟨_, rfl⟩, ⟨.slice Ao2 no2 co2, .slice Aq2 nq2 cq2, .slice A9 n9 c9, pk ++ kes, ⟨HF.out.1, HF.out.2.1⟩⟩, HF.out.2.2⟩
end Go.Proofs.Ytanmndhdhlmjgaa
