/- The walk of the transmission's push. Conditions: small. -/
import Derived.Test.YtanmndhdhlmjgaaRa
import Derived.Test.YtanmndhdhlmjgaaWj
namespace Go.Proofs.Ytanmndhdhlmjgaa
open Go.RowKit
set_option maxRecDepth 100000 in
set_option maxHeartbeats 2000000 in
set_option linter.unusedSimpArgs false in
theorem runPush_any (m : RunM) (u : RVal) (X base : Nat) (W : World) (h : RunI W base X m u) (hX : base ≤ X) (hs : Small m.s) (hl : m.pu.length ≤ 255) :
    Calls Try.prog 72 #[.pointer (some ⟨X, 0, none⟩)] W fun e W' => e = .returned (.bool (decide ((pushS m.s [m.pu.length, 0]).2 = 0))) ∧ (∃ u', RunI W' base X { m with s := (pushS m.s [m.pu.length, 0]).1, pu := m.pu ++ [[m.pu.length, 0]] } u') ∧ Below base W W' := by
  obtain ⟨vo, vq, ve, vpu, vdl, vpk, van, pu, dl, pk, an⟩ := u
  have hso := h.rows.so.form
  have hsq := h.rows.sq.form
  have hre := h.rows.re.form
  have hpu := h.rows.pu.vform
  have hdl := h.rows.dl.vform
  have hpk := h.rows.pk.vform
  have han := h.rows.an.vform
  dsimp only at hso hsq hre hpu hdl hpk han
  obtain ⟨Ao, co, rfl, -, -⟩ := hso
  obtain ⟨Aq, cq, rfl, -, -⟩ := hsq
  obtain ⟨Ae, ce, rfl, -, -⟩ := hre
  obtain ⟨Apu, cpu, rfl, -, -⟩ := hpu
  obtain ⟨Adl, cdl, rfl, -, -⟩ := hdl
  obtain ⟨Apk, cpk, rfl, -, -⟩ := hpk
  obtain ⟨Aan, can, rfl, -, -⟩ := han
  have e1 : pu.length = m.pu.length := by rw [← h.rows.puM, List.length_map]
  have e2 : dl.length = m.dl.length := by rw [← h.rows.dlM, List.length_map]
  have e3 : pk.length = m.pk.length := by rw [← h.rows.pkM, List.length_map]
  have e4 : an.length = m.an.length := by rw [← h.rows.anM, List.length_map]
  obtain ⟨no, hno⟩ : ∃ n, m.s.out.length = n := ⟨_, rfl⟩
  obtain ⟨nq, hnq⟩ : ∃ n, m.s.q.length = n := ⟨_, rfl⟩
  obtain ⟨ne, hne⟩ : ∃ n, m.r.early.length = n := ⟨_, rfl⟩
  obtain ⟨npu, hnpu⟩ : ∃ n, pu.length = n := ⟨_, rfl⟩
  obtain ⟨ndl, hndl⟩ : ∃ n, dl.length = n := ⟨_, rfl⟩
  obtain ⟨npk, hnpk⟩ : ∃ n, pk.length = n := ⟨_, rfl⟩
  obtain ⟨nan, hnan⟩ : ∃ n, an.length = n := ⟨_, rfl⟩
  rw [hno, hnq, hne, hnpu, hndl, hnpk, hnan] at h
  try rw [hno]
  try rw [hnq]
  try rw [hne]
  try rw [hnpu]
  try rw [hndl]
  try rw [hnpk]
  try rw [hnan]
  have HLN := Lib.hid (And.intro hno (And.intro hnq (And.intro hne (And.intro hnpu (And.intro hndl (And.intro hnpk hnan))))))
  have HLE := Lib.hid (And.intro e1 (And.intro e2 (And.intro e3 e4)))
  have lX := h.blk.lt
  have hbk := h.blk
  unfold runC at hbk
  dsimp only at hbk
  have HR := Lib.hid (And.intro h.rows hbk)
  clear hno hnq hne hnpu hndl hnpk hnan e1 e2 e3 e4 h hbk
  have hn255 : npu ≤ 255 := by rw [← HLN.out.2.2.2.1, HLE.out.1]; exact hl
  have hbW : base ≤ W.heap.size := by omega
  have HSM := Lib.hid hs
  have hmp : m.pu.length = npu := by rw [← HLE.out.1, HLN.out.2.2.2.1]
  rw [hmp]
  obtain ⟨⟨s2, en⟩, hs2⟩ : ∃ q, pushS m.s [npu, 0] = q := ⟨_, rfl⟩
  rw [hs2]
  dsimp only
  have HS2 := Lib.hid hs2
  have HMP := Lib.hid hmp
  clear hs hl hmp hs2
  have xr12 : W.cell? ⟨X, 12, none⟩ = some (.slice Apu npu cpu) := HR.out.2.cell 12
  have kw8 : IntKind.u8.wrap (npu : Int) = (npu : Int) := by exact IntWalk.u8_in _ (by omega)
  have kw9 : IntKind.u8.wrap ((npu : Int) / 256) = 0 := by rw [IntWalk.u8_in _ (by omega)]; omega
  go_enter Try.func72, Try.ntmps72
  go_upto_region 1 with fail
  refine wp_region_lexP [(0, 1), (6, 1), (1, 1), (7, 1), (2, 1), (8, 1), (3, 1), (9, 1), (4, 1), (10, 1), (5, 1), (11, 1), (12, 1), (13, 0), (14, 2)] [13, 14] (fun w9 => w9.cell? ⟨X, 12, none⟩ = some (.slice Apu npu cpu)) (by kernel_rfl) (by kernel_rfl) (by kernel_rfl) (by kernel_rfl) (by kernel_rfl) xr12 ?_
  repeat ((first | (refine lexP_read rfl (by rfl) (by first | exact wanted_none rfl | exact wanted_some (b := true) (c := true) rfl rfl rfl | exact wanted_some (b := false) (c := false) rfl rfl rfl) (by intro w9 hS9; (try dsimp only at hS9); go_simp <;> with_reducible rfl) ?_) | (refine lexP_skip rfl (fun _ => trivial) (by first | exact wanted_some (b := true) (c := false) rfl rfl rfl | exact wanted_some (b := false) (c := true) rfl rfl rfl) ?_) | (refine lexP_builtin rfl (fun _ => trivial) (by first | exact wanted_none rfl | exact wanted_some (b := true) (c := true) rfl rfl rfl | exact wanted_some (b := false) (c := false) rfl rfl rfl) (by intro w9 hS9; (try dsimp only at hS9); go_simp <;> with_reducible rfl) ?_)); (try simp only [Act.put, List.getElem_toArray, List.getElem_cons_succ, List.getElem_cons_zero, List.setIfInBounds_toArray, List.set_cons_zero, List.set_cons_succ]))
  refine lexP_eff rfl (fun _ => trivial) ?_
  go_simp
  (try simp only [Act.put, List.getElem_toArray, List.getElem_cons_succ, List.getElem_cons_zero, List.setIfInBounds_toArray, List.set_cons_zero, List.set_cons_succ])
  repeat (refine lexP_late rfl (fun _ => trivial) (by rfl) (by intro w9; go_simp <;> with_reducible rfl) ?_; (try simp only [Act.put, List.getElem_toArray, List.getElem_cons_succ, List.getElem_cons_zero, List.setIfInBounds_toArray, List.set_cons_zero, List.set_cons_succ]))
  refine lexP_nil (panQ_normal ?_)
  have hb1 : Below W.heap.size W (W.alloc (.cells #[.int .u8 (npu : Int), .int .u8 0] 5)).drew := ((Below.refl _ W).alloc (Nat.le_refl _) _).drew
  have HP1 := Lib.hid (And.intro hb1 (And.intro (HR.out.1.below hb1) (And.intro (HR.out.2.below hb1 lX) (Blk.new W 5 #[.int .u8 (npu : Int), .int .u8 0]).drew)))
  have lX1 : X < (W.alloc (.cells #[.int .u8 (npu : Int), .int .u8 0] 5)).drew.heap.size := Nat.lt_of_lt_of_le lX hb1.size
  clear hb1 xr12 kw8 kw9
  obtain ⟨B, hB⟩ : ∃ x, x = W.heap.size := ⟨_, rfl⟩
  have hB2 : base ≤ B := by omega
  have hBW : B ≤ W.heap.size := by omega
  have hXB : X < B := by omega
  rw [← hB] at HP1 ⊢
  clear hB
  generalize (W.alloc (.cells #[.int .u8 (npu : Int), .int .u8 0] 5)).drew = W1 at *
  have hbs : Byt W1 base (some ⟨B, 0, none⟩) [npu, 0] := by
    have h5 := Rd.of_blk (base := base) (sz := 1) (n := 2) HP1.out.2.2.2 rfl
    simpa [Byt, u8s] using h5
  have hv1 : SnV W1 base m.s (.agg (snC m.s (.slice Ao no co) (.slice Aq nq cq))) := ⟨_, _, rfl, HP1.out.2.1.so, HP1.out.2.1.sq⟩
  have hbW1 : base ≤ W1.heap.size := by omega
  have hc := Fr.Push_any m.s _ base [npu, 0] (.slice (some ⟨B, 0, none⟩) 2 2) W1 hv1 HSM.out hbW1 ⟨_, _, rfl, hbs⟩ (by simp)
  unfold snC at hc
  have HC := Lib.hid hc
  have HBY := Lib.hid hbs
  clear hc hv1 hbs
  have xr0 : W1.cell? ⟨X, 0, none⟩ = some (.int .i64 m.s.ses) := HP1.out.2.2.1.cell 0
  have xr1 : W1.cell? ⟨X, 1, none⟩ = some (.int .i64 m.s.lim) := HP1.out.2.2.1.cell 1
  have xr2 : W1.cell? ⟨X, 2, none⟩ = some (.int .i64 m.s.tmo) := HP1.out.2.2.1.cell 2
  have xr3 : W1.cell? ⟨X, 3, none⟩ = some (.int .i64 m.s.base) := HP1.out.2.2.1.cell 3
  have xr4 : W1.cell? ⟨X, 4, none⟩ = some (.int .i64 m.s.next) := HP1.out.2.2.1.cell 4
  have xr5 : W1.cell? ⟨X, 5, none⟩ = some (.int .i64 m.s.cred) := HP1.out.2.2.1.cell 5
  have xr6 : W1.cell? ⟨X, 6, none⟩ = some (.slice Ao no co) := HP1.out.2.2.1.cell 6
  have xr7 : W1.cell? ⟨X, 7, none⟩ = some (.slice Aq nq cq) := HP1.out.2.2.1.cell 7
  go_wp2_with fail
  refine HC.out.mono ?_
  clear HC
  rintro e w2 ⟨⟨sv, kk, rfl, hkk, hsv, hfr⟩, hb2⟩
  clear xr0 xr1 xr2 xr3 xr4 xr5 xr6 xr7
  rw [HS2.out] at hkk hsv
  dsimp only at hkk hsv
  subst hkk
  obtain ⟨vo2, vq2, rfl, hO2, hQ2⟩ := hsv
  obtain ⟨Ao2, co2, rfl, -, -⟩ := hO2.form
  obtain ⟨Aq2, cq2, rfl, -, -⟩ := hQ2.form
  obtain ⟨no2, hno2⟩ : ∃ n, s2.out.length = n := ⟨_, rfl⟩
  obtain ⟨nq2, hnq2⟩ : ∃ n, s2.q.length = n := ⟨_, rfl⟩
  rw [hno2] at hO2 hfr ⊢
  rw [hnq2] at hQ2 hfr ⊢
  unfold snC at hfr ⊢
  have hfq : ∀ g, (Value.slice Aq2 nq2 cq2).ownBlock = some g → W1.heap.size ≤ g := fun g e => hfr _ rfl g e
  have hb3 : Below w2.heap.size w2 (w2.alloc (.cells #[.int .i64 s2.ses, .int .i64 s2.lim, .int .i64 s2.tmo, .int .i64 s2.base, .int .i64 s2.next, .int .i64 s2.cred, .slice Ao2 no2 co2, .slice Aq2 nq2 cq2] 25)) := (Below.refl _ w2).alloc (Nat.le_refl _) _
  have hb23 := hb2.trans (hb3.mono hb2.size)
  have HP2 := Lib.hid (And.intro (HP1.out.2.1.below hb23) (And.intro (HP1.out.2.2.1.below hb23 lX1) (And.intro (HBY.out.up hb23) (And.intro (Blk.new w2 25 #[.int .i64 s2.ses, .int .i64 s2.lim, .int .i64 s2.tmo, .int .i64 s2.base, .int .i64 s2.next, .int .i64 s2.cred, .slice Ao2 no2 co2, .slice Aq2 nq2 cq2]) (And.intro (hO2.up hb3) (And.intro (hQ2.up hb3) (HP1.out.1.trans (hb23.mono (Nat.le_trans hBW HP1.out.1.size)))))))))
  have HFQ := Lib.hid (And.intro hfq trivial)
  have hXB2 : X < w2.heap.size := Nat.lt_of_lt_of_le lX1 hb2.size
  have lX2 : X < w2.heap.size := Nat.lt_of_lt_of_le lX1 hb2.size
  have hbw2 : base ≤ w2.heap.size := by omega
  clear hfr hfq hb3 hb23 hb2 hO2 hQ2
  go_upto_region 3 with fail
  obtain ⟨B2, hB3⟩ : ∃ x, x = w2.heap.size := ⟨_, rfl⟩
  rw [← hB3] at HP2 lX2 hXB2 hbw2 ⊢
  clear hB3
  generalize (w2.alloc (.cells #[.int .i64 s2.ses, .int .i64 s2.lim, .int .i64 s2.tmo, .int .i64 s2.base, .int .i64 s2.next, .int .i64 s2.cred, .slice Ao2 no2 co2, .slice Aq2 nq2 cq2] 25)) = W2 at *
  have xb0 : W2.cell? ⟨B2, 0, none⟩ = some (.int .i64 s2.ses) := HP2.out.2.2.2.1.cell 0
  have xb1 : W2.cell? ⟨B2, 1, none⟩ = some (.int .i64 s2.lim) := HP2.out.2.2.2.1.cell 1
  have xb2 : W2.cell? ⟨B2, 2, none⟩ = some (.int .i64 s2.tmo) := HP2.out.2.2.2.1.cell 2
  have xb3 : W2.cell? ⟨B2, 3, none⟩ = some (.int .i64 s2.base) := HP2.out.2.2.2.1.cell 3
  have xb4 : W2.cell? ⟨B2, 4, none⟩ = some (.int .i64 s2.next) := HP2.out.2.2.2.1.cell 4
  have xb5 : W2.cell? ⟨B2, 5, none⟩ = some (.int .i64 s2.cred) := HP2.out.2.2.2.1.cell 5
  have xb6 : W2.cell? ⟨B2, 6, none⟩ = some (.slice Ao2 no2 co2) := HP2.out.2.2.2.1.cell 6
  have xb7 : W2.cell? ⟨B2, 7, none⟩ = some (.slice Aq2 nq2 cq2) := HP2.out.2.2.2.1.cell 7
  have xr12 : W2.cell? ⟨X, 12, none⟩ = some (.slice Apu npu cpu) := HP2.out.2.1.cell 12
  have lX3 := HP2.out.2.1.lt
  have lB2 := HP2.out.2.2.2.1.lt
  refine wp_region_lexP [(0, 1), (1, 1), (2, 1), (3, 1), (7, 1), (4, 1), (5, 1), (6, 1), (8, 0), (9, 0), (10, 1), (11, 1), (12, 0), (13, 1), (14, 1), (15, 0)] [15] (fun w9 => w9.cell? ⟨B2, 0, none⟩ = some (.int .i64 s2.ses) ∧ w9.cell? ⟨B2, 1, none⟩ = some (.int .i64 s2.lim) ∧ w9.cell? ⟨B2, 2, none⟩ = some (.int .i64 s2.tmo) ∧ w9.cell? ⟨B2, 3, none⟩ = some (.int .i64 s2.base) ∧ w9.cell? ⟨B2, 4, none⟩ = some (.int .i64 s2.next) ∧ w9.cell? ⟨B2, 5, none⟩ = some (.int .i64 s2.cred) ∧ w9.cell? ⟨B2, 6, none⟩ = some (.slice Ao2 no2 co2) ∧ w9.cell? ⟨B2, 7, none⟩ = some (.slice Aq2 nq2 cq2) ∧ w9.cell? ⟨X, 12, none⟩ = some (.slice Apu npu cpu)) (by kernel_rfl) (by kernel_rfl) (by kernel_rfl) (by kernel_rfl) (by kernel_rfl) ⟨xb0, xb1, xb2, xb3, xb4, xb5, xb6, xb7, xr12⟩ ?_
  repeat ((first | (refine lexP_read rfl (by rfl) (by first | exact wanted_none rfl | exact wanted_some (b := true) (c := true) rfl rfl rfl | exact wanted_some (b := false) (c := false) rfl rfl rfl) (by intro w9 hS9; (try dsimp only at hS9); go_simp <;> with_reducible rfl) ?_) | (refine lexP_skip rfl (fun _ => trivial) (by first | exact wanted_some (b := true) (c := false) rfl rfl rfl | exact wanted_some (b := false) (c := true) rfl rfl rfl) ?_) | (refine lexP_builtin rfl (fun _ => trivial) (by first | exact wanted_none rfl | exact wanted_some (b := true) (c := true) rfl rfl rfl | exact wanted_some (b := false) (c := false) rfl rfl rfl) (by intro w9 hS9; (try dsimp only at hS9); go_simp <;> with_reducible rfl) ?_)); (try simp only [Act.put, List.getElem_toArray, List.getElem_cons_succ, List.getElem_cons_zero, List.setIfInBounds_toArray, List.set_cons_zero, List.set_cons_succ]))
  have hbN : Below W2.heap.size W2 (W2.alloc (.cells #[.slice (some ⟨B, 0, none⟩) 2 2] 42)).drew := ((Below.refl _ W2).alloc (Nat.le_refl _) _).drew
  have HN := Lib.hid (And.intro (HP2.out.1.below hbN) (And.intro (HP2.out.2.1.below hbN lX3) (And.intro (HP2.out.2.2.1.up hbN) (And.intro (Blk.new W2 42 #[.slice (some ⟨B, 0, none⟩) 2 2]).drew (And.intro (HP2.out.2.2.2.2.1.up hbN) (And.intro (HP2.out.2.2.2.2.2.1.up hbN) (And.intro (HP2.out.2.2.2.2.2.2.trans (hbN.mono (Nat.le_trans hBW HP2.out.2.2.2.2.2.2.size))) (HP2.out.2.2.2.1.below hbN lB2))))))))
  have hbWN : base ≤ (W2.alloc (.cells #[.slice (some ⟨B, 0, none⟩) 2 2] 42)).drew.heap.size := Nat.le_trans (Nat.le_trans hX (Nat.le_of_lt lX3)) hbN.size
  clear hbN
  refine lexP_eff rfl (fun _ => trivial) ?_
  go_simp
  (try simp only [Act.put, List.getElem_toArray, List.getElem_cons_succ, List.getElem_cons_zero, List.setIfInBounds_toArray, List.set_cons_zero, List.set_cons_succ])
  have hln := HLN.out.2.2.2.1
  refine lexP_pushN (E := encQ) (R := QeR) (t := 42) (sz := 1) (base := base) (low := base) (l := pu) (l2 := [(⟨some ⟨B, 0, none⟩, 2, [npu, 0]⟩ : Qe)]) (v := .slice Apu npu cpu) rfl (fun _ => trivial) _ _ 23 (by rfl) _ 24 Try.underlying23 info42 rfl (by omega) (fun e he => encQ_one e) (by rfl) HN.out.1.pu (Nat.le_refl _) (qeR_ab (by simp)) (fun e he => by rw [List.mem_singleton] at he; subst he; exact HN.out.2.2.1) (by rfl) (HN.out.2.2.2.1.reads (size := 1) (n := 1) rfl) rfl (by omega) (by omega) hbWN ?_
  intro v9 w9 hp9
  obtain ⟨A9, c9, rfl, -, -⟩ := hp9.own.vform
  have hrw := HN.out.1.pushPu hp9
  have hl9 : (pu ++ [(⟨some ⟨B, 0, none⟩, 2, [npu, 0]⟩ : Qe)]).length = npu + 1 := by simp [hln]
  rw [hl9] at hrw hp9 ⊢
  have hk9 := HN.out.2.1.turn hp9.turn (by simp)
  have hO9 := HN.out.2.2.2.2.1.turn hp9.turn (by simp) (by simp)
  have hQ9 := HN.out.2.2.2.2.2.1.grownFar hp9.g (fun g e hn q => by have h1 := HFQ.out.1 g e; have h2 := own_block_lt' HP1.out.2.1.pu.own g q; omega) hp9.turn
  have hrw2 := hrw.sender (s := s2) hO9 hQ9 (fun g e hn => by
    have h1 := HFQ.out.1 g e
    refine ⟨fun q => ?_, fun q => ?_⟩
    · rcases hp9.nb with h2 | h2
      · have h3 := own_block_lt' HP1.out.2.1.pu.own g (h2.symm.trans q); omega
      · have h3 := HN.out.2.2.2.2.2.1.blt hn g e
        have h4 := h2.symm.trans q
        injection h4 with h4
        omega
    · have h3 := own_block_lt' HP1.out.2.1.dl.own g q; omega)
  have hb9 := Turn.belowT (B := base) (HN.out.2.2.2.2.2.2.1.mono hB2) hp9.turn (Nat.le_refl _) hbWN
  have hkb9 := HN.out.2.2.2.2.2.2.2.turn hp9.turn (by simp)
  have hbW9 := Nat.le_trans hbWN hp9.turn.size
  have HQ9 := Lib.hid (And.intro hrw2 (And.intro hk9 hb9))
  clear hrw hrw2 hl9 hO9 hQ9 hb9 hp9 HN hln
  have yb0 : w9.cell? ⟨B2, 0, none⟩ = some (.int .i64 s2.ses) := hkb9.cell 0
  have yb1 : w9.cell? ⟨B2, 1, none⟩ = some (.int .i64 s2.lim) := hkb9.cell 1
  have yb2 : w9.cell? ⟨B2, 2, none⟩ = some (.int .i64 s2.tmo) := hkb9.cell 2
  have yb3 : w9.cell? ⟨B2, 3, none⟩ = some (.int .i64 s2.base) := hkb9.cell 3
  have yb4 : w9.cell? ⟨B2, 4, none⟩ = some (.int .i64 s2.next) := hkb9.cell 4
  have yb5 : w9.cell? ⟨B2, 5, none⟩ = some (.int .i64 s2.cred) := hkb9.cell 5
  have yb6 : w9.cell? ⟨B2, 6, none⟩ = some (.slice Ao2 no2 co2) := hkb9.cell 6
  have yb7 : w9.cell? ⟨B2, 7, none⟩ = some (.slice Aq2 nq2 cq2) := hkb9.cell 7
  have y12 : w9.cell? ⟨X, 12, none⟩ = some (.slice Apu npu cpu) := hk9.cell 12
  have lB9 := hkb9.lt
  refine ⟨.inr ⟨yb0, yb1, yb2, yb3, yb4, yb5, yb6, yb7, y12⟩, ?_⟩
  (try simp only [Act.put, List.getElem_toArray, List.getElem_cons_succ, List.getElem_cons_zero, List.setIfInBounds_toArray, List.set_cons_zero, List.set_cons_succ])
  have yr0 : w9.cell? ⟨X, 0, none⟩ = some (.int .i64 m.s.ses) := hk9.cell 0
  have yr1 : w9.cell? ⟨X, 1, none⟩ = some (.int .i64 m.s.lim) := hk9.cell 1
  have yr2 : w9.cell? ⟨X, 2, none⟩ = some (.int .i64 m.s.tmo) := hk9.cell 2
  have yr3 : w9.cell? ⟨X, 3, none⟩ = some (.int .i64 m.s.base) := hk9.cell 3
  have yr4 : w9.cell? ⟨X, 4, none⟩ = some (.int .i64 m.s.next) := hk9.cell 4
  have yr5 : w9.cell? ⟨X, 5, none⟩ = some (.int .i64 m.s.cred) := hk9.cell 5
  have yr6 : w9.cell? ⟨X, 6, none⟩ = some (.slice Ao no co) := hk9.cell 6
  have yr7 : w9.cell? ⟨X, 7, none⟩ = some (.slice Aq nq cq) := hk9.cell 7
  have yz0 := hk9.frozen 0
  have yz1 := hk9.frozen 1
  have yz2 := hk9.frozen 2
  have yz3 := hk9.frozen 3
  have yz4 := hk9.frozen 4
  have yz5 := hk9.frozen 5
  have yz6 := hk9.frozen 6
  have yz7 := hk9.frozen 7
  have yz12 := hk9.frozen 12
  have lX9 := hk9.lt
  clear hk9 hkb9 xr12 lX3 lB2 xb0 xb1 xb2 xb3 xb4 xb5 xb6 xb7
  repeat ((first | (refine lexP_read rfl (by rfl) (by first | exact wanted_none rfl | exact wanted_some (b := true) (c := true) rfl rfl rfl | exact wanted_some (b := false) (c := false) rfl rfl rfl) (by intro w9 hS9; (try dsimp only at hS9); go_simp <;> with_reducible rfl) ?_) | (refine lexP_skip rfl (fun _ => trivial) (by first | exact wanted_some (b := true) (c := false) rfl rfl rfl | exact wanted_some (b := false) (c := true) rfl rfl rfl) ?_) | (refine lexP_builtin rfl (fun _ => trivial) (by first | exact wanted_none rfl | exact wanted_some (b := true) (c := true) rfl rfl rfl | exact wanted_some (b := false) (c := false) rfl rfl rfl) (by intro w9 hS9; (try dsimp only at hS9); go_simp <;> with_reducible rfl) ?_)); (try simp only [Act.put, List.getElem_toArray, List.getElem_cons_succ, List.getElem_cons_zero, List.setIfInBounds_toArray, List.set_cons_zero, List.set_cons_succ]))
  refine lexP_eff rfl (fun _ => trivial) ?_
  go_simp
  (try simp only [Act.put, List.getElem_toArray, List.getElem_cons_succ, List.getElem_cons_zero, List.setIfInBounds_toArray, List.set_cons_zero, List.set_cons_succ])
  repeat ((first | (refine lexP_read rfl (by rfl) (by first | exact wanted_none rfl | exact wanted_some (b := true) (c := true) rfl rfl rfl | exact wanted_some (b := false) (c := false) rfl rfl rfl) (by intro w9 hS9; (try dsimp only at hS9); go_simp <;> with_reducible rfl) ?_) | (refine lexP_skip rfl (fun _ => trivial) (by first | exact wanted_some (b := true) (c := false) rfl rfl rfl | exact wanted_some (b := false) (c := true) rfl rfl rfl) ?_) | (refine lexP_builtin rfl (fun _ => trivial) (by first | exact wanted_none rfl | exact wanted_some (b := true) (c := true) rfl rfl rfl | exact wanted_some (b := false) (c := false) rfl rfl rfl) (by intro w9 hS9; (try dsimp only at hS9); go_simp <;> with_reducible rfl) ?_)); (try simp only [Act.put, List.getElem_toArray, List.getElem_cons_succ, List.getElem_cons_zero, List.setIfInBounds_toArray, List.set_cons_zero, List.set_cons_succ]))
  refine lexP_eff rfl (fun _ => trivial) ?_
  go_simp
  (try simp only [Act.put, List.getElem_toArray, List.getElem_cons_succ, List.getElem_cons_zero, List.setIfInBounds_toArray, List.set_cons_zero, List.set_cons_succ])
  refine lexP_nil (panQ_normal ?_)
  have hk2 := set73s_blk HQ9.out.2.1 (.int .i64 s2.ses) (.int .i64 s2.lim) (.int .i64 s2.tmo) (.int .i64 s2.base) (.int .i64 s2.next) (.int .i64 s2.cred) (.slice Ao2 no2 co2) (.slice Aq2 nq2 cq2)
  have hT2 := set73s_turn HQ9.out.2.1 hX (.int .i64 s2.ses) (.int .i64 s2.lim) (.int .i64 s2.tmo) (.int .i64 s2.base) (.int .i64 s2.next) (.int .i64 s2.cred) (.slice Ao2 no2 co2) (.slice Aq2 nq2 cq2)
  have hT3 := set73_turn hk2 hX 12 (.slice A9 (npu + 1) c9)
  have hk3 := hk2.set_ 12 (.slice A9 (npu + 1) c9)
  simp only [List.setIfInBounds_toArray, List.set_cons_zero, List.set_cons_succ] at hk3
  have hrF := (HQ9.out.1.t73 hT2).t73 hT3
  have hbF := Turn.belowT (B := base) HQ9.out.2.2 (hT2.trans hT3) (Nat.le_refl _) hbW9
  have HF := Lib.hid (And.intro hrF (And.intro hk3 hbF))
  clear hk2 hT2 hT3 hk3 hrF hbF
  go_wp2_with fail
  go_ret
  refine ⟨ret_bool ?_, ⟨_, ⟨HF.out.1, HF.out.2.1⟩⟩, HF.out.2.2⟩
  rw [Bool.eq_iff_iff]
  simp
end Go.Proofs.Ytanmndhdhlmjgaa
