/- The walk of the transmission's right. Conditions: small. -/
import Derived.Test.YtanmndhdhlmjgaaRa
import Derived.Test.YtanmndhdhlmjgaaWg
import Derived.Test.YtanmndhdhlmjgaaWe
import Derived.Test.YtanmndhdhlmjgaaWn
import Derived.Test.YtanmndhdhlmjgaaWu
import Derived.Test.YtanmndhdhlmjgaaMathD
namespace Go.Proofs.Ytanmndhdhlmjgaa
open Go.RowKit
theorem Vec.takeN {α : Type} {E : α → List Value} {R : World → Nat → α → Prop} {t : TypeId} {sz : Nat} {W : World} {base n c k : Nat} {A : Option Addr} {l : List α} (h : Vec E R t sz W base (.slice A n c) l) (hE : ∀ a, (E a).length = sz) (hk : k ≤ l.length) : Vec E R t sz W base (.slice A k c) (l.take k) := by
  obtain ⟨A2, c2, hv, h1, h2, h3⟩ := h.val
  injection hv with hA hn hc
  subst hA hc
  have hl : (l.take k).length = k := by rw [List.length_take]; omega
  refine ⟨⟨A, c, by rw [hl], by omega, h2, ?_⟩, fun e he => h.el e (List.mem_of_mem_take he)⟩
  rw [hl, ← take_flat hE]
  exact h3.take hk
/-- all is right -/
structure RightI (m : RunM) : Prop where
  n : m.dl.length ≤ m.pu.length
  eq : m.dl = m.pu.take m.dl.length
  nx : (m.dl.length : Int) = m.r.next
  cs : chkS m.s = 0
  cr : chkR m.r = 0
  b : m.s.base ≤ m.r.next
  x : m.r.next ≤ m.s.next
  p : m.s.next ≤ m.pu.length
  few : m.pu.length ≤ 100000
theorem RightI.small {m : RunM} (h : RightI m) : Small m.s ∧ SmallR m.r := by
  have h1 := chkS_rng h.cs
  have h2 := (chkR_ok m.r).1 h.cr
  have h3 := h1.out
  have h4 := h1.lim
  have h5 := h2.few
  have h6 := h2.lim
  exact ⟨⟨by omega, Nat.le_trans h1.q (by omega)⟩, ⟨by omega⟩⟩
theorem blk73_3 {V w' : World} {X : Nat} {c0 c1 c2 c3 c4 c5 c6 c7 c8 c9 c10 c11 c12 c13 c14 c15 c16 : Value} (hb : Below V.heap.size V w') (hk : Blk V X 73 #[c0, c1, c2, c3, c4, c5, c6, c7, c8, c9, c10, c11, c12, c13, c14, c15, c16]) : w'.cell? ⟨X, 10, none⟩ = some (c10) ∧ w'.cell? ⟨X, 12, none⟩ = some (c12) ∧ w'.cell? ⟨X, 13, none⟩ = some (c13) ∧ Below V.heap.size V w' :=
  have h := hk.below hb hk.lt
  ⟨h.cell 10, h.cell 12, h.cell 13, hb⟩
theorem blk73_13 {V w' : World} {X : Nat} {c0 c1 c2 c3 c4 c5 c6 c7 c8 c9 c10 c11 c12 c13 c14 c15 c16 : Value} (hb : Below V.heap.size V w') (hk : Blk V X 73 #[c0, c1, c2, c3, c4, c5, c6, c7, c8, c9, c10, c11, c12, c13, c14, c15, c16]) : w'.cell? ⟨X, 0, none⟩ = some (c0) ∧ w'.cell? ⟨X, 1, none⟩ = some (c1) ∧ w'.cell? ⟨X, 2, none⟩ = some (c2) ∧ w'.cell? ⟨X, 3, none⟩ = some (c3) ∧ w'.cell? ⟨X, 4, none⟩ = some (c4) ∧ w'.cell? ⟨X, 5, none⟩ = some (c5) ∧ w'.cell? ⟨X, 6, none⟩ = some (c6) ∧ w'.cell? ⟨X, 7, none⟩ = some (c7) ∧ w'.cell? ⟨X, 8, none⟩ = some (c8) ∧ w'.cell? ⟨X, 9, none⟩ = some (c9) ∧ w'.cell? ⟨X, 10, none⟩ = some (c10) ∧ w'.cell? ⟨X, 11, none⟩ = some (c11) ∧ w'.cell? ⟨X, 12, none⟩ = some (c12) ∧ Below V.heap.size V w' :=
  have h := hk.below hb hk.lt
  ⟨h.cell 0, h.cell 1, h.cell 2, h.cell 3, h.cell 4, h.cell 5, h.cell 6, h.cell 7, h.cell 8, h.cell 9, h.cell 10, h.cell 11, h.cell 12, hb⟩
set_option maxRecDepth 100000 in
set_option maxHeartbeats 4000000 in
set_option linter.unusedSimpArgs false in
theorem runRight_any (m : RunM) (u : RVal) (X base : Nat) (W : World) (h : RunI W base X m u) (hr : RightI m) :
    Calls Try.prog 42 #[.pointer (some ⟨X, 0, none⟩)] W fun e W' => e = .returned (.bool true) ∧ Below W.heap.size W W' := by
  obtain ⟨vo, vq, ve, vpu, vdl, vpk, van, pu, dl, pk, an⟩ := u
  have hso := h.rows.so.form
  have hsq := h.rows.sq.form
  have hre := h.rows.re.form
  have hpu := h.rows.pu.vform
  have hdl := h.rows.dl.vform
  have hpk := h.rows.pk.vform
  have han := h.rows.an.vform
  dsimp only at hso hsq hre hpu hdl hpk han
  obtain ⟨Ao, co, rfl, -, -⟩ := hso
  obtain ⟨Aq, cq, rfl, -, -⟩ := hsq
  obtain ⟨Ae, ce, rfl, -, -⟩ := hre
  obtain ⟨Apu, cpu, rfl, -, -⟩ := hpu
  obtain ⟨Adl, cdl, rfl, -, -⟩ := hdl
  obtain ⟨Apk, cpk, rfl, -, -⟩ := hpk
  obtain ⟨Aan, can, rfl, -, -⟩ := han
  have e1 : pu.length = m.pu.length := by rw [← h.rows.puM, List.length_map]
  have e2 : dl.length = m.dl.length := by rw [← h.rows.dlM, List.length_map]
  have e3 : pk.length = m.pk.length := by rw [← h.rows.pkM, List.length_map]
  have e4 : an.length = m.an.length := by rw [← h.rows.anM, List.length_map]
  obtain ⟨no, hno⟩ : ∃ n, m.s.out.length = n := ⟨_, rfl⟩
  obtain ⟨nq, hnq⟩ : ∃ n, m.s.q.length = n := ⟨_, rfl⟩
  obtain ⟨ne, hne⟩ : ∃ n, m.r.early.length = n := ⟨_, rfl⟩
  obtain ⟨npu, hnpu⟩ : ∃ n, pu.length = n := ⟨_, rfl⟩
  obtain ⟨ndl, hndl⟩ : ∃ n, dl.length = n := ⟨_, rfl⟩
  obtain ⟨npk, hnpk⟩ : ∃ n, pk.length = n := ⟨_, rfl⟩
  obtain ⟨nan, hnan⟩ : ∃ n, an.length = n := ⟨_, rfl⟩
  rw [hno, hnq, hne, hnpu, hndl, hnpk, hnan] at h
  try rw [hno]
  try rw [hnq]
  try rw [hne]
  try rw [hnpu]
  try rw [hndl]
  try rw [hnpk]
  try rw [hnan]
  have HLN := Lib.hid (And.intro hno (And.intro hnq (And.intro hne (And.intro hnpu (And.intro hndl (And.intro hnpk hnan))))))
  have HLE := Lib.hid (And.intro e1 (And.intro e2 (And.intro e3 e4)))
  have lX := h.blk.lt
  have hbk := h.blk
  unfold runC at hbk
  dsimp only at hbk
  have HR := Lib.hid (And.intro h.rows hbk)
  clear hno hnq hne hnpu hndl hnpk hnan e1 e2 e3 e4 h hbk
  have hcx : npu ≤ cpu := by
    obtain ⟨A9, c9, hv9, hc9, -⟩ := HR.out.1.pu.vform
    have h4 := HLN.out.2.2.2.1
    injection hv9 with hA9 hn9 hcc
    dsimp only at hc9
    omega
  have hd1 : ndl ≤ npu := by have h1 := hr.n; have h2 := HLE.out.1; have h3 := HLE.out.2.1; have h4 := HLN.out.2.2.2.1; have h5 := HLN.out.2.2.2.2.1; omega
  have hd2 : (ndl : Int) = m.r.next := by have h1 := hr.nx; have h3 := HLE.out.2.1; have h5 := HLN.out.2.2.2.2.1; omega
  have hd3 : m.s.next ≤ npu := by have h1 := hr.p; have h2 := HLE.out.1; have h4 := HLN.out.2.2.2.1; omega
  have k1 : decide ((npu : Int) < (ndl : Int)) = false := decide_eq_false (by omega)
  have k1b : (npu < ndl) = False := eq_false (by omega)
  have k2 : ((ndl : Int) != m.r.next) = false := by rw [bne_eq_false_iff_eq]; exact hd2
  have k3 : decide (m.s.base ≤ m.r.next) = true := decide_eq_true hr.b
  have k4 : decide (m.r.next ≤ m.s.next) = true := decide_eq_true hr.x
  have k5 : decide (m.s.next ≤ (npu : Int)) = true := decide_eq_true hd3
  have k6 : ndl ≤ cpu := by omega
  have HRI := Lib.hid (And.intro hr hd2)
  clear hr hd2 hd3
  have xr13 : W.cell? ⟨X, 13, none⟩ = some (.slice Adl ndl cdl) := HR.out.2.cell 13
  go_enter Try.func42, Try.ntmps42
  go_upto_region 2 with fail
  clear xr13
  have H36 := Lib.hid (fun w9 (hb9 : Below W.heap.size W w9) => SamePayloads_true m.dl (.slice Adl ndl cdl) (.slice Apu ndl cpu) base base w9 ⟨dl, by have hh := (HR.out.1.below hb9).dl.vec; exact hh, HR.out.1.dlM⟩ ⟨pu.take ndl, (HR.out.1.below hb9).pu.vec.takeN (fun _ => rfl) (by show ndl ≤ pu.length; rw [HLN.out.2.2.2.1]; exact hd1), by rw [List.map_take, HR.out.1.puM, HRI.out.1.eq, ← HLN.out.2.2.2.2.1, HLE.out.2.1]⟩ (by have := HRI.out.1.n; have := HRI.out.1.few; omega))
  go_region_held3 (fun w' => w'.cell? ⟨X, 10, none⟩ = some (.int .i64 m.r.next) ∧ w'.cell? ⟨X, 12, none⟩ = some (.slice Apu npu cpu) ∧ w'.cell? ⟨X, 13, none⟩ = some (.slice Adl ndl cdl) ∧ Below W.heap.size W w')
    (first
      | exact blk73_3 ((Below.refl _ W).drew) HR.out.2
      | (go_split_ands; refine blk73_3 (below_step ?_ hb') HR.out.2; assumption)
      | (go_split_ands; refine ⟨?_, ?_, ?_, ?_⟩ <;> assumption))
    (first
      | (go_at_call 36; refine (H36.out _ ?_).mono ?_; (go_split_ands; assumption); rintro e w' ⟨rfl, hb'⟩))
  rename_i hS
  clear hb'
  generalize w' = w3 at *
  have hb3 := hS.2.2.2
  have HW3 := Lib.hid (And.intro (HR.out.2.below hb3 lX) hb3)
  have HRW := Lib.hid (HR.out.1.below hb3)
  clear hS H36 hb3
  go_upto_region 4 with fail
  have H19 := Lib.hid (fun w9 (hb9 : Below w3.heap.size w3 w9) => CheckSender_any m.s (.agg (snC m.s (.slice Ao no co) (.slice Aq nq cq))) base w9 ⟨_, _, rfl, (HRW.out.below hb9).so, (HRW.out.below hb9).sq⟩ HRI.out.1.small.1)
  have H34 := Lib.hid (fun w9 (hb9 : Below w3.heap.size w3 w9) => CheckReceiver_any m.r (.agg (rcC m.r (.slice Ae ne ce))) base w9 ⟨_, rfl, (HRW.out.below hb9).re⟩ HRI.out.1.small.2)
  rw [HRI.out.1.cs] at H19
  rw [HRI.out.1.cr] at H34
  unfold snC at H19
  unfold rcC at H34
  go_region_held3 (fun w' => w'.cell? ⟨X, 0, none⟩ = some (.int .i64 m.s.ses) ∧ w'.cell? ⟨X, 1, none⟩ = some (.int .i64 m.s.lim) ∧ w'.cell? ⟨X, 2, none⟩ = some (.int .i64 m.s.tmo) ∧ w'.cell? ⟨X, 3, none⟩ = some (.int .i64 m.s.base) ∧ w'.cell? ⟨X, 4, none⟩ = some (.int .i64 m.s.next) ∧ w'.cell? ⟨X, 5, none⟩ = some (.int .i64 m.s.cred) ∧ w'.cell? ⟨X, 6, none⟩ = some (.slice Ao no co) ∧ w'.cell? ⟨X, 7, none⟩ = some (.slice Aq nq cq) ∧ w'.cell? ⟨X, 8, none⟩ = some (.int .i64 m.r.ses) ∧ w'.cell? ⟨X, 9, none⟩ = some (.int .i64 m.r.lim) ∧ w'.cell? ⟨X, 10, none⟩ = some (.int .i64 m.r.next) ∧ w'.cell? ⟨X, 11, none⟩ = some (.slice Ae ne ce) ∧ w'.cell? ⟨X, 12, none⟩ = some (.slice Apu npu cpu) ∧ Below w3.heap.size w3 w')
    (first
      | exact blk73_13 ((Below.refl _ w3).drew) HW3.out.1
      | (go_split_ands; refine blk73_13 (below_step ?_ hb') HW3.out.1; assumption)
      | (go_split_ands; refine ⟨?_, ?_, ?_, ?_, ?_, ?_, ?_, ?_, ?_, ?_, ?_, ?_, ?_, ?_⟩ <;> assumption))
    (first
      | (go_at_call 19; refine (H19.out _ ?_).mono ?_; (go_split_ands; assumption); rintro e w' ⟨rfl, hb'⟩)
      | (go_at_call 34; refine (H34.out _ ?_).mono ?_; (go_split_ands; assumption); rintro e w' ⟨rfl, hb'⟩))
  rename_i hS
  clear hb'
  generalize w' = w4 at *
  have hb4 := hS.2.2.2.2.2.2.2.2.2.2.2.2.2
  have HF := Lib.hid (HW3.out.2.trans (hb4.mono HW3.out.2.size))
  clear hS hb4
  go_wp2_with fail
  go_ret
  exact ⟨rfl, HF.out⟩
end Go.Proofs.Ytanmndhdhlmjgaa
