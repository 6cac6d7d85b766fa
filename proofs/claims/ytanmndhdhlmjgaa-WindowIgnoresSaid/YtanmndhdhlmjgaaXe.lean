/- The walk of Poll. Conditions: small. -/
import Derived.Test.YtanmndhdhlmjgaaXd
import Derived.Test.YtanmndhdhlmjgaaFq
import Derived.Test.YtanmndhdhlmjgaaWp
namespace Go.Proofs.Ytanmndhdhlmjgaa
open Go.RowKit Go.Shelf
attribute [local go_sem] Oper.semAt_some
/-- what Poll leaves -/
structure PollF (w : World) (base : Nat) (s : Sm) (now : Int) (v : Value) (e : Ending) (w' : World) : Prop where
  ret : ∃ sv kv, e = .returned (.tuple #[sv, kv]) ∧ SnV w' base (pollS s now).1 sv ∧ KsV w' base (pollS s now).2 kv ∧ (sv = v ∨ Fr.FreshQ w.heap.size sv)
  bel : Below w.heap.size w w'
/-- what a round of Poll finds: its list -/
structure PoI (w0 : World) (base bs L : Nat) (xs : List Ke) (W : World) : Prop where
  ex : ∃ v, Blk W L 48 #[v] ∧ Own1 encK KeR 55 7 W base bs v xs
  size : bs ≤ W.heap.size
  bel : Below bs w0 W
theorem PoI.turnW {w0 : World} {base bs L : Nat} {xs : List Ke} {W W' : World} (h : PoI w0 base bs L xs W) {T : List TypeId} (hT : TurnW bs T W W') (h1 : 48 ∉ T) (h2 : 55 ∉ T) (h3 : 5 ∉ T) (h4 : 87 ∉ T) (hbs : base ≤ bs) : PoI w0 base bs L xs W' := by
  obtain ⟨v, hk, hO⟩ := h.ex
  exact ⟨⟨v, hk.turnW hT h1, hO.turnW (hT.base hbs) h2 (keR_abW h3 h4)⟩, Nat.le_trans h.size hT.size, h.bel.trans ⟨hT.os, hT.tape, hT.output, hT.size, fun k hk => hT.low k hk (Nat.lt_of_lt_of_le hk h.size)⟩⟩
theorem encK_one (e : Ke) (As : Option Addr) (n c : Nat) (h : e.vs = .slice As n c) : ∀ u ∈ encK e, u.oneCell' = true := by
  intro u hu
  simp only [encK, h, List.mem_cons, List.not_mem_nil, or_false] at hu
  rcases hu with rfl | rfl | rfl | rfl | rfl | rfl | rfl <;> rfl
set_option maxRecDepth 100000 in
set_option maxHeartbeats 2000000 in
set_option linter.unusedSimpArgs false in
theorem Poll_in (s : Sm) (now : Int) (v : Value) (base : Nat) (w : World) (hv : SnV w base s v) (hs : Small s) (hbw : base ≤ w.heap.size) :
    CallsIn Fence.wide 4 Try.prog 25 #[v, .int .i64 now] w (PollF w base s now v) := by
  have HV := Lib.hid hv
  obtain ⟨vo, vq, rfl, hO, hQ⟩ := hv
  obtain ⟨Ao, co, rfl, -, -⟩ := hO.form
  obtain ⟨Aq, cq, rfl, -, -⟩ := hQ.form
  clear hO hQ
  obtain ⟨no, hno⟩ : ∃ n, s.out.length = n := ⟨_, rfl⟩
  obtain ⟨nq, hnq⟩ : ∃ n, s.q.length = n := ⟨_, rfl⟩
  rw [hno, hnq] at HV ⊢
  have HL := Lib.hid (And.intro hno (And.intro hnq hs))
  clear hno hnq hs
  unfold snC at HV ⊢
  have HW : Hid (Blk ((w.alloc (.cells #[.int .i64 s.ses, .int .i64 s.lim, .int .i64 s.tmo, .int .i64 s.base, .int .i64 s.next, .int .i64 s.cred, .slice Ao no co, .slice Aq nq cq] 25)).alloc (.cells #[.int .i64 0, .int .i64 0, .int .i64 0, .int .i64 0, .int .i64 0, .int .i64 0, .slice none 0 0, .slice none 0 0] 25)) (w.heap.size) 25 #[.int .i64 s.ses, .int .i64 s.lim, .int .i64 s.tmo, .int .i64 s.base, .int .i64 s.next, .int .i64 s.cred, .slice Ao no co, .slice Aq nq cq] ∧ Blk ((w.alloc (.cells #[.int .i64 s.ses, .int .i64 s.lim, .int .i64 s.tmo, .int .i64 s.base, .int .i64 s.next, .int .i64 s.cred, .slice Ao no co, .slice Aq nq cq] 25)).alloc (.cells #[.int .i64 0, .int .i64 0, .int .i64 0, .int .i64 0, .int .i64 0, .int .i64 0, .slice none 0 0, .slice none 0 0] 25)) (w.heap.size + 1) 25 #[.int .i64 0, .int .i64 0, .int .i64 0, .int .i64 0, .int .i64 0, .int .i64 0, .slice none 0 0, .slice none 0 0] ∧ Below w.heap.size w ((w.alloc (.cells #[.int .i64 s.ses, .int .i64 s.lim, .int .i64 s.tmo, .int .i64 s.base, .int .i64 s.next, .int .i64 s.cred, .slice Ao no co, .slice Aq nq cq] 25)).alloc (.cells #[.int .i64 0, .int .i64 0, .int .i64 0, .int .i64 0, .int .i64 0, .int .i64 0, .slice none 0 0, .slice none 0 0] 25))) := by
    have h1 := (Blk.new w 25 #[.int .i64 s.ses, .int .i64 s.lim, .int .i64 s.tmo, .int .i64 s.base, .int .i64 s.next, .int .i64 s.cred, .slice Ao no co, .slice Aq nq cq]).alloc (.cells #[.int .i64 0, .int .i64 0, .int .i64 0, .int .i64 0, .int .i64 0, .int .i64 0, .slice none 0 0, .slice none 0 0] 25)
    have h2 := Blk.new (w.alloc (.cells #[.int .i64 s.ses, .int .i64 s.lim, .int .i64 s.tmo, .int .i64 s.base, .int .i64 s.next, .int .i64 s.cred, .slice Ao no co, .slice Aq nq cq] 25)) 25 #[.int .i64 0, .int .i64 0, .int .i64 0, .int .i64 0, .int .i64 0, .int .i64 0, .slice none 0 0, .slice none 0 0]
    rw [World.size_alloc] at h2
    exact ⟨h1, h2, ((Below.refl _ w).alloc (Nat.le_refl _) _).alloc (by simp) _⟩
  obtain ⟨ev, hev⟩ : ∃ n, chkS s = n := ⟨_, rfl⟩
  have hc1 := CheckSender_any s _ base ((w.alloc (.cells #[.int .i64 s.ses, .int .i64 s.lim, .int .i64 s.tmo, .int .i64 s.base, .int .i64 s.next, .int .i64 s.cred, .slice Ao no co, .slice Aq nq cq] 25)).alloc (.cells #[.int .i64 0, .int .i64 0, .int .i64 0, .int .i64 0, .int .i64 0, .int .i64 0, .slice none 0 0, .slice none 0 0] 25)) (HV.out.up HW.out.2.2) HL.out.2.2
  rw [hev] at hc1
  have HC1 := Lib.hid hc1
  have HE := Lib.hid hev
  clear hc1 hev
  refine callsIn_of_wp_marks Try.func25 rfl trivial ?_ rfl
  simp only [Try.ntmps25, List.size_toArray, List.length_cons, List.length_nil, Nat.reduceAdd, Nat.reduceSub, Array.replicate_succ, Array.replicate_zero, List.push_toArray, List.append_toArray, List.nil_append, List.cons_append]
  refine wpIn_wide.2 ?_
  go_wp2_with fail
  generalize ((w.alloc (.cells #[.int .i64 s.ses, .int .i64 s.lim, .int .i64 s.tmo, .int .i64 s.base, .int .i64 s.next, .int .i64 s.cred, .slice Ao no co, .slice Aq nq cq] 25)).alloc (.cells #[.int .i64 0, .int .i64 0, .int .i64 0, .int .i64 0, .int .i64 0, .int .i64 0, .slice none 0 0, .slice none 0 0] 25)) = W at *
  refine HC1.out.mono ?_
  clear HC1
  rintro e w1 ⟨rfl, hb1⟩
  have HW1 := Lib.hid (And.intro (HW.out.1.below hb1 HW.out.1.lt) (And.intro (HW.out.2.1.below hb1 HW.out.2.1.lt) (HW.out.2.2.trans (hb1.mono HW.out.2.2.size))))
  clear hb1
  have xc0 : w1.cell? ⟨w.heap.size, 0, none⟩ = some (.int .i64 s.ses) := HW1.out.1.cell 0
  have xc1 : w1.cell? ⟨w.heap.size, 1, none⟩ = some (.int .i64 s.lim) := HW1.out.1.cell 1
  have xc2 : w1.cell? ⟨w.heap.size, 2, none⟩ = some (.int .i64 s.tmo) := HW1.out.1.cell 2
  have xc3 : w1.cell? ⟨w.heap.size, 3, none⟩ = some (.int .i64 s.base) := HW1.out.1.cell 3
  have xc4 : w1.cell? ⟨w.heap.size, 4, none⟩ = some (.int .i64 s.next) := HW1.out.1.cell 4
  have xc5 : w1.cell? ⟨w.heap.size, 5, none⟩ = some (.int .i64 s.cred) := HW1.out.1.cell 5
  have xc6 : w1.cell? ⟨w.heap.size, 6, none⟩ = some (.slice Ao no co) := HW1.out.1.cell 6
  have xc7 : w1.cell? ⟨w.heap.size, 7, none⟩ = some (.slice Aq nq cq) := HW1.out.1.cell 7
  have xd0 : w1.cell? ⟨w.heap.size + 1, 0, none⟩ = some (.int .i64 0) := HW1.out.2.1.cell 0
  have xd1 : w1.cell? ⟨w.heap.size + 1, 1, none⟩ = some (.int .i64 0) := HW1.out.2.1.cell 1
  have xd2 : w1.cell? ⟨w.heap.size + 1, 2, none⟩ = some (.int .i64 0) := HW1.out.2.1.cell 2
  have xd3 : w1.cell? ⟨w.heap.size + 1, 3, none⟩ = some (.int .i64 0) := HW1.out.2.1.cell 3
  have xd4 : w1.cell? ⟨w.heap.size + 1, 4, none⟩ = some (.int .i64 0) := HW1.out.2.1.cell 4
  have xd5 : w1.cell? ⟨w.heap.size + 1, 5, none⟩ = some (.int .i64 0) := HW1.out.2.1.cell 5
  have xd6 : w1.cell? ⟨w.heap.size + 1, 6, none⟩ = some (.slice none 0 0) := HW1.out.2.1.cell 6
  have xd7 : w1.cell? ⟨w.heap.size + 1, 7, none⟩ = some (.slice none 0 0) := HW1.out.2.1.cell 7
  have xy0 := HW1.out.2.1.frozen 0
  have xy1 := HW1.out.2.1.frozen 1
  have xy2 := HW1.out.2.1.frozen 2
  have xy3 := HW1.out.2.1.frozen 3
  have xy4 := HW1.out.2.1.frozen 4
  have xy5 := HW1.out.2.1.frozen 5
  have xy6 := HW1.out.2.1.frozen 6
  have xy7 := HW1.out.2.1.frozen 7
  have xz0 := HW1.out.1.frozen 0
  have xz1 := HW1.out.1.frozen 1
  have xz2 := HW1.out.1.frozen 2
  have xz3 := HW1.out.1.frozen 3
  have xz4 := HW1.out.1.frozen 4
  have xz5 := HW1.out.1.frozen 5
  have xz6 := HW1.out.1.frozen 6
  have xz7 := HW1.out.1.frozen 7
  have lS := HW1.out.1.lt
  have lO := HW1.out.2.1.lt
  by_cases he : ev = 0
  rotate_left 1
  · have k0 : ((ev : Int) != 0) = true := by simpa using he
    have HE0 := Lib.hid he
    clear he
    have HM : Hid (pollS s now = (s, [])) := by show _ = _; unfold pollS; rw [if_pos (.inl (by rw [HE.out]; exact HE0.out))]
    have hkF := set25_blk HW1.out.2.1 (.int .i64 s.ses) (.int .i64 s.lim) (.int .i64 s.tmo) (.int .i64 s.base) (.int .i64 s.next) (.int .i64 s.cred) (.slice Ao no co) (.slice Aq nq cq)
    have hbF := set25_below HW1.out.2.2 (g := w.heap.size + 1) (by omega) (.int .i64 s.ses) (.int .i64 s.lim) (.int .i64 s.tmo) (.int .i64 s.base) (.int .i64 s.next) (.int .i64 s.cred) (.slice Ao no co) (.slice Aq nq cq)
    have HF := Lib.hid (And.intro hkF hbF)
    clear hkF hbF
    go_wp2_with fail
    refine ⟨_, results_cell_tmp (t := 25) rfl _ _ (w.heap.size + 1) _ _ rfl HF.out.1 Try.underlying25 rfl (by kernel_rfl), ?_⟩
    exact ⟨⟨_, _, rfl, by rw [HM.out]; exact HV.out.up HF.out.2, by rw [HM.out]; exact ksV_nil _ _, .inl rfl⟩, HF.out.2⟩
  have k0 : ((ev : Int) != 0) = false := by simp [he]
  have HE0 : Hid (chkS s = 0) := by show _ = _; rw [HE.out, he]
  clear he
  by_cases hn : 0 ≤ now ∧ now ≤ 1073741824
  rotate_left 1
  · have HN := Lib.hid hn
    clear hn
    go_wp2_with fail
    refine (in_any now 0 1073741824 (decide_eq_false HN.out) _).mono ?_
    rintro e w2 ⟨rfl, rfl⟩
    have HM : Hid (pollS s now = (s, [])) := by show _ = _; unfold pollS; rw [if_pos (.inr HN.out)]
    have hkF := set25_blk HW1.out.2.1 (.int .i64 s.ses) (.int .i64 s.lim) (.int .i64 s.tmo) (.int .i64 s.base) (.int .i64 s.next) (.int .i64 s.cred) (.slice Ao no co) (.slice Aq nq cq)
    have hbF := set25_below HW1.out.2.2 (g := w.heap.size + 1) (by omega) (.int .i64 s.ses) (.int .i64 s.lim) (.int .i64 s.tmo) (.int .i64 s.base) (.int .i64 s.next) (.int .i64 s.cred) (.slice Ao no co) (.slice Aq nq cq)
    have HF := Lib.hid (And.intro hkF hbF)
    clear hkF hbF
    go_wp2_with fail
    refine ⟨_, results_cell_tmp (t := 25) rfl _ _ (w.heap.size + 1) _ _ rfl HF.out.1 Try.underlying25 rfl (by kernel_rfl), ?_⟩
    exact ⟨⟨_, _, rfl, by rw [HM.out]; exact HV.out.up HF.out.2, by rw [HM.out]; exact ksV_nil _ _, .inl rfl⟩, HF.out.2⟩
  have HN := Lib.hid hn
  clear hn
  go_wp2_with fail
  refine (in_any now 0 1073741824 (decide_eq_true HN.out) _).mono ?_
  rintro e w2 ⟨rfl, rfl⟩
  have hc3 := copySender_any s _ base w1 (HV.out.up HW1.out.2.2) HL.out.2.2 (chkS_pay HE0.out).1 (chkS_pay HE0.out).2 (Nat.le_trans hbw HW1.out.2.2.size)
  unfold snC at hc3
  have HC3 := Lib.hid hc3
  clear hc3
  go_wp2_with fail
  refine HC3.out.mono ?_
  clear HC3
  rintro e w2 ⟨⟨vo2, vq2, es, qs, rfl, hO2, hom, hQ2, hqm⟩, hb1⟩
  clear xc0 xc1 xc2 xc3 xc4 xc5 xc6 xc7 xd0 xd1 xd2 xd3 xd4 xd5 xd6 xd7 xy0 xy1 xy2 xy3 xy4 xy5 xy6 xy7 xz0 xz1 xz2 xz3 xz4 xz5 xz6 xz7 lS lO
  have HW2 := Lib.hid (And.intro (HW1.out.1.below hb1 HW1.out.1.lt) (And.intro (HW1.out.2.1.below hb1 HW1.out.2.1.lt) (HW1.out.2.2.trans (hb1.mono HW1.out.2.2.size))))
  clear hb1
  obtain ⟨A2, c2, rfl, -, -⟩ := hO2.vform
  obtain ⟨Aq2, cq2, rfl, -, -⟩ := hQ2.vform
  obtain ⟨ne, hle⟩ : ∃ n, es.length = n := ⟨_, rfl⟩
  obtain ⟨nf, hlq⟩ : ∃ n, qs.length = n := ⟨_, rfl⟩
  rw [hle] at hO2 ⊢
  rw [hlq] at hQ2 ⊢
  clear hle hlq
  have HQ := Lib.hid (And.intro hom hqm)
  clear hom hqm
  unfold snC
  have xc0 : w2.cell? ⟨w.heap.size, 0, none⟩ = some (.int .i64 s.ses) := HW2.out.1.cell 0
  have xc1 : w2.cell? ⟨w.heap.size, 1, none⟩ = some (.int .i64 s.lim) := HW2.out.1.cell 1
  have xc2 : w2.cell? ⟨w.heap.size, 2, none⟩ = some (.int .i64 s.tmo) := HW2.out.1.cell 2
  have xc3 : w2.cell? ⟨w.heap.size, 3, none⟩ = some (.int .i64 s.base) := HW2.out.1.cell 3
  have xc4 : w2.cell? ⟨w.heap.size, 4, none⟩ = some (.int .i64 s.next) := HW2.out.1.cell 4
  have xc5 : w2.cell? ⟨w.heap.size, 5, none⟩ = some (.int .i64 s.cred) := HW2.out.1.cell 5
  have xc6 : w2.cell? ⟨w.heap.size, 6, none⟩ = some (.slice Ao no co) := HW2.out.1.cell 6
  have xc7 : w2.cell? ⟨w.heap.size, 7, none⟩ = some (.slice Aq nq cq) := HW2.out.1.cell 7
  have xz0 := HW2.out.1.frozen 0
  have xz1 := HW2.out.1.frozen 1
  have xz2 := HW2.out.1.frozen 2
  have xz3 := HW2.out.1.frozen 3
  have xz4 := HW2.out.1.frozen 4
  have xz5 := HW2.out.1.frozen 5
  have xz6 := HW2.out.1.frozen 6
  have xz7 := HW2.out.1.frozen 7
  have lS := HW2.out.1.lt
  have hkS := set25_blk HW2.out.1 (.int .i64 s.ses) (.int .i64 s.lim) (.int .i64 s.tmo) (.int .i64 s.base) (.int .i64 s.next) (.int .i64 s.cred) (.slice A2 ne c2) (.slice Aq2 nf cq2)
  have hkO := set25_other HW2.out.2.1 (g := w.heap.size) (by omega) (.int .i64 s.ses) (.int .i64 s.lim) (.int .i64 s.tmo) (.int .i64 s.base) (.int .i64 s.next) (.int .i64 s.cred) (.slice A2 ne c2) (.slice Aq2 nf cq2)
  have hT0 := set25_turn HW2.out.1 hbw (.int .i64 s.ses) (.int .i64 s.lim) (.int .i64 s.tmo) (.int .i64 s.base) (.int .i64 s.next) (.int .i64 s.cred) (.slice A2 ne c2) (.slice Aq2 nf cq2)
  have hb0 := set25_below HW2.out.2.2 (g := w.heap.size) (Nat.le_refl _) (.int .i64 s.ses) (.int .i64 s.lim) (.int .i64 s.tmo) (.int .i64 s.base) (.int .i64 s.next) (.int .i64 s.cred) (.slice A2 ne c2) (.slice Aq2 nf cq2)
  have hO0 := (hO2.turn hT0 (by simp) (oeR_ab (by simp))).low HW1.out.2.2.size
  have hQ0 := (hQ2.turn hT0 (by simp) (qeR_ab (by simp))).low HW1.out.2.2.size
  have HV0 := Lib.hid (And.intro hkS (And.intro hkO (And.intro hb0 (And.intro hO0 hQ0))))
  clear hkS hkO hT0 hb0 hO0 hQ0 hO2 hQ2
  go_upto_region 4 with fail
  generalize ((((((((w2.setCell ⟨w.heap.size, 0, none⟩ (.int .i64 s.ses)).setCell ⟨w.heap.size, 1, none⟩ (.int .i64 s.lim)).setCell ⟨w.heap.size, 2, none⟩ (.int .i64 s.tmo)).setCell ⟨w.heap.size, 3, none⟩ (.int .i64 s.base)).setCell ⟨w.heap.size, 4, none⟩ (.int .i64 s.next)).setCell ⟨w.heap.size, 5, none⟩ (.int .i64 s.cred)).setCell ⟨w.heap.size, 6, none⟩ (.slice A2 ne c2)).setCell ⟨w.heap.size, 7, none⟩ (.slice Aq2 nf cq2)) = V at *
  clear xc0 xc1 xc2 xc3 xc4 xc5 xc6 xc7 xz0 xz1 xz2 xz3 xz4 xz5 xz6 xz7 lS
  have hkL := Blk.new V 48 #[.slice none 0 0]
  have hbL : Below V.heap.size V (V.alloc (.cells #[.slice none 0 0] 48)) := (Below.refl _ V).alloc (Nat.le_refl _) _
  have HVL := Lib.hid (And.intro (HV0.out.1.below hbL HV0.out.1.lt) (And.intro (HV0.out.2.1.below hbL HV0.out.2.1.lt) (And.intro (HV0.out.2.2.1.trans (hbL.mono HV0.out.2.2.1.size)) (And.intro (HV0.out.2.2.2.1.up hbL (oeR_ab (by simp))) (And.intro (HV0.out.2.2.2.2.up hbL (qeR_ab (by simp))) hkL)))))
  have hLL : w.heap.size + 1 < V.heap.size := HV0.out.2.1.lt
  clear hkL hbL
  go_wp2_with fail
  obtain ⟨L, hL⟩ : ∃ x, x = V.heap.size := ⟨_, rfl⟩
  rw [← hL] at HVL hLL ⊢
  clear hL HV0
  generalize (V.alloc (.cells #[.slice none 0 0] 48)) = V1 at *
  refine (due_any now (w.heap.size) V1).mono ?_
  rintro e w3 ⟨⟨p1, p2, p3, p4, rfl, hc1, hc2, hc3, hc4⟩, hb3⟩
  have hdue : DueI (w.heap.size) (w.heap.size + 1) p1 p2 p3 p4 base (w.heap.size) now s (.slice A2 ne c2) (.slice Aq2 nf cq2) es qs w3 :=
    ⟨hc1, hc2, hc3, hc4, HVL.out.2.1.below hb3 HVL.out.2.1.lt, HVL.out.1.below hb3 HVL.out.1.lt, HVL.out.2.2.2.1.up hb3 (oeR_ab (by simp)), HQ.out.1, (HVL.out.2.2.2.2.1.up hb3 (qeR_ab (by simp))).vec, HQ.out.2, fun g e => own_block_ge HVL.out.2.2.2.2.1.own g e⟩
  have hbw3 := HVL.out.2.2.1.trans (hb3.mono HVL.out.2.2.1.size)
  have hL3 := HVL.out.2.2.2.2.2.below hb3 HVL.out.2.2.2.2.2.lt
  have HS := Lib.hid (due3_seq 3 (by omega) (w.heap.size) (w.heap.size + 1) p1 p2 p3 p4 base (w.heap.size) now s _ _ es qs w3 HE0.out HN.out hbw (Nat.le_refl _) (by omega) hdue)
  have HI0 : Hid (PoI w base (w.heap.size) L [] w3) := ⟨⟨_, hL3, Own1.nil⟩, hbw3.size, hbw3⟩
  have HB3 := Lib.hid hbw3
  clear hdue hbw3 hL3 hc1 hc2 hc3 hc4 hb3
  go_wp2_with fail
  refine (wpIn_wide (n := 4)).1 ?_
  refine wpIn_rangeFunc_T (w0 := w3) rfl (by omega) (gf := 79) (lb := #[.pointer (some ⟨p1, 0, none⟩), .pointer (some ⟨p2, 0, none⟩), .pointer (some ⟨p3, 0, none⟩), .pointer (some ⟨p4, 0, none⟩)]) rfl trivial enters79 HS.out (Below.refl _ _) HB3.out.size (fun _ => rfl)
    (PoI w base (w.heap.size) L) (fun xs A C h hT => h.turnW hT (by simp) (by simp) (by simp) (by simp) hbw) HI0.out ?round ?done
  case done =>
    rintro D xs Wd W' hD ⟨vo7, vq7, es7, qs7, hd7, hxs⟩ hI hTW hK
    have hd8 := hd7.turnW (hTW.mono (by simp)) hbw
    have hI8 := hI.turnW hTW (by simp) (by simp) (by simp) (by simp) hbw
    have hbel := hI8.bel
    clear hd7 hI hTW
    obtain ⟨⟨vL, hkL, hOL⟩, hsz2, -⟩ := hI8
    obtain ⟨A9, c9, rfl, -, -⟩ := hOL.vform
    obtain ⟨A7, c7, rfl, -, -⟩ := hd8.own.vform
    obtain ⟨A8, c8, rfl, -, -, -⟩ := hd8.vec.val
    obtain ⟨m, hm⟩ : ∃ m, (pollS s now).1 = m := ⟨_, rfl⟩
    rw [hm] at hd8
    have HMX := Lib.hid (And.intro hm hxs)
    clear hm hxs
    have HD8 := Lib.hid (And.intro hd8 (And.intro hkL (And.intro hOL (And.intro hsz2 (And.intro hbel hK)))))
    have hblk := hd8.blk
    have hrb := hd8.rb
    unfold snC at hblk
    unfold Z8A at hrb
    have xc0 : W'.cell? ⟨w.heap.size, 0, none⟩ = some (.int .i64 m.ses) := hblk.cell 0
    have xc1 : W'.cell? ⟨w.heap.size, 1, none⟩ = some (.int .i64 m.lim) := hblk.cell 1
    have xc2 : W'.cell? ⟨w.heap.size, 2, none⟩ = some (.int .i64 m.tmo) := hblk.cell 2
    have xc3 : W'.cell? ⟨w.heap.size, 3, none⟩ = some (.int .i64 m.base) := hblk.cell 3
    have xc4 : W'.cell? ⟨w.heap.size, 4, none⟩ = some (.int .i64 m.next) := hblk.cell 4
    have xc5 : W'.cell? ⟨w.heap.size, 5, none⟩ = some (.int .i64 m.cred) := hblk.cell 5
    have xc6 : W'.cell? ⟨w.heap.size, 6, none⟩ = some (.slice A7 es7.length c7) := hblk.cell 6
    have xc7 : W'.cell? ⟨w.heap.size, 7, none⟩ = some (.slice A8 qs7.length c8) := hblk.cell 7
    have xd0 : W'.cell? ⟨w.heap.size + 1, 0, none⟩ = some (.int .i64 0) := hrb.cell 0
    have xd1 : W'.cell? ⟨w.heap.size + 1, 1, none⟩ = some (.int .i64 0) := hrb.cell 1
    have xd2 : W'.cell? ⟨w.heap.size + 1, 2, none⟩ = some (.int .i64 0) := hrb.cell 2
    have xd3 : W'.cell? ⟨w.heap.size + 1, 3, none⟩ = some (.int .i64 0) := hrb.cell 3
    have xd4 : W'.cell? ⟨w.heap.size + 1, 4, none⟩ = some (.int .i64 0) := hrb.cell 4
    have xd5 : W'.cell? ⟨w.heap.size + 1, 5, none⟩ = some (.int .i64 0) := hrb.cell 5
    have xd6 : W'.cell? ⟨w.heap.size + 1, 6, none⟩ = some (.slice none 0 0) := hrb.cell 6
    have xd7 : W'.cell? ⟨w.heap.size + 1, 7, none⟩ = some (.slice none 0 0) := hrb.cell 7
    have xy0 := hrb.frozen 0
    have xy1 := hrb.frozen 1
    have xy2 := hrb.frozen 2
    have xy3 := hrb.frozen 3
    have xy4 := hrb.frozen 4
    have xy5 := hrb.frozen 5
    have xy6 := hrb.frozen 6
    have xy7 := hrb.frozen 7
    have lS := hblk.lt
    have lO := hrb.lt
    have xl : W'.cell? ⟨L, 0, none⟩ = some (.slice A9 xs.length c9) := hkL.cell 0
    clear hd8 hkL hOL hsz2 hbel hK hblk hrb
    gi_wp2
    go_upto_region 8 with fail
    refine wp_region_lexP [(0, 1), (1, 1), (2, 0), (3, 1)] [] (fun w9 => w9.cell? ⟨w.heap.size, 0, none⟩ = some (.int .i64 m.ses) ∧ w9.cell? ⟨w.heap.size, 1, none⟩ = some (.int .i64 m.lim) ∧ w9.cell? ⟨w.heap.size, 2, none⟩ = some (.int .i64 m.tmo) ∧ w9.cell? ⟨w.heap.size, 3, none⟩ = some (.int .i64 m.base) ∧ w9.cell? ⟨w.heap.size, 4, none⟩ = some (.int .i64 m.next) ∧ w9.cell? ⟨w.heap.size, 5, none⟩ = some (.int .i64 m.cred) ∧ w9.cell? ⟨w.heap.size, 6, none⟩ = some (.slice A7 es7.length c7) ∧ w9.cell? ⟨w.heap.size, 7, none⟩ = some (.slice A8 qs7.length c8) ∧ w9.cell? ⟨L, 0, none⟩ = some (.slice A9 xs.length c9)) (by kernel_rfl) (by kernel_rfl) (by kernel_rfl) (by kernel_rfl) (by kernel_rfl) ⟨xc0, xc1, xc2, xc3, xc4, xc5, xc6, xc7, xl⟩ ?_
    repeat (refine lexP_read rfl (by rfl) (by rfl) (by intro w9 hS9; (try dsimp only at hS9); go_simp <;> with_reducible rfl) ?_; (try simp only [Act.put, List.getElem_toArray, List.getElem_cons_succ, List.getElem_cons_zero, List.setIfInBounds_toArray, List.set_cons_zero, List.set_cons_succ]))
    refine lexP_eff rfl (fun _ => trivial) ?_
    go_simp
    (try simp only [Act.put, List.getElem_toArray, List.getElem_cons_succ, List.getElem_cons_zero, List.setIfInBounds_toArray, List.set_cons_zero, List.set_cons_succ])
    repeat (refine lexP_read rfl (by rfl) (by rfl) (by intro w9 hS9; (try dsimp only at hS9); go_simp <;> with_reducible rfl) ?_; (try simp only [Act.put, List.getElem_toArray, List.getElem_cons_succ, List.getElem_cons_zero, List.setIfInBounds_toArray, List.set_cons_zero, List.set_cons_succ]))
    refine lexP_nil (panQ_normal ?_)
    have hrb2 : Blk W' (w.heap.size + 1) 25 #[.int .i64 0, .int .i64 0, .int .i64 0, .int .i64 0, .int .i64 0, .int .i64 0, .slice none 0 0, .slice none 0 0] := HD8.out.1.rb
    have hkF := (set25_blk hrb2 (.int .i64 m.ses) (.int .i64 m.lim) (.int .i64 m.tmo) (.int .i64 m.base) (.int .i64 m.next) (.int .i64 m.cred) (.slice A7 es7.length c7) (.slice A8 qs7.length c8)).drew
    have hTF := (set25_turn hrb2 (base := w.heap.size) (by omega) (.int .i64 m.ses) (.int .i64 m.lim) (.int .i64 m.tmo) (.int .i64 m.base) (.int .i64 m.next) (.int .i64 m.cred) (.slice A7 es7.length c7) (.slice A8 qs7.length c8)).drew
    have hbF := (set25_below HD8.out.2.2.2.2.1 (g := w.heap.size + 1) (by omega) (.int .i64 m.ses) (.int .i64 m.lim) (.int .i64 m.tmo) (.int .i64 m.base) (.int .i64 m.next) (.int .i64 m.cred) (.slice A7 es7.length c7) (.slice A8 qs7.length c8)).drew
    have HFX := Lib.hid (And.intro hkF (And.intro hTF hbF))
    clear hrb2 hkF hTF hbF
    go_wp2_with fail
    generalize ((((((((W'.setCell ⟨w.heap.size + 1, 0, none⟩ (.int .i64 m.ses)).setCell ⟨w.heap.size + 1, 1, none⟩ (.int .i64 m.lim)).setCell ⟨w.heap.size + 1, 2, none⟩ (.int .i64 m.tmo)).setCell ⟨w.heap.size + 1, 3, none⟩ (.int .i64 m.base)).setCell ⟨w.heap.size + 1, 4, none⟩ (.int .i64 m.next)).setCell ⟨w.heap.size + 1, 5, none⟩ (.int .i64 m.cred)).setCell ⟨w.heap.size + 1, 6, none⟩ (.slice A7 es7.length c7)).setCell ⟨w.heap.size + 1, 7, none⟩ (.slice A8 qs7.length c8)).drew = X at *
    have hK9 : X.heap[D]? = some (.deferred (some [])) := HFX.out.2.1.block D _ HD8.out.2.2.2.2.2 (fun t cs _ e => by cases e)
    have hDb : w.heap.size ≤ D := Nat.le_trans HB3.out.size hD
    have hTP : TurnW (w.heap.size) [25] W' (X.putObj D (.deferred none)) := HFX.out.2.1.w.put hDb hK9 rfl _
    have hTP0 : TurnW (w.heap.size) [] X (X.putObj D (.deferred none)) := (TurnW.refl _ _ _).put hDb hK9 rfl _
    refine ⟨by simp, .inl ⟨_, _, rfl, run_takeDeferred hK9, ?_⟩⟩
    refine ⟨_, results_cell_tmp (t := 25) rfl _ _ (w.heap.size + 1) _ _ rfl (HFX.out.1.turnW hTP0 (by simp)) Try.underlying25 rfl (by kernel_rfl), ?_⟩
    refine ⟨⟨_, _, rfl, ?_, ?_, .inr (Fr.freshQ_of HD8.out.1.fr)⟩, ?_⟩
    · rw [HMX.out.1]
      exact ⟨_, _, rfl, ⟨es7, (HD8.out.1.own.vec.turnW (hTP.base hbw) (by simp) (oeR_abW (by simp))), HD8.out.1.om⟩, ⟨qs7, (HD8.out.1.vec.turnW (hTP.base hbw) (by simp) (qeR_abW (by simp))), HD8.out.1.qm⟩⟩
    · exact ⟨xs, (HD8.out.2.2.1.vec.turnW (hTP.base hbw) (by simp) (keR_abW (by simp) (by simp))), HMX.out.2⟩
    · exact HFX.out.2.2.trans ⟨hTP0.os, hTP0.tape, hTP0.output, hTP0.size, fun k hk => hTP0.low k hk (Nat.lt_of_lt_of_le hk HFX.out.2.2.size)⟩
  case round =>
    rintro lf pre x W4 hI hR hsz hlen
    obtain ⟨kind, ses, seq, ack, cred, vs, sel, Ap, cp, pp⟩ := x
    have HR := Lib.hid hR
    have hX2 : XsV W4 base sel vs := hR.1
    clear hR
    obtain ⟨As, cs, rfl, -, -⟩ := XsV.form hX2
    clear hX2
    have HI := Lib.hid hI
    clear hI
    dsimp only [encK]
    have hb4 : Below W4.heap.size W4 (W4.alloc (.cells #[.int .i64 kind, .int .i64 ses, .int .i64 seq, .int .i64 ack, .int .i64 cred, .slice As sel.length cs, .slice Ap pp.length cp] 55)) := (Below.refl _ W4).alloc (Nat.le_refl _) _
    have hk4 := Blk.new W4 55 #[.int .i64 kind, .int .i64 ses, .int .i64 seq, .int .i64 ack, .int .i64 cred, .slice As sel.length cs, .slice Ap pp.length cp]
    have H4 := Lib.hid (And.intro hb4 hk4)
    clear hb4 hk4
    gi_wp2
    refine ⟨H4.out.1, ?_⟩
    intro V hTV hsV
    have hxV := H4.out.2.turnW hTV (by simp)
    have hIV := (HI.out.turnW (Below.w (T := []) H4.out.1) (by simp) (by simp) (by simp) (by simp) hbw).turnW hTV (by simp) (by simp) (by simp) (by simp) hbw
    have hRV := keR_abW (T := []) (by simp) (by simp) _ _ _ _ (((Below.w H4.out.1).trans hTV).base hbw) HR.out
    clear hTV
    obtain ⟨⟨vL, hkL, hOL⟩, hsz2, hbelV⟩ := hIV
    have HBV := Lib.hid hbelV
    clear hbelV
    obtain ⟨AL, cL, rfl, -, -⟩ := hOL.vform
    have hbV : Below V.heap.size V (V.alloc (.cells #[.int .i64 kind, .int .i64 ses, .int .i64 seq, .int .i64 ack, .int .i64 cred, .slice As sel.length cs, .slice Ap pp.length cp] 55)) := (Below.refl _ V).alloc (Nat.le_refl _) _
    have hx0 : V.cell? ⟨W4.heap.size, 0, none⟩ = some (.int .i64 kind) := hxV.cell 0
    have hx1 : V.cell? ⟨W4.heap.size, 1, none⟩ = some (.int .i64 ses) := hxV.cell 1
    have hx2 : V.cell? ⟨W4.heap.size, 2, none⟩ = some (.int .i64 seq) := hxV.cell 2
    have hx3 : V.cell? ⟨W4.heap.size, 3, none⟩ = some (.int .i64 ack) := hxV.cell 3
    have hx4 : V.cell? ⟨W4.heap.size, 4, none⟩ = some (.int .i64 cred) := hxV.cell 4
    have hx5 : V.cell? ⟨W4.heap.size, 5, none⟩ = some (.slice As sel.length cs) := hxV.cell 5
    have hx6 : V.cell? ⟨W4.heap.size, 6, none⟩ = some (.slice Ap pp.length cp) := hxV.cell 6
    have hl0 : V.cell? ⟨L, 0, none⟩ = some (.slice AL pre.length cL) := hkL.cell 0
    have hlz := hkL.frozen 0
    have lX := hxV.lt
    have lL := hkL.lt
    have HQ4 := Lib.hid (And.intro (hOL.up hbV (keR_ab (by simp) (by simp))) (And.intro (keR_ab (T := []) (by simp) (by simp) _ _ _ _ (Turn.of_below hbV) hRV) (And.intro (Blk.new V 55 #[.int .i64 kind, .int .i64 ses, .int .i64 seq, .int .i64 ack, .int .i64 cred, .slice As sel.length cs, .slice Ap pp.length cp]) (And.intro (hkL.below hbV lL) (And.intro (show w.heap.size ≤ (V.alloc (.cells #[.int .i64 kind, .int .i64 ses, .int .i64 seq, .int .i64 ack, .int .i64 cred, .slice As sel.length cs, .slice Ap pp.length cp] 55)).heap.size by rw [World.size_alloc]; omega) hbV)))))
    have hE1 := encK_one { kind := kind, ses := ses, seq := seq, ack := ack, cred := cred, vs := .slice As sel.length cs, sel := sel, A := Ap, c := cp, p := pp } _ _ _ rfl
    clear hxV hRV hkL hOL hbV HI HR H4 hsV
    gi_wp2_with (gi_at_builtin; go_must (refine wpListIn_push (E := encK) (R := KeR) (t := 55) (sz := 7) (base := base) (low := w.heap.size) (l := pre) (b := { kind := kind, ses := ses, seq := seq, ack := ack, cred := cred, vs := .slice As sel.length cs, sel := sel, A := Ap, c := cp, p := pp }) rfl (.tmp 22) (.tmp 24) 48 rfl _ 88 Try.underlying48 info55 rfl (by omega) hE1 rfl rfl HQ4.out.1 hbw (keR_ab (by simp) (by simp)) HQ4.out.2.1 rfl HQ4.out.2.2.1 (by omega) (by omega) HQ4.out.2.2.2.2.1 ?_); intro v9 w9 hp9; have hk9 := HQ4.out.2.2.2.1.turn hp9.turn (by simp); have hl9 : w9.cell? ⟨L, 0, none⟩ = some (.slice AL pre.length cL) := hk9.cell 0; have hz9 := hk9.frozen 0; have l9 := hk9.lt; obtain ⟨A9, c9, hv9, _, _⟩ := hp9.own.vform; subst hv9; have HP9 := Lib.hid (And.intro hp9 hk9); clear hp9 hk9)
    have hTa : Turn (w.heap.size) [48, 55] V w9 := (Turn.of_below HQ4.out.2.2.2.2.2).trans (HP9.out.1.turn.mono (by simp))
    have hTb : Turn (w.heap.size) [48] w9 (w9.setCell ⟨L, 0, none⟩ (.slice A9 (pre.length + 1) c9)) := (Turn.refl _ _ _).set HP9.out.2 (by simp) (by omega) 0 _
    have hTc := hTa.trans (hTb.mono (by simp))
    have hl9 : (pre ++ [({ kind := kind, ses := ses, seq := seq, ack := ack, cred := cred, vs := Value.slice As sel.length cs, sel := sel, A := Ap, c := cp, p := pp } : Ke)]).length = pre.length + 1 := by simp
    refine ⟨⟨hTc.size, fun k o hk ho => hTc.block k o hk (fun t cs _ e => by subst e; cases ho)⟩, hTc.w, ⟨⟨_, HP9.out.2.set_ 0 _, ?_⟩, Nat.le_trans hsz2 hTc.size, HBV.out.trans (hTc.below hsz2)⟩⟩
    have h9 := HP9.out.1.own
    rw [hl9] at h9
    exact h9.turn (hTb.base hbw) (by simp) (keR_ab (by simp) (by simp))
theorem Fr.Poll_any (s : Sm) (now : Int) (v : Value) (base : Nat) (w : World) (hv : SnV w base s v) (hs : Small s) (hbw : base ≤ w.heap.size) :
    Calls Try.prog 25 #[v, .int .i64 now] w (PollF w base s now v) := callsIn_wide.1 (Poll_in s now v base w hv hs hbw)
theorem Fr.encK_one (e : Ke) (As : Option Addr) (n c : Nat) (h : e.vs = .slice As n c) : ∀ u ∈ encK e, u.oneCell' = true := Go.Proofs.Ytanmndhdhlmjgaa.encK_one e As n c h
structure PollR (w : World) (base : Nat) (s : Sm) (now : Int) (e : Ending) (w' : World) : Prop where
  ret : ∃ sv kv, e = .returned (.tuple #[sv, kv]) ∧ SnV w' base (pollS s now).1 sv ∧ KsV w' base (pollS s now).2 kv
  bel : Below w.heap.size w w'
theorem Poll_any (s : Sm) (now : Int) (v : Value) (base : Nat) (w : World) (hv : SnV w base s v) (hs : Small s) (hbw : base ≤ w.heap.size) :
    Calls Try.prog 25 #[v, .int .i64 now] w (PollR w base s now) := (Fr.Poll_any s now v base w hv hs hbw).mono fun e w' h =>
  ⟨by obtain ⟨sv, kv, h1, h2, h3, -⟩ := h.ret; exact ⟨sv, kv, h1, h2, h3⟩, h.bel⟩
end Go.Proofs.Ytanmndhdhlmjgaa
