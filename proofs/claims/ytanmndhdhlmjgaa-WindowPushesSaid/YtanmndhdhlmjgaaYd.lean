/- The walk of the reference's Poll. Conditions: small. -/
import Derived.Test.YtanmndhdhlmjgaaYc
import Derived.Test.YtanmndhdhlmjgaaXe
namespace Go.Proofs.Ytanmndhdhlmjgaa
open Go.RowKit
section
variable {α : Type} {E : α → List Value} {R : World → Nat → α → Prop} {t : TypeId} {sz : Nat} {base low : Nat} {l : List α} {b : α} {w : World} {v : Value} {P : Program}
theorem wpList_pushG {ops : Array Oper} {rest : List Oper} {o : Oper} {a : Act} {Q : Exit → Act → World → Prop} (hgd : o.guard = none) (s x : Operand) (st : TypeId) (ho : o.op = .call { callee := .builtin .append, args := #[s, x], argTypes := #[st, st] }) (z : Value) (bytes : Nat) (ht : P.underlying st = some (.slice t)) (hinf : (P.info? t).map (fun i => (i.zero, i.size, i.bytes)) = some (some z, sz, bytes)) (hzs : z.cells.size = sz) (hsz : 0 < sz) (hE1 : ∀ u ∈ E b, u.oneCell' = true) (hEl : (E b).length = sz)
    (hs : a.eval s = v) (h : Own1 E R t sz w base low v l) (hl : base ≤ low) (hR : Abides R [t]) (hrb : R w base b) {g c : Nat} (hx : a.eval x = .slice (some ⟨g, 0, none⟩) 1 c) (hg : Blk w g t (E b).toArray) (hn : l.length ≤ 1000000) (hby : bytes ≤ 100) (hlow : low ≤ w.heap.size)
    (hK : ∀ v' w', PushedG E R t sz base low l b w v v' w' → wpList P ops Q rest (a.put o.dst v') w') : wpList P ops Q (o :: rest) a w := by
  obtain ⟨v', w', hrun, hp⟩ := run_pushG (P := P) st o.type z bytes ht hinf hzs hsz hE1 hEl h hl hR hrb (c := c) hg hn hby hlow
  refine wpList_plain hgd fun K hK' => ?_
  unfold Oper.wp execOp
  simp only [ho, resolve, invoke, builtin, Sem.run_bind, Sem.run_pure, Result.andThen_ok, List.map_toArray, List.map_cons, List.map_nil, hs, hx, hrun]
  exact hK' _ _ (hK v' w' hp)
end
/-- the second loop's state -/
structure Pr2 (s : Sm) (w : World) (base : Nat) (now : Int) (m : Sm) (vo vq : Value) (es : List Oe) (qs : List Qe) (kv : Value) (xs : List Ke) (pre : List Pm) (W : World) : Prop where
  mo : DMo s m
  pr : PrI w base m vo vq es qs kv xs W
  xe : xs.map Ke.pm = A1 s now ++ pre
  few : xs.length ≤ 64 + m.out.length
  fil : fillS now { s with out := s.out.map (againO now s.tmo) } s.q.length = ((fillS now m m.q.length).1, pre ++ (fillS now m m.q.length).2)
set_option maxRecDepth 100000 in
set_option maxHeartbeats 8000000 in
set_option linter.unusedSimpArgs false in
theorem refPoll_any (s : Sm) (now : Int) (v : Value) (base : Nat) (w : World) (hv : SnV w base s v) (hs : Small s) (hbw : base ≤ w.heap.size) :
    Calls Try.prog 26 #[v, .int .i64 now] w (PollR w base s now) := by
  have HV := Lib.hid hv
  obtain ⟨vo, vq, rfl, hO, hQ⟩ := hv
  obtain ⟨Ao, co, rfl, -, -⟩ := hO.form
  obtain ⟨Aq, cq, rfl, -, -⟩ := hQ.form
  clear hO hQ
  obtain ⟨no, hno⟩ : ∃ n, s.out.length = n := ⟨_, rfl⟩
  obtain ⟨nq, hnq⟩ : ∃ n, s.q.length = n := ⟨_, rfl⟩
  rw [hno, hnq] at HV ⊢
  have HL := Lib.hid (And.intro hno (And.intro hnq hs))
  clear hno hnq hs
  unfold snC at HV ⊢
  have HW : Hid (Blk ((w.alloc (.cells #[.int .i64 s.ses, .int .i64 s.lim, .int .i64 s.tmo, .int .i64 s.base, .int .i64 s.next, .int .i64 s.cred, .slice Ao no co, .slice Aq nq cq] 25)).alloc (.cells #[.int .i64 0, .int .i64 0, .int .i64 0, .int .i64 0, .int .i64 0, .int .i64 0, .slice none 0 0, .slice none 0 0] 25)) (w.heap.size) 25 #[.int .i64 s.ses, .int .i64 s.lim, .int .i64 s.tmo, .int .i64 s.base, .int .i64 s.next, .int .i64 s.cred, .slice Ao no co, .slice Aq nq cq] ∧ Blk ((w.alloc (.cells #[.int .i64 s.ses, .int .i64 s.lim, .int .i64 s.tmo, .int .i64 s.base, .int .i64 s.next, .int .i64 s.cred, .slice Ao no co, .slice Aq nq cq] 25)).alloc (.cells #[.int .i64 0, .int .i64 0, .int .i64 0, .int .i64 0, .int .i64 0, .int .i64 0, .slice none 0 0, .slice none 0 0] 25)) (w.heap.size + 1) 25 #[.int .i64 0, .int .i64 0, .int .i64 0, .int .i64 0, .int .i64 0, .int .i64 0, .slice none 0 0, .slice none 0 0] ∧ Below w.heap.size w ((w.alloc (.cells #[.int .i64 s.ses, .int .i64 s.lim, .int .i64 s.tmo, .int .i64 s.base, .int .i64 s.next, .int .i64 s.cred, .slice Ao no co, .slice Aq nq cq] 25)).alloc (.cells #[.int .i64 0, .int .i64 0, .int .i64 0, .int .i64 0, .int .i64 0, .int .i64 0, .slice none 0 0, .slice none 0 0] 25))) := by
    have h1 := (Blk.new w 25 #[.int .i64 s.ses, .int .i64 s.lim, .int .i64 s.tmo, .int .i64 s.base, .int .i64 s.next, .int .i64 s.cred, .slice Ao no co, .slice Aq nq cq]).alloc (.cells #[.int .i64 0, .int .i64 0, .int .i64 0, .int .i64 0, .int .i64 0, .int .i64 0, .slice none 0 0, .slice none 0 0] 25)
    have h2 := Blk.new (w.alloc (.cells #[.int .i64 s.ses, .int .i64 s.lim, .int .i64 s.tmo, .int .i64 s.base, .int .i64 s.next, .int .i64 s.cred, .slice Ao no co, .slice Aq nq cq] 25)) 25 #[.int .i64 0, .int .i64 0, .int .i64 0, .int .i64 0, .int .i64 0, .int .i64 0, .slice none 0 0, .slice none 0 0]
    rw [World.size_alloc] at h2
    exact ⟨h1, h2, ((Below.refl _ w).alloc (Nat.le_refl _) _).alloc (by simp) _⟩
  obtain ⟨ev, hev⟩ : ∃ n, chkS s = n := ⟨_, rfl⟩
  have hc1 := refCheckSender_any s _ base ((w.alloc (.cells #[.int .i64 s.ses, .int .i64 s.lim, .int .i64 s.tmo, .int .i64 s.base, .int .i64 s.next, .int .i64 s.cred, .slice Ao no co, .slice Aq nq cq] 25)).alloc (.cells #[.int .i64 0, .int .i64 0, .int .i64 0, .int .i64 0, .int .i64 0, .int .i64 0, .slice none 0 0, .slice none 0 0] 25)) (HV.out.up HW.out.2.2) HL.out.2.2
  rw [hev] at hc1
  have HC1 := Lib.hid hc1
  have HE := Lib.hid hev
  clear hc1 hev
  go_enter Try.func26, Try.ntmps26
  go_wp2_with fail
  generalize ((w.alloc (.cells #[.int .i64 s.ses, .int .i64 s.lim, .int .i64 s.tmo, .int .i64 s.base, .int .i64 s.next, .int .i64 s.cred, .slice Ao no co, .slice Aq nq cq] 25)).alloc (.cells #[.int .i64 0, .int .i64 0, .int .i64 0, .int .i64 0, .int .i64 0, .int .i64 0, .slice none 0 0, .slice none 0 0] 25)) = W at *
  refine HC1.out.mono ?_
  clear HC1
  rintro e w1 ⟨rfl, hb1⟩
  have HW1 := Lib.hid (And.intro (HW.out.1.below hb1 HW.out.1.lt) (And.intro (HW.out.2.1.below hb1 HW.out.2.1.lt) (HW.out.2.2.trans (hb1.mono HW.out.2.2.size))))
  clear hb1
  have xc0 : w1.cell? ⟨w.heap.size, 0, none⟩ = some (.int .i64 s.ses) := HW1.out.1.cell 0
  have xc1 : w1.cell? ⟨w.heap.size, 1, none⟩ = some (.int .i64 s.lim) := HW1.out.1.cell 1
  have xc2 : w1.cell? ⟨w.heap.size, 2, none⟩ = some (.int .i64 s.tmo) := HW1.out.1.cell 2
  have xc3 : w1.cell? ⟨w.heap.size, 3, none⟩ = some (.int .i64 s.base) := HW1.out.1.cell 3
  have xc4 : w1.cell? ⟨w.heap.size, 4, none⟩ = some (.int .i64 s.next) := HW1.out.1.cell 4
  have xc5 : w1.cell? ⟨w.heap.size, 5, none⟩ = some (.int .i64 s.cred) := HW1.out.1.cell 5
  have xc6 : w1.cell? ⟨w.heap.size, 6, none⟩ = some (.slice Ao no co) := HW1.out.1.cell 6
  have xc7 : w1.cell? ⟨w.heap.size, 7, none⟩ = some (.slice Aq nq cq) := HW1.out.1.cell 7
  have xd0 : w1.cell? ⟨w.heap.size + 1, 0, none⟩ = some (.int .i64 0) := HW1.out.2.1.cell 0
  have xd1 : w1.cell? ⟨w.heap.size + 1, 1, none⟩ = some (.int .i64 0) := HW1.out.2.1.cell 1
  have xd2 : w1.cell? ⟨w.heap.size + 1, 2, none⟩ = some (.int .i64 0) := HW1.out.2.1.cell 2
  have xd3 : w1.cell? ⟨w.heap.size + 1, 3, none⟩ = some (.int .i64 0) := HW1.out.2.1.cell 3
  have xd4 : w1.cell? ⟨w.heap.size + 1, 4, none⟩ = some (.int .i64 0) := HW1.out.2.1.cell 4
  have xd5 : w1.cell? ⟨w.heap.size + 1, 5, none⟩ = some (.int .i64 0) := HW1.out.2.1.cell 5
  have xd6 : w1.cell? ⟨w.heap.size + 1, 6, none⟩ = some (.slice none 0 0) := HW1.out.2.1.cell 6
  have xd7 : w1.cell? ⟨w.heap.size + 1, 7, none⟩ = some (.slice none 0 0) := HW1.out.2.1.cell 7
  have xy0 := HW1.out.2.1.frozen 0
  have xy1 := HW1.out.2.1.frozen 1
  have xy2 := HW1.out.2.1.frozen 2
  have xy3 := HW1.out.2.1.frozen 3
  have xy4 := HW1.out.2.1.frozen 4
  have xy5 := HW1.out.2.1.frozen 5
  have xy6 := HW1.out.2.1.frozen 6
  have xy7 := HW1.out.2.1.frozen 7
  have xz0 := HW1.out.1.frozen 0
  have xz1 := HW1.out.1.frozen 1
  have xz2 := HW1.out.1.frozen 2
  have xz3 := HW1.out.1.frozen 3
  have xz4 := HW1.out.1.frozen 4
  have xz5 := HW1.out.1.frozen 5
  have xz6 := HW1.out.1.frozen 6
  have xz7 := HW1.out.1.frozen 7
  have lS := HW1.out.1.lt
  have lO := HW1.out.2.1.lt
  by_cases he : ev = 0
  rotate_left 1
  · have k0 : ((ev : Int) != 0) = true := by simpa using he
    have HE0 := Lib.hid he
    clear he
    have HM : Hid (pollS s now = (s, [])) := by show _ = _; unfold pollS; rw [if_pos (.inl (by rw [HE.out]; exact HE0.out))]
    have hkF := set25_blk HW1.out.2.1 (.int .i64 s.ses) (.int .i64 s.lim) (.int .i64 s.tmo) (.int .i64 s.base) (.int .i64 s.next) (.int .i64 s.cred) (.slice Ao no co) (.slice Aq nq cq)
    have hbF := set25_below HW1.out.2.2 (g := w.heap.size + 1) (by omega) (.int .i64 s.ses) (.int .i64 s.lim) (.int .i64 s.tmo) (.int .i64 s.base) (.int .i64 s.next) (.int .i64 s.cred) (.slice Ao no co) (.slice Aq nq cq)
    have HF := Lib.hid (And.intro hkF hbF)
    clear hkF hbF
    go_wp2_with fail
    refine bodyPost_ret (results_cell_tmp (t := 25) rfl _ _ (w.heap.size + 1) _ _ rfl HF.out.1 Try.underlying25 rfl (by kernel_rfl)) rfl ?_
    exact ⟨⟨_, _, rfl, by rw [HM.out]; exact HV.out.up HF.out.2, by rw [HM.out]; exact ksV_nil _ _⟩, HF.out.2⟩
  have k0 : ((ev : Int) != 0) = false := by simp [he]
  have HE0 : Hid (chkS s = 0) := by show _ = _; rw [HE.out, he]
  clear he
  by_cases hn : 0 ≤ now ∧ now ≤ 1073741824
  rotate_left 1
  · have HN := Lib.hid hn
    clear hn
    go_wp2_with fail
    refine (within_any now 0 1073741824 (decide_eq_false HN.out) _).mono ?_
    rintro e w2 ⟨rfl, rfl⟩
    have HM : Hid (pollS s now = (s, [])) := by show _ = _; unfold pollS; rw [if_pos (.inr HN.out)]
    have hkF := set25_blk HW1.out.2.1 (.int .i64 s.ses) (.int .i64 s.lim) (.int .i64 s.tmo) (.int .i64 s.base) (.int .i64 s.next) (.int .i64 s.cred) (.slice Ao no co) (.slice Aq nq cq)
    have hbF := set25_below HW1.out.2.2 (g := w.heap.size + 1) (by omega) (.int .i64 s.ses) (.int .i64 s.lim) (.int .i64 s.tmo) (.int .i64 s.base) (.int .i64 s.next) (.int .i64 s.cred) (.slice Ao no co) (.slice Aq nq cq)
    have HF := Lib.hid (And.intro hkF hbF)
    clear hkF hbF
    go_wp2_with fail
    refine bodyPost_ret (results_cell_tmp (t := 25) rfl _ _ (w.heap.size + 1) _ _ rfl HF.out.1 Try.underlying25 rfl (by kernel_rfl)) rfl ?_
    exact ⟨⟨_, _, rfl, by rw [HM.out]; exact HV.out.up HF.out.2, by rw [HM.out]; exact ksV_nil _ _⟩, HF.out.2⟩
  have HN := Lib.hid hn
  clear hn
  go_wp2_with fail
  refine (within_any now 0 1073741824 (decide_eq_true HN.out) _).mono ?_
  rintro e w2 ⟨rfl, rfl⟩
  have hc3 := refCopySender_any s _ base w1 (HV.out.up HW1.out.2.2) HL.out.2.2 (chkS_pay HE0.out).1 (chkS_pay HE0.out).2 (Nat.le_trans hbw HW1.out.2.2.size)
  unfold snC at hc3
  have HC3 := Lib.hid hc3
  clear hc3
  go_wp2_with fail
  refine HC3.out.mono ?_
  clear HC3
  rintro e w2 ⟨⟨vo2, vq2, es, qs, rfl, hO2, hom, hQ2, hqm⟩, hb1⟩
  clear xc0 xc1 xc2 xc3 xc4 xc5 xc6 xc7 xd0 xd1 xd2 xd3 xd4 xd5 xd6 xd7 xy0 xy1 xy2 xy3 xy4 xy5 xy6 xy7 xz0 xz1 xz2 xz3 xz4 xz5 xz6 xz7 lS lO
  have HW2 := Lib.hid (And.intro (HW1.out.1.below hb1 HW1.out.1.lt) (And.intro (HW1.out.2.1.below hb1 HW1.out.2.1.lt) (HW1.out.2.2.trans (hb1.mono HW1.out.2.2.size))))
  clear hb1
  obtain ⟨A2, c2, rfl, -, -⟩ := hO2.vform
  obtain ⟨Aq2, cq2, rfl, -, -⟩ := hQ2.vform
  unfold snC
  have xc0 : w2.cell? ⟨w.heap.size, 0, none⟩ = some (.int .i64 s.ses) := HW2.out.1.cell 0
  have xc1 : w2.cell? ⟨w.heap.size, 1, none⟩ = some (.int .i64 s.lim) := HW2.out.1.cell 1
  have xc2 : w2.cell? ⟨w.heap.size, 2, none⟩ = some (.int .i64 s.tmo) := HW2.out.1.cell 2
  have xc3 : w2.cell? ⟨w.heap.size, 3, none⟩ = some (.int .i64 s.base) := HW2.out.1.cell 3
  have xc4 : w2.cell? ⟨w.heap.size, 4, none⟩ = some (.int .i64 s.next) := HW2.out.1.cell 4
  have xc5 : w2.cell? ⟨w.heap.size, 5, none⟩ = some (.int .i64 s.cred) := HW2.out.1.cell 5
  have xc6 : w2.cell? ⟨w.heap.size, 6, none⟩ = some (.slice Ao no co) := HW2.out.1.cell 6
  have xc7 : w2.cell? ⟨w.heap.size, 7, none⟩ = some (.slice Aq nq cq) := HW2.out.1.cell 7
  have xz0 := HW2.out.1.frozen 0
  have xz1 := HW2.out.1.frozen 1
  have xz2 := HW2.out.1.frozen 2
  have xz3 := HW2.out.1.frozen 3
  have xz4 := HW2.out.1.frozen 4
  have xz5 := HW2.out.1.frozen 5
  have xz6 := HW2.out.1.frozen 6
  have xz7 := HW2.out.1.frozen 7
  have lS := HW2.out.1.lt
  have hkS := set25_blk HW2.out.1 (.int .i64 s.ses) (.int .i64 s.lim) (.int .i64 s.tmo) (.int .i64 s.base) (.int .i64 s.next) (.int .i64 s.cred) (.slice A2 es.length c2) (.slice Aq2 qs.length cq2)
  have hkO := set25_other HW2.out.2.1 (g := w.heap.size) (by omega) (.int .i64 s.ses) (.int .i64 s.lim) (.int .i64 s.tmo) (.int .i64 s.base) (.int .i64 s.next) (.int .i64 s.cred) (.slice A2 es.length c2) (.slice Aq2 qs.length cq2)
  have hT0 := set25_turn HW2.out.1 hbw (.int .i64 s.ses) (.int .i64 s.lim) (.int .i64 s.tmo) (.int .i64 s.base) (.int .i64 s.next) (.int .i64 s.cred) (.slice A2 es.length c2) (.slice Aq2 qs.length cq2)
  have hb0 := set25_below HW2.out.2.2 (g := w.heap.size) (Nat.le_refl _) (.int .i64 s.ses) (.int .i64 s.lim) (.int .i64 s.tmo) (.int .i64 s.base) (.int .i64 s.next) (.int .i64 s.cred) (.slice A2 es.length c2) (.slice Aq2 qs.length cq2)
  have hO0 := (hO2.turn hT0 (by simp) (oeR_ab (by simp))).low HW1.out.2.2.size
  have hQ0 := (hQ2.turn hT0 (by simp) (qeR_ab (by simp))).low HW1.out.2.2.size
  have HI0 : Hid (PrI w base s (.slice A2 es.length c2) (.slice Aq2 qs.length cq2) es qs (.slice none 0 0) [] ((((((((w2.setCell ⟨w.heap.size, 0, none⟩ (.int .i64 s.ses)).setCell ⟨w.heap.size, 1, none⟩ (.int .i64 s.lim)).setCell ⟨w.heap.size, 2, none⟩ (.int .i64 s.tmo)).setCell ⟨w.heap.size, 3, none⟩ (.int .i64 s.base)).setCell ⟨w.heap.size, 4, none⟩ (.int .i64 s.next)).setCell ⟨w.heap.size, 5, none⟩ (.int .i64 s.cred)).setCell ⟨w.heap.size, 6, none⟩ (.slice A2 es.length c2)).setCell ⟨w.heap.size, 7, none⟩ (.slice Aq2 qs.length cq2))) := ⟨hkS, hkO, hO0, hom, hQ0.vec, hqm, Own1.nil, hb0⟩
  clear hkS hkO hT0 hb0 hO0 hQ0 hO2 hQ2
  have hrg := chkS_rng HE0.out
  have hel : ∀ k (h : k < s.out.length), (0 ≤ s.out[k].time ∧ s.out[k].time ≤ 1073741824) ∧ (1 ≤ s.out[k].cnt ∧ s.out[k].cnt ≤ 1073741824) ∧ s.out[k].p.length ≤ 4096 := fun k h => by
    have h1 := outE_ok (outsE_at s.base s.out 0 hrg.outs k h)
    exact ⟨h1.2.2.2.1, h1.2.1, h1.2.2.2.2⟩
  have hle : es.length = s.out.length := by rw [← hom, List.length_map]
  have hno2 : es.length ≤ 64 := by have h1 := hrg.out; have h2 := hrg.lim; omega
  have b1 := hrg.tmo
  have b2 := HN.out
  have HG := Lib.hid (And.intro hrg (And.intro hel (And.intro hom (And.intro hqm hle))))
  clear hrg hel hom hqm hle
  go_upto_region 4 with fail
  generalize ((((((((w2.setCell ⟨w.heap.size, 0, none⟩ (.int .i64 s.ses)).setCell ⟨w.heap.size, 1, none⟩ (.int .i64 s.lim)).setCell ⟨w.heap.size, 2, none⟩ (.int .i64 s.tmo)).setCell ⟨w.heap.size, 3, none⟩ (.int .i64 s.base)).setCell ⟨w.heap.size, 4, none⟩ (.int .i64 s.next)).setCell ⟨w.heap.size, 5, none⟩ (.int .i64 s.cred)).setCell ⟨w.heap.size, 6, none⟩ (.slice A2 es.length c2)).setCell ⟨w.heap.size, 7, none⟩ (.slice Aq2 qs.length cq2)) = V at *
  clear xc0 xc1 xc2 xc3 xc4 xc5 xc6 xc7 xz0 xz1 xz2 xz3 xz4 xz5 xz6 xz7 lS
  obtain ⟨ne, hne⟩ : ∃ n, es.length = n := ⟨_, rfl⟩
  rw [hne] at HI0 hno2
  have HNE := Lib.hid hne
  clear hne
  go_wp2_with fail
  go_loopw [6, 7] (fun v6 v7 wr => ∃ (k : Nat) (kv : Value) (xs : List Ke), k ≤ ne ∧ v7 = .int .i64 k ∧ v6 = kv ∧ xs.map Ke.pm = (s.out.take k).flatMap (againP s.ses now s.tmo) ∧ PrI w base { s with out := (updE (againE now s.tmo) k es).map Oe.om } (.slice A2 ne c2) (.slice Aq2 qs.length cq2) (updE (againE now s.tmo) k es) qs kv xs wr) (fun _ v7 _ => ne - (intOf v7).toNat)
  case atStart => exact ⟨0, _, [], by omega, rfl, rfl, rfl, by rw [updE_zero, HG.out.2.2.1]; exact HI0.out⟩
  case round =>
    obtain ⟨k, kv, xs, hk, rfl, rfl, hxs, hI⟩ := hrel
    have HI := Lib.hid hI
    have HX := Lib.hid hxs
    clear hI hxs HI0
    obtain ⟨Ak, ck, rfl, -, -⟩ := HI.out.ks.vform
    have xb2 : wr.cell? ⟨w.heap.size, 2, none⟩ = some (.int .i64 s.tmo) := HI.out.b.cell 2
    have xb6 : wr.cell? ⟨w.heap.size, 6, none⟩ = some (.slice A2 ne c2) := HI.out.b.cell 6
    have lB := HI.out.b.lt
    by_cases hlt : k < ne
    · have ik : (k : Int) < ne := by omega
      have hke : k < es.length := by rw [HNE.out]; exact hlt
      have hks : k < s.out.length := by rw [← HG.out.2.2.2.2]; exact hke
      have hkl : k < (updE (againE now s.tmo) k es).length := by rw [updE_len]; exact hke
      have hat := updE_at (againE now s.tmo) es hke hkl
      obtain ⟨g, cc, cur, hv, hg, hbl, _, _, hcell⟩ := HI.out.eo.form encO_len (by omega)
      injection hv with hA hn2 hc
      subst hA hc
      clear hn2
      have hcell := hcell k hkl
      rw [hat] at hcell
      obtain ⟨d0, z0⟩ := hcell 0 _ rfl
      obtain ⟨d1, z1⟩ := hcell 1 _ rfl
      obtain ⟨d2, z2⟩ := hcell 2 _ rfl
      obtain ⟨d3, z3⟩ := hcell 3 _ rfl
      obtain ⟨d4, z4⟩ := hcell 4 _ rfl
      rw [Nat.add_zero] at d0 z0
      have hgl := hbl.lt
      have hee : es[k].om = s.out[k] := by
        have h2 : s.out[k]? = (es.map Oe.om)[k]? := by rw [HG.out.2.2.1]
        rw [List.getElem?_map, List.getElem?_eq_getElem hke, List.getElem?_eq_getElem hks] at h2
        injection h2 with h2
        exact h2.symm
      have hb := HG.out.2.1 k hks
      rw [← hee] at hb
      have hfs := flat_succ (againP s.ses now s.tmo) s.out k hks
      rw [← hee] at hfs
      have hER := HI.out.eo.el _ (List.getElem_mem hkl)
      rw [hat] at hER
      obtain ⟨E, hE⟩ : ∃ E, E = es[k] := ⟨_, rfl⟩
      rw [← hE] at d0 d1 d2 d3 d4 hb hfs hER
      have HEE := Lib.hid (And.intro hE (And.intro hke (And.intro hfs (And.intro hER hb))))
      have ht : 0 ≤ E.time ∧ E.time ≤ 1073741824 := hb.1
      have hct : 1 ≤ E.cnt ∧ E.cnt ≤ 1073741824 := hb.2.1
      clear hE hfs hER hb hcell hat hbl hee hkl hks
      have kw : IntKind.i64.wrap (now - E.time) = now - E.time := by rw [IntWalk.i64_in _ (by omega)]
      have kw2 : IntKind.i64.wrap (E.cnt + 1) = E.cnt + 1 := by rw [IntWalk.i64_in _ (by omega)]
      have hbX : Below wr.heap.size wr (wr.alloc (.cells #[.int .i64 E.seq, .int .i64 E.time, .int .i64 E.cnt, .bool E.ak, .slice E.A E.p.length E.c] 82)) := (Below.refl _ wr).alloc (Nat.le_refl _) _
      have HX1 := Lib.hid (HI.out.below hbX)
      clear hbX
      obtain ⟨ak, hak⟩ : ∃ b, E.ak = b := ⟨_, rfl⟩
      have HAK := Lib.hid hak
      rw [hak] at d3
      clear hak
      by_cases hag : again now s.tmo E.om = true
      rotate_left 1
      · have hgF : again now s.tmo E.om = false := by simpa using hag
        have HN1 : Hid (PrI w base { s with out := (updE (againE now s.tmo) (k + 1) es).map Oe.om } (.slice (some ⟨g, 0, none⟩) ne c2) (.slice Aq2 qs.length cq2) (updE (againE now s.tmo) (k + 1) es) qs (.slice Ak xs.length ck) xs (wr.alloc (.cells #[.int .i64 E.seq, .int .i64 E.time, .int .i64 E.cnt, .bool ak, .slice E.A E.p.length E.c] 82))) := by
          show PrI _ _ _ _ _ _ _ _ _ _
          rw [updE_same _ _ HEE.out.2.1 (by rw [← HEE.out.1]; unfold againE; rw [if_neg hag])]
          rw [← HAK.out]
          exact HX1.out
        have HN2 : Hid (xs.map Ke.pm = (s.out.take (k + 1)).flatMap (againP s.ses now s.tmo)) := by
          show _ = _
          rw [HEE.out.2.2.1, againP_false hgF, List.append_nil]
          exact HX.out
        have hgu : again now s.tmo E.om = (!ak && decide (s.tmo ≤ now - E.time) && decide (E.cnt < 1073741824)) := by unfold again; rw [← HAK.out]; rfl
        rw [hgF] at hgu
        have HGU := Lib.hid hgu
        clear hgF hag hgu HX1
        cases ak with
        | true =>
          go_wp2_with fail
          go_roundw
          case rel => exact ⟨k + 1, _, xs, by omega, by go_num, rfl, HN2.out, HN1.out⟩
          case measure => simp [intOf]; omega
        | false =>
          by_cases h1 : s.tmo ≤ now - E.time
          rotate_left 1
          · have k1 : decide (s.tmo ≤ now - E.time) = false := decide_eq_false h1
            clear h1
            go_wp2_with fail
            go_roundw
            case rel => exact ⟨k + 1, _, xs, by omega, by go_num, rfl, HN2.out, HN1.out⟩
            case measure => simp [intOf]; omega
          have k1 : decide (s.tmo ≤ now - E.time) = true := decide_eq_true h1
          have k2 : decide (E.cnt < 1073741824) = false := by have h := HGU.out; rw [k1] at h; simpa using h
          clear h1
          go_wp2_with fail
          go_roundw
          case rel => exact ⟨k + 1, _, xs, by omega, by go_num, rfl, HN2.out, HN1.out⟩
          case measure => simp [intOf]; omega
      · have hgu : again now s.tmo E.om = (!ak && decide (s.tmo ≤ now - E.time) && decide (E.cnt < 1073741824)) := by unfold again; rw [← HAK.out]; rfl
        rw [hag] at hgu
        replace hgu := hgu.symm
        simp only [Bool.and_eq_true, Bool.not_eq_true', decide_eq_true_eq] at hgu
        obtain ⟨⟨rfl, h1⟩, h2⟩ := hgu
        have k1 : decide (s.tmo ≤ now - E.time) = true := decide_eq_true h1
        have k2 : decide (E.cnt < 1073741824) = true := decide_eq_true h2
        obtain ⟨F, hF⟩ : ∃ F : Oe, F = ⟨E.seq, now, E.cnt + 1, false, E.A, E.c, E.p⟩ := ⟨_, rfl⟩
        have hFE : againE now s.tmo es[k] = F := by
          rw [← HEE.out.1, hF]
          unfold againE
          rw [if_pos hag, ← HAK.out]
        have HAG := Lib.hid hag
        clear h1 h2 hag HX1
        have hFR : OeR wr base F := by rw [hF]; exact HEE.out.2.2.2.1
        have hP := HI.out.put (k := k) hbw (by rw [updE_len]; exact HNE.out) (by rw [updE_len]; exact HEE.out.2.1) hg F hFR
        have hR5 := hP.eo.el F (by rw [List.mem_iff_getElem]; exact ⟨k, by rw [List.length_set, updE_len]; exact HEE.out.2.1, by rw [List.getElem_set_self]⟩)
        rw [← hFE, updE_set _ _ HEE.out.2.1, hFE] at hP
        rw [hF] at hP hR5
        dsimp only at hP hR5
        have hbX : Below (((((wr.setCell ⟨g, k * 5, none⟩ (.int .i64 E.seq)).setCell ⟨g, k * 5 + 1, none⟩ (.int .i64 now)).setCell ⟨g, k * 5 + 2, none⟩ (.int .i64 (E.cnt + 1))).setCell ⟨g, k * 5 + 3, none⟩ (.bool false)).setCell ⟨g, k * 5 + 4, none⟩ (.slice E.A E.p.length E.c)).heap.size (((((wr.setCell ⟨g, k * 5, none⟩ (.int .i64 E.seq)).setCell ⟨g, k * 5 + 1, none⟩ (.int .i64 now)).setCell ⟨g, k * 5 + 2, none⟩ (.int .i64 (E.cnt + 1))).setCell ⟨g, k * 5 + 3, none⟩ (.bool false)).setCell ⟨g, k * 5 + 4, none⟩ (.slice E.A E.p.length E.c)) ((((((wr.setCell ⟨g, k * 5, none⟩ (.int .i64 E.seq)).setCell ⟨g, k * 5 + 1, none⟩ (.int .i64 now)).setCell ⟨g, k * 5 + 2, none⟩ (.int .i64 (E.cnt + 1))).setCell ⟨g, k * 5 + 3, none⟩ (.bool false)).setCell ⟨g, k * 5 + 4, none⟩ (.slice E.A E.p.length E.c)).alloc (.cells #[.int .i64 E.seq, .int .i64 now, .int .i64 (E.cnt + 1), .bool false, .slice E.A E.p.length E.c] 82)) := (Below.refl _ _).alloc (Nat.le_refl _) _
        have hkX : Blk ((((((wr.setCell ⟨g, k * 5, none⟩ (.int .i64 E.seq)).setCell ⟨g, k * 5 + 1, none⟩ (.int .i64 now)).setCell ⟨g, k * 5 + 2, none⟩ (.int .i64 (E.cnt + 1))).setCell ⟨g, k * 5 + 3, none⟩ (.bool false)).setCell ⟨g, k * 5 + 4, none⟩ (.slice E.A E.p.length E.c)).alloc (.cells #[.int .i64 E.seq, .int .i64 now, .int .i64 (E.cnt + 1), .bool false, .slice E.A E.p.length E.c] 82)) wr.heap.size 82 #[.int .i64 E.seq, .int .i64 now, .int .i64 (E.cnt + 1), .bool false, .slice E.A E.p.length E.c] := by
          have h := Blk.new (((((wr.setCell ⟨g, k * 5, none⟩ (.int .i64 E.seq)).setCell ⟨g, k * 5 + 1, none⟩ (.int .i64 now)).setCell ⟨g, k * 5 + 2, none⟩ (.int .i64 (E.cnt + 1))).setCell ⟨g, k * 5 + 3, none⟩ (.bool false)).setCell ⟨g, k * 5 + 4, none⟩ (.slice E.A E.p.length E.c)) 82 #[.int .i64 E.seq, .int .i64 now, .int .i64 (E.cnt + 1), .bool false, .slice E.A E.p.length E.c]
          simpa only [World.size_setCell] using h
        have hP2 := hP.below hbX
        have hR6 : OeR ((((((wr.setCell ⟨g, k * 5, none⟩ (.int .i64 E.seq)).setCell ⟨g, k * 5 + 1, none⟩ (.int .i64 now)).setCell ⟨g, k * 5 + 2, none⟩ (.int .i64 (E.cnt + 1))).setCell ⟨g, k * 5 + 3, none⟩ (.bool false)).setCell ⟨g, k * 5 + 4, none⟩ (.slice E.A E.p.length E.c)).alloc (.cells #[.int .i64 E.seq, .int .i64 now, .int .i64 (E.cnt + 1), .bool false, .slice E.A E.p.length E.c] 82)) base ⟨E.seq, now, E.cnt + 1, false, E.A, E.c, E.p⟩ := oeR_ab (T := []) (by simp) _ _ _ _ (Turn.of_below hbX) hR5
        have HP4 := Lib.hid (And.intro hP2 (And.intro hkX (And.intro hR6 (And.intro hFE hF))))
        have lX4 : wr.heap.size < ((((((wr.setCell ⟨g, k * 5, none⟩ (.int .i64 E.seq)).setCell ⟨g, k * 5 + 1, none⟩ (.int .i64 now)).setCell ⟨g, k * 5 + 2, none⟩ (.int .i64 (E.cnt + 1))).setCell ⟨g, k * 5 + 3, none⟩ (.bool false)).setCell ⟨g, k * 5 + 4, none⟩ (.slice E.A E.p.length E.c)).alloc (.cells #[.int .i64 E.seq, .int .i64 now, .int .i64 (E.cnt + 1), .bool false, .slice E.A E.p.length E.c] 82)).heap.size := hkX.lt
        clear hP hP2 hFR hbX hkX hFE hF hR5 hR6
        go_upto_region 12 with fail
        obtain ⟨X, hXe⟩ : ∃ x, x = wr.heap.size := ⟨_, rfl⟩
        rw [← hXe] at HP4 lX4 ⊢
        clear hXe
        generalize ((((((wr.setCell ⟨g, k * 5, none⟩ (.int .i64 E.seq)).setCell ⟨g, k * 5 + 1, none⟩ (.int .i64 now)).setCell ⟨g, k * 5 + 2, none⟩ (.int .i64 (E.cnt + 1))).setCell ⟨g, k * 5 + 3, none⟩ (.bool false)).setCell ⟨g, k * 5 + 4, none⟩ (.slice E.A E.p.length E.c)).alloc (.cells #[.int .i64 E.seq, .int .i64 now, .int .i64 (E.cnt + 1), .bool false, .slice E.A E.p.length E.c] 82)) = V4 at *
        clear d0 d1 d2 d3 d4 z0 z1 z2 z3 z4 hgl xb2 xb6 lB kw kw2 k1 k2
        have x0 : V4.cell? ⟨X, 0, none⟩ = some (.int .i64 E.seq) := HP4.out.2.1.cell 0
        have x1 : V4.cell? ⟨X, 1, none⟩ = some (.int .i64 now) := HP4.out.2.1.cell 1
        have x2 : V4.cell? ⟨X, 2, none⟩ = some (.int .i64 (E.cnt + 1)) := HP4.out.2.1.cell 2
        have x3 : V4.cell? ⟨X, 3, none⟩ = some (.bool false) := HP4.out.2.1.cell 3
        have x4 : V4.cell? ⟨X, 4, none⟩ = some (.slice E.A E.p.length E.c) := HP4.out.2.1.cell 4
        have xb0 : V4.cell? ⟨w.heap.size, 0, none⟩ = some (.int .i64 s.ses) := HP4.out.1.b.cell 0
        have hcall := refdata_any s.ses ⟨E.seq, now, E.cnt + 1, false, E.A, E.c, E.p⟩ base V4 HP4.out.2.2.1 (Nat.le_trans HEE.out.2.2.2.2.2.2 (by omega)) (Nat.le_trans hbw HP4.out.1.bel.size)
        have HCC := Lib.hid hcall
        clear hcall
        go_wp2_with fail
        refine HCC.out.mono ?_
        clear HCC
        rintro z w6 ⟨⟨pv, rfl, hpv⟩, hb6⟩
        have H6 := Lib.hid (HP4.out.1.below hb6)
        obtain ⟨vs, vp, rfl, hXs, A6, c6, rfl, hB6⟩ := hpv
        obtain ⟨As, cs, rfl, -, -⟩ := hXs.form
        have hlx : xs.length ≤ 200 := by have h1 := congrArg List.length HX.out; rw [List.length_map] at h1; have h2 := again_len s.ses now s.tmo (s.out.take k); rw [List.length_take] at h2; omega
        have hbN : Below w6.heap.size w6 (w6.alloc (.cells #[.int .i64 0, .int .i64 s.ses, .int .i64 E.seq, .int .i64 0, .int .i64 0, .slice As 0 cs, .slice A6 E.p.length c6] 55)) := (Below.refl _ _).alloc (Nat.le_refl _) _
        have HN := Lib.hid (And.intro (H6.out.below hbN) (And.intro (show KeR (w6.alloc (.cells #[.int .i64 0, .int .i64 s.ses, .int .i64 E.seq, .int .i64 0, .int .i64 0, .slice As 0 cs, .slice A6 E.p.length c6] 55)) base { kind := 0, ses := s.ses, seq := E.seq, ack := 0, cred := 0, vs := .slice As 0 cs, sel := [], A := A6, c := c6, p := E.p } from ⟨hXs.up hbN, hB6.up hbN⟩) (Blk.new w6 55 #[.int .i64 0, .int .i64 s.ses, .int .i64 E.seq, .int .i64 0, .int .i64 0, .slice As 0 cs, .slice A6 E.p.length c6])))
        clear hbN hXs hB6 hb6 x0 x1 x2 x3 x4 xb0 lX4
        dsimp only [pkC, dataP, Oe.om, List.length_nil]
        have hE1 := encK_one { kind := 0, ses := s.ses, seq := E.seq, ack := 0, cred := 0, vs := .slice As 0 cs, sel := [], A := A6, c := c6, p := E.p } _ _ _ rfl
        go_wp2_with (at_builtin; refine wpList_push (E := encK) (R := KeR) (t := 55) (sz := 7) (base := base) (low := w.heap.size) (l := xs) (b := { kind := 0, ses := s.ses, seq := E.seq, ack := 0, cred := 0, vs := .slice As 0 cs, sel := [], A := A6, c := c6, p := E.p }) rfl (.tmp 61) (.tmp 66) 48 rfl _ 88 Try.underlying48 info55 rfl (by omega) hE1 rfl rfl HN.out.1.ks hbw (keR_ab (by simp) (by simp)) HN.out.2.1 rfl HN.out.2.2 (by omega) (by omega) HN.out.1.bel.size ?_; intro v9 w9 hp9; have h9 := HN.out.1.pushK hbw hp9; obtain ⟨A9, c9, hv9, _, _⟩ := hp9.own.vform; subst hv9; have H9 := Lib.hid h9; clear h9 hp9)
        go_roundw
        case rel =>
          refine ⟨k + 1, _, xs ++ [{ kind := 0, ses := s.ses, seq := E.seq, ack := 0, cred := 0, vs := .slice As 0 cs, sel := [], A := A6, c := c6, p := E.p }], by omega, by go_num, rfl, ?_, ?_⟩
          · rw [HEE.out.2.2.1, againP_true HAG.out, (show againE now s.tmo E = F from by rw [HEE.out.1]; exact HP4.out.2.2.2.1), HP4.out.2.2.2.2, List.map_append, HX.out]
            rfl
          · have h := H9.out
            rw [show (xs ++ [({ kind := 0, ses := s.ses, seq := E.seq, ack := 0, cred := 0, vs := .slice As 0 cs, sel := [], A := A6, c := c6, p := E.p } : Ke)]).length = xs.length + 1 by simp] at h
            exact h
        case measure => simp [intOf]; omega
    · obtain rfl : k = ne := by omega
      have hD : Hid (Pr2 s w base now { s with out := s.out.map (againO now s.tmo) } (.slice A2 k c2) (.slice Aq2 qs.length cq2) (updE (againE now s.tmo) k es) qs (.slice Ak xs.length ck) xs [] wr) := by
        have h2 : (updE (againE now s.tmo) k es).map Oe.om = s.out.map (againO now s.tmo) := by
          rw [updE_all _ _ HNE.out, ← HG.out.2.2.1, List.map_map, List.map_map]
          apply List.map_congr_left
          intro e _
          exact againE_om now s.tmo e
        refine ⟨DMo.start HG.out.1, ?_, ?_, ?_, rfl⟩
        · have h := HI.out
          rw [h2] at h
          exact h
        · rw [HX.out, List.append_nil, List.take_of_length_le (by rw [← HG.out.2.2.2.2, HNE.out]; exact Nat.le_refl _)]
          rfl
        · have h1 := congrArg List.length HX.out
          rw [List.length_map] at h1
          have h2 := again_len s.ses now s.tmo (s.out.take k)
          rw [List.length_take] at h2
          omega
      obtain ⟨wo, hwo⟩ : ∃ x : World, x = wr := ⟨_, rfl⟩
      subst hwo
      go_wp2_with fail
      clear xb2 xb6 lB HI HX
      go_loopw [6] (fun v6 wr => ∃ m vo vq es qs kv xs pre, v6 = kv ∧ Hid (Pr2 s w base now m vo vq es qs kv xs pre wr)) (fun _ wr => lenOf ((wr.cell? ⟨w.heap.size, 7, none⟩).getD undef))
      case atStart => exact ⟨_, _, _, _, _, _, _, _, rfl, hD⟩
      case round =>
        obtain ⟨m, vo, vq, es2, qs2, kv, xs2, pre, rfl, HD⟩ := hrel
        clear hD
        obtain ⟨A5, c5, rfl, hA2, hA3⟩ := HD.out.pr.eo.vform
        obtain ⟨A6, c6, rfl, hq2, hq3, -⟩ := HD.out.pr.eq.val
        obtain ⟨A7, c7, rfl, -, -⟩ := HD.out.pr.ks.vform
        have hel2 : es2.length = m.out.length := by rw [← HD.out.pr.om, List.length_map]
        have hql2 : qs2.length = m.q.length := by rw [← HD.out.pr.qm, List.length_map]
        have HL2 := Lib.hid (And.intro hel2 hql2)
        clear hel2 hql2
        obtain ⟨mn, hmn⟩ : ∃ x, x = min m.lim m.cred := ⟨_, rfl⟩
        have hmin := min_run _ _ _ hmn
        have HMN := Lib.hid hmn
        clear hmn
        have xb0 : wr.cell? ⟨w.heap.size, 0, none⟩ = some (.int .i64 m.ses) := HD.out.pr.b.cell 0
        have xb1 : wr.cell? ⟨w.heap.size, 1, none⟩ = some (.int .i64 m.lim) := HD.out.pr.b.cell 1
        have xb4 : wr.cell? ⟨w.heap.size, 4, none⟩ = some (.int .i64 m.next) := HD.out.pr.b.cell 4
        have xb5 : wr.cell? ⟨w.heap.size, 5, none⟩ = some (.int .i64 m.cred) := HD.out.pr.b.cell 5
        have xb6 : wr.cell? ⟨w.heap.size, 6, none⟩ = some (.slice A5 es2.length c5) := HD.out.pr.b.cell 6
        have xb7 : wr.cell? ⟨w.heap.size, 7, none⟩ = some (.slice A6 qs2.length c6) := HD.out.pr.b.cell 7
        have lB := HD.out.pr.b.lt
        have hru : roomB m = (decide (0 < qs2.length) && decide ((es2.length : Int) < mn) && decide (m.next < 1073741824)) := by unfold roomB; rw [HL2.out.1, HL2.out.2, HMN.out]
        have HRU := Lib.hid hru
        clear hru
        by_cases h0 : 0 < qs2.length
        rotate_left 1
        · have k0 : decide ((0 : Int) < (qs2.length : Int)) = false := decide_eq_false (by omega)
          have k0b : (0 < qs2.length) = False := eq_false h0
          have HRB : Hid (roomB m = false) := by show _ = _; rw [HRU.out, decide_eq_false h0]; rfl
          clear h0
          have hfil : fillS now { s with out := s.out.map (againO now s.tmo) } s.q.length = (m, pre) := by rw [HD.out.fil, fill_stop HRB.out, List.append_nil]
          have HPE := Lib.hid (poll_eq HE0.out HN.out hfil)
          clear hfil
          go_upto_region 19 with fail
          clear xb0 xb1 xb4 xb5 xb6 xb7 lB hmin
          have xb4 : wr.cell? ⟨w.heap.size, 4, none⟩ = some (.int .i64 m.next) := HD.out.pr.b.cell 4
          have xb6 : wr.cell? ⟨w.heap.size, 6, none⟩ = some (.slice A5 es2.length c5) := HD.out.pr.b.cell 6
          have xb7 : wr.cell? ⟨w.heap.size, 7, none⟩ = some (.slice A6 qs2.length c6) := HD.out.pr.b.cell 7
          have lB := HD.out.pr.b.lt
          clear k0 k0b
          by_cases p1 : es2.length = 0
          rotate_left 1
          · have j1 : ((es2.length : Int) == 0) = false := by rw [beq_eq_false_iff_ne]; omega
            have j1b : (es2.length = 0) = False := eq_false p1
            have HPB : Hid (probeP m = []) := by
              show _ = _
              unfold probeP
              rw [if_neg]
              intro h
              have h2 := HL2.out.1
              rw [h.1] at h2
              exact p1 h2
            clear p1
            go_upto_region 21 with fail
            clear xb4 xb6 xb7 lB
            have hbF0 := HD.out.pr.b
            have hrF0 := HD.out.pr.r
            unfold snC at hbF0
            have xc0 : wr.cell? ⟨w.heap.size, 0, none⟩ = some (.int .i64 m.ses) := hbF0.cell 0
            have xc1 : wr.cell? ⟨w.heap.size, 1, none⟩ = some (.int .i64 m.lim) := hbF0.cell 1
            have xc2 : wr.cell? ⟨w.heap.size, 2, none⟩ = some (.int .i64 m.tmo) := hbF0.cell 2
            have xc3 : wr.cell? ⟨w.heap.size, 3, none⟩ = some (.int .i64 m.base) := hbF0.cell 3
            have xc4 : wr.cell? ⟨w.heap.size, 4, none⟩ = some (.int .i64 m.next) := hbF0.cell 4
            have xc5 : wr.cell? ⟨w.heap.size, 5, none⟩ = some (.int .i64 m.cred) := hbF0.cell 5
            have xc6 : wr.cell? ⟨w.heap.size, 6, none⟩ = some (.slice A5 es2.length c5) := hbF0.cell 6
            have xc7 : wr.cell? ⟨w.heap.size, 7, none⟩ = some (.slice A6 qs2.length c6) := hbF0.cell 7
            have xd0 : wr.cell? ⟨w.heap.size + 1, 0, none⟩ = some (.int .i64 0) := hrF0.cell 0
            have xd1 : wr.cell? ⟨w.heap.size + 1, 1, none⟩ = some (.int .i64 0) := hrF0.cell 1
            have xd2 : wr.cell? ⟨w.heap.size + 1, 2, none⟩ = some (.int .i64 0) := hrF0.cell 2
            have xd3 : wr.cell? ⟨w.heap.size + 1, 3, none⟩ = some (.int .i64 0) := hrF0.cell 3
            have xd4 : wr.cell? ⟨w.heap.size + 1, 4, none⟩ = some (.int .i64 0) := hrF0.cell 4
            have xd5 : wr.cell? ⟨w.heap.size + 1, 5, none⟩ = some (.int .i64 0) := hrF0.cell 5
            have xd6 : wr.cell? ⟨w.heap.size + 1, 6, none⟩ = some (.slice none 0 0) := hrF0.cell 6
            have xd7 : wr.cell? ⟨w.heap.size + 1, 7, none⟩ = some (.slice none 0 0) := hrF0.cell 7
            have xy0 := hrF0.frozen 0
            have xy1 := hrF0.frozen 1
            have xy2 := hrF0.frozen 2
            have xy3 := hrF0.frozen 3
            have xy4 := hrF0.frozen 4
            have xy5 := hrF0.frozen 5
            have xy6 := hrF0.frozen 6
            have xy7 := hrF0.frozen 7
            have lS := hbF0.lt
            have lO := hrF0.lt
            have hkF := set25_blk hrF0 (.int .i64 m.ses) (.int .i64 m.lim) (.int .i64 m.tmo) (.int .i64 m.base) (.int .i64 m.next) (.int .i64 m.cred) (.slice A5 es2.length c5) (.slice A6 qs2.length c6)
            have hTF := set25_turn hrF0 (base := base) (by omega) (.int .i64 m.ses) (.int .i64 m.lim) (.int .i64 m.tmo) (.int .i64 m.base) (.int .i64 m.next) (.int .i64 m.cred) (.slice A5 es2.length c5) (.slice A6 qs2.length c6)
            have hbF := set25_below HD.out.pr.bel (g := w.heap.size + 1) (by omega) (.int .i64 m.ses) (.int .i64 m.lim) (.int .i64 m.tmo) (.int .i64 m.base) (.int .i64 m.next) (.int .i64 m.cred) (.slice A5 es2.length c5) (.slice A6 qs2.length c6)
            have HF := Lib.hid (And.intro hkF (And.intro hbF (And.intro (HD.out.pr.eo.turn hTF (by simp) (oeR_ab (by simp))) (And.intro (HD.out.pr.eq.turn hTF (by simp) (qeR_ab (by simp))) (HD.out.pr.ks.turn hTF (by simp) (keR_ab (by simp) (by simp)))))))
            clear hkF hTF hbF hbF0 hrF0
            go_wp2_with fail
            refine bodyPost_ret (results_cell_tmp (t := 25) rfl _ _ (w.heap.size + 1) _ _ rfl HF.out.1 Try.underlying25 rfl (by kernel_rfl)) rfl ?_
            exact ⟨⟨_, _, rfl, by rw [HPE.out]; exact ⟨_, _, rfl, ⟨es2, HF.out.2.2.1.vec, HD.out.pr.om⟩, ⟨qs2, HF.out.2.2.2.1, HD.out.pr.qm⟩⟩, by rw [HPE.out]; exact ⟨xs2, HF.out.2.2.2.2.vec, by rw [HD.out.xe, HPB.out, List.append_nil]; rfl⟩⟩, HF.out.2.1⟩
          have j1 : ((es2.length : Int) == 0) = true := by rw [beq_iff_eq]; omega
          have HE1 : Hid (m.out = []) := List.length_eq_zero_iff.1 (by rw [← HL2.out.1]; exact p1)
          clear p1
          by_cases p2 : 0 < qs2.length
          rotate_left 1
          · have j2 : decide ((0 : Int) < (qs2.length : Int)) = false := decide_eq_false (by omega)
            have j2b : (0 < qs2.length) = False := eq_false p2
            have HPB : Hid (probeP m = []) := by
              show _ = _
              unfold probeP
              rw [if_neg]
              intro h
              exact h.2.1 (List.length_eq_zero_iff.1 (by have := HL2.out.2; omega))
            clear p2
            go_upto_region 21 with fail
            clear xb4 xb6 xb7 lB
            have hbF0 := HD.out.pr.b
            have hrF0 := HD.out.pr.r
            unfold snC at hbF0
            have xc0 : wr.cell? ⟨w.heap.size, 0, none⟩ = some (.int .i64 m.ses) := hbF0.cell 0
            have xc1 : wr.cell? ⟨w.heap.size, 1, none⟩ = some (.int .i64 m.lim) := hbF0.cell 1
            have xc2 : wr.cell? ⟨w.heap.size, 2, none⟩ = some (.int .i64 m.tmo) := hbF0.cell 2
            have xc3 : wr.cell? ⟨w.heap.size, 3, none⟩ = some (.int .i64 m.base) := hbF0.cell 3
            have xc4 : wr.cell? ⟨w.heap.size, 4, none⟩ = some (.int .i64 m.next) := hbF0.cell 4
            have xc5 : wr.cell? ⟨w.heap.size, 5, none⟩ = some (.int .i64 m.cred) := hbF0.cell 5
            have xc6 : wr.cell? ⟨w.heap.size, 6, none⟩ = some (.slice A5 es2.length c5) := hbF0.cell 6
            have xc7 : wr.cell? ⟨w.heap.size, 7, none⟩ = some (.slice A6 qs2.length c6) := hbF0.cell 7
            have xd0 : wr.cell? ⟨w.heap.size + 1, 0, none⟩ = some (.int .i64 0) := hrF0.cell 0
            have xd1 : wr.cell? ⟨w.heap.size + 1, 1, none⟩ = some (.int .i64 0) := hrF0.cell 1
            have xd2 : wr.cell? ⟨w.heap.size + 1, 2, none⟩ = some (.int .i64 0) := hrF0.cell 2
            have xd3 : wr.cell? ⟨w.heap.size + 1, 3, none⟩ = some (.int .i64 0) := hrF0.cell 3
            have xd4 : wr.cell? ⟨w.heap.size + 1, 4, none⟩ = some (.int .i64 0) := hrF0.cell 4
            have xd5 : wr.cell? ⟨w.heap.size + 1, 5, none⟩ = some (.int .i64 0) := hrF0.cell 5
            have xd6 : wr.cell? ⟨w.heap.size + 1, 6, none⟩ = some (.slice none 0 0) := hrF0.cell 6
            have xd7 : wr.cell? ⟨w.heap.size + 1, 7, none⟩ = some (.slice none 0 0) := hrF0.cell 7
            have xy0 := hrF0.frozen 0
            have xy1 := hrF0.frozen 1
            have xy2 := hrF0.frozen 2
            have xy3 := hrF0.frozen 3
            have xy4 := hrF0.frozen 4
            have xy5 := hrF0.frozen 5
            have xy6 := hrF0.frozen 6
            have xy7 := hrF0.frozen 7
            have lS := hbF0.lt
            have lO := hrF0.lt
            have hkF := set25_blk hrF0 (.int .i64 m.ses) (.int .i64 m.lim) (.int .i64 m.tmo) (.int .i64 m.base) (.int .i64 m.next) (.int .i64 m.cred) (.slice A5 es2.length c5) (.slice A6 qs2.length c6)
            have hTF := set25_turn hrF0 (base := base) (by omega) (.int .i64 m.ses) (.int .i64 m.lim) (.int .i64 m.tmo) (.int .i64 m.base) (.int .i64 m.next) (.int .i64 m.cred) (.slice A5 es2.length c5) (.slice A6 qs2.length c6)
            have hbF := set25_below HD.out.pr.bel (g := w.heap.size + 1) (by omega) (.int .i64 m.ses) (.int .i64 m.lim) (.int .i64 m.tmo) (.int .i64 m.base) (.int .i64 m.next) (.int .i64 m.cred) (.slice A5 es2.length c5) (.slice A6 qs2.length c6)
            have HF := Lib.hid (And.intro hkF (And.intro hbF (And.intro (HD.out.pr.eo.turn hTF (by simp) (oeR_ab (by simp))) (And.intro (HD.out.pr.eq.turn hTF (by simp) (qeR_ab (by simp))) (HD.out.pr.ks.turn hTF (by simp) (keR_ab (by simp) (by simp)))))))
            clear hkF hTF hbF hbF0 hrF0
            go_wp2_with fail
            refine bodyPost_ret (results_cell_tmp (t := 25) rfl _ _ (w.heap.size + 1) _ _ rfl HF.out.1 Try.underlying25 rfl (by kernel_rfl)) rfl ?_
            exact ⟨⟨_, _, rfl, by rw [HPE.out]; exact ⟨_, _, rfl, ⟨es2, HF.out.2.2.1.vec, HD.out.pr.om⟩, ⟨qs2, HF.out.2.2.2.1, HD.out.pr.qm⟩⟩, by rw [HPE.out]; exact ⟨xs2, HF.out.2.2.2.2.vec, by rw [HD.out.xe, HPB.out, List.append_nil]; rfl⟩⟩, HF.out.2.1⟩
          have j2 : decide ((0 : Int) < (qs2.length : Int)) = true := decide_eq_true (by omega)
          have j2b : (0 < qs2.length) = True := eq_true p2
          have HQ1 : Hid (m.q ≠ []) := fun h => by have h3 := HL2.out.2; rw [h] at h3; simp at h3; simp [h3] at p2
          clear p2
          by_cases p3 : m.next < 1073741824
          rotate_left 1
          · have j3 : decide (m.next < 1073741824) = false := decide_eq_false p3
            have HPB : Hid (probeP m = []) := by
              show _ = _
              unfold probeP
              rw [if_neg]
              intro h
              exact p3 h.2.2
            clear p3
            go_upto_region 21 with fail
            clear xb4 xb6 xb7 lB
            have hbF0 := HD.out.pr.b
            have hrF0 := HD.out.pr.r
            unfold snC at hbF0
            have xc0 : wr.cell? ⟨w.heap.size, 0, none⟩ = some (.int .i64 m.ses) := hbF0.cell 0
            have xc1 : wr.cell? ⟨w.heap.size, 1, none⟩ = some (.int .i64 m.lim) := hbF0.cell 1
            have xc2 : wr.cell? ⟨w.heap.size, 2, none⟩ = some (.int .i64 m.tmo) := hbF0.cell 2
            have xc3 : wr.cell? ⟨w.heap.size, 3, none⟩ = some (.int .i64 m.base) := hbF0.cell 3
            have xc4 : wr.cell? ⟨w.heap.size, 4, none⟩ = some (.int .i64 m.next) := hbF0.cell 4
            have xc5 : wr.cell? ⟨w.heap.size, 5, none⟩ = some (.int .i64 m.cred) := hbF0.cell 5
            have xc6 : wr.cell? ⟨w.heap.size, 6, none⟩ = some (.slice A5 es2.length c5) := hbF0.cell 6
            have xc7 : wr.cell? ⟨w.heap.size, 7, none⟩ = some (.slice A6 qs2.length c6) := hbF0.cell 7
            have xd0 : wr.cell? ⟨w.heap.size + 1, 0, none⟩ = some (.int .i64 0) := hrF0.cell 0
            have xd1 : wr.cell? ⟨w.heap.size + 1, 1, none⟩ = some (.int .i64 0) := hrF0.cell 1
            have xd2 : wr.cell? ⟨w.heap.size + 1, 2, none⟩ = some (.int .i64 0) := hrF0.cell 2
            have xd3 : wr.cell? ⟨w.heap.size + 1, 3, none⟩ = some (.int .i64 0) := hrF0.cell 3
            have xd4 : wr.cell? ⟨w.heap.size + 1, 4, none⟩ = some (.int .i64 0) := hrF0.cell 4
            have xd5 : wr.cell? ⟨w.heap.size + 1, 5, none⟩ = some (.int .i64 0) := hrF0.cell 5
            have xd6 : wr.cell? ⟨w.heap.size + 1, 6, none⟩ = some (.slice none 0 0) := hrF0.cell 6
            have xd7 : wr.cell? ⟨w.heap.size + 1, 7, none⟩ = some (.slice none 0 0) := hrF0.cell 7
            have xy0 := hrF0.frozen 0
            have xy1 := hrF0.frozen 1
            have xy2 := hrF0.frozen 2
            have xy3 := hrF0.frozen 3
            have xy4 := hrF0.frozen 4
            have xy5 := hrF0.frozen 5
            have xy6 := hrF0.frozen 6
            have xy7 := hrF0.frozen 7
            have lS := hbF0.lt
            have lO := hrF0.lt
            have hkF := set25_blk hrF0 (.int .i64 m.ses) (.int .i64 m.lim) (.int .i64 m.tmo) (.int .i64 m.base) (.int .i64 m.next) (.int .i64 m.cred) (.slice A5 es2.length c5) (.slice A6 qs2.length c6)
            have hTF := set25_turn hrF0 (base := base) (by omega) (.int .i64 m.ses) (.int .i64 m.lim) (.int .i64 m.tmo) (.int .i64 m.base) (.int .i64 m.next) (.int .i64 m.cred) (.slice A5 es2.length c5) (.slice A6 qs2.length c6)
            have hbF := set25_below HD.out.pr.bel (g := w.heap.size + 1) (by omega) (.int .i64 m.ses) (.int .i64 m.lim) (.int .i64 m.tmo) (.int .i64 m.base) (.int .i64 m.next) (.int .i64 m.cred) (.slice A5 es2.length c5) (.slice A6 qs2.length c6)
            have HF := Lib.hid (And.intro hkF (And.intro hbF (And.intro (HD.out.pr.eo.turn hTF (by simp) (oeR_ab (by simp))) (And.intro (HD.out.pr.eq.turn hTF (by simp) (qeR_ab (by simp))) (HD.out.pr.ks.turn hTF (by simp) (keR_ab (by simp) (by simp)))))))
            clear hkF hTF hbF hbF0 hrF0
            go_wp2_with fail
            refine bodyPost_ret (results_cell_tmp (t := 25) rfl _ _ (w.heap.size + 1) _ _ rfl HF.out.1 Try.underlying25 rfl (by kernel_rfl)) rfl ?_
            exact ⟨⟨_, _, rfl, by rw [HPE.out]; exact ⟨_, _, rfl, ⟨es2, HF.out.2.2.1.vec, HD.out.pr.om⟩, ⟨qs2, HF.out.2.2.2.1, HD.out.pr.qm⟩⟩, by rw [HPE.out]; exact ⟨xs2, HF.out.2.2.2.2.vec, by rw [HD.out.xe, HPB.out, List.append_nil]; rfl⟩⟩, HF.out.2.1⟩
          have j3 : decide (m.next < 1073741824) = true := decide_eq_true p3
          have HPB : Hid (probeP m = [⟨2, m.ses, m.next, 0, 0, [], []⟩]) := by
            show _ = _
            unfold probeP
            rw [if_pos ⟨HE1.out, HQ1.out, p3⟩]
          clear p3
          go_upto_region 20 with fail
          have xb0 : wr.cell? ⟨w.heap.size, 0, none⟩ = some (.int .i64 m.ses) := HD.out.pr.b.cell 0
          have hlx : xs2.length ≤ 200 := by have h1 := HD.out.few; have h2 := HD.out.mo.outl; omega
          have hbN : Below wr.heap.size wr (wr.alloc (.cells #[.int .i64 2, .int .i64 m.ses, .int .i64 m.next, .int .i64 0, .int .i64 0, .slice none 0 0, .slice none 0 0] 55)) := (Below.refl _ _).alloc (Nat.le_refl _) _
          have HN2 := Lib.hid (And.intro (HD.out.pr.below hbN) (And.intro (show KeR (wr.alloc (.cells #[.int .i64 2, .int .i64 m.ses, .int .i64 m.next, .int .i64 0, .int .i64 0, .slice none 0 0, .slice none 0 0] 55)) base ({ kind := 2, ses := m.ses, seq := m.next, ack := 0, cred := 0, vs := .slice none 0 0, sel := [], A := none, c := 0, p := [] } : Ke) from ⟨Vec.nil, Rd.none_⟩) (Blk.new wr 55 #[.int .i64 2, .int .i64 m.ses, .int .i64 m.next, .int .i64 0, .int .i64 0, .slice none 0 0, .slice none 0 0])))
          clear hbN
          have hE1 := encK_one ({ kind := 2, ses := m.ses, seq := m.next, ack := 0, cred := 0, vs := .slice none 0 0, sel := [], A := none, c := 0, p := [] } : Ke) _ _ _ rfl
          go_upto_region 21 with (at_builtin; refine wpList_push (E := encK) (R := KeR) (t := 55) (sz := 7) (base := base) (low := w.heap.size) (l := xs2) (b := ({ kind := 2, ses := m.ses, seq := m.next, ack := 0, cred := 0, vs := .slice none 0 0, sel := [], A := none, c := 0, p := [] } : Ke)) rfl (.tmp 132) (.tmp 138) 48 rfl _ 88 Try.underlying48 info55 rfl (by omega) hE1 rfl rfl HN2.out.1.ks hbw (keR_ab (by simp) (by simp)) HN2.out.2.1 rfl HN2.out.2.2 (by omega) (by omega) HN2.out.1.bel.size ?_; intro v9 w9 hp9; have h9 := HN2.out.1.pushK hbw hp9; obtain ⟨A10, c10, hv9, _, _⟩ := hp9.own.vform; subst hv9; have H9 := Lib.hid h9; clear h9 hp9)
          clear xb0 xb4 xb6 xb7 lB
          have hbF0 := H9.out.b
          have hrF0 := H9.out.r
          unfold snC at hbF0
          have xc0 : w9.cell? ⟨w.heap.size, 0, none⟩ = some (.int .i64 m.ses) := hbF0.cell 0
          have xc1 : w9.cell? ⟨w.heap.size, 1, none⟩ = some (.int .i64 m.lim) := hbF0.cell 1
          have xc2 : w9.cell? ⟨w.heap.size, 2, none⟩ = some (.int .i64 m.tmo) := hbF0.cell 2
          have xc3 : w9.cell? ⟨w.heap.size, 3, none⟩ = some (.int .i64 m.base) := hbF0.cell 3
          have xc4 : w9.cell? ⟨w.heap.size, 4, none⟩ = some (.int .i64 m.next) := hbF0.cell 4
          have xc5 : w9.cell? ⟨w.heap.size, 5, none⟩ = some (.int .i64 m.cred) := hbF0.cell 5
          have xc6 : w9.cell? ⟨w.heap.size, 6, none⟩ = some (.slice A5 es2.length c5) := hbF0.cell 6
          have xc7 : w9.cell? ⟨w.heap.size, 7, none⟩ = some (.slice A6 qs2.length c6) := hbF0.cell 7
          have xd0 : w9.cell? ⟨w.heap.size + 1, 0, none⟩ = some (.int .i64 0) := hrF0.cell 0
          have xd1 : w9.cell? ⟨w.heap.size + 1, 1, none⟩ = some (.int .i64 0) := hrF0.cell 1
          have xd2 : w9.cell? ⟨w.heap.size + 1, 2, none⟩ = some (.int .i64 0) := hrF0.cell 2
          have xd3 : w9.cell? ⟨w.heap.size + 1, 3, none⟩ = some (.int .i64 0) := hrF0.cell 3
          have xd4 : w9.cell? ⟨w.heap.size + 1, 4, none⟩ = some (.int .i64 0) := hrF0.cell 4
          have xd5 : w9.cell? ⟨w.heap.size + 1, 5, none⟩ = some (.int .i64 0) := hrF0.cell 5
          have xd6 : w9.cell? ⟨w.heap.size + 1, 6, none⟩ = some (.slice none 0 0) := hrF0.cell 6
          have xd7 : w9.cell? ⟨w.heap.size + 1, 7, none⟩ = some (.slice none 0 0) := hrF0.cell 7
          have xy0 := hrF0.frozen 0
          have xy1 := hrF0.frozen 1
          have xy2 := hrF0.frozen 2
          have xy3 := hrF0.frozen 3
          have xy4 := hrF0.frozen 4
          have xy5 := hrF0.frozen 5
          have xy6 := hrF0.frozen 6
          have xy7 := hrF0.frozen 7
          have lS := hbF0.lt
          have lO := hrF0.lt
          have hkF := set25_blk hrF0 (.int .i64 m.ses) (.int .i64 m.lim) (.int .i64 m.tmo) (.int .i64 m.base) (.int .i64 m.next) (.int .i64 m.cred) (.slice A5 es2.length c5) (.slice A6 qs2.length c6)
          have hTF := set25_turn hrF0 (base := base) (by omega) (.int .i64 m.ses) (.int .i64 m.lim) (.int .i64 m.tmo) (.int .i64 m.base) (.int .i64 m.next) (.int .i64 m.cred) (.slice A5 es2.length c5) (.slice A6 qs2.length c6)
          have hbF := set25_below H9.out.bel (g := w.heap.size + 1) (by omega) (.int .i64 m.ses) (.int .i64 m.lim) (.int .i64 m.tmo) (.int .i64 m.base) (.int .i64 m.next) (.int .i64 m.cred) (.slice A5 es2.length c5) (.slice A6 qs2.length c6)
          have HF := Lib.hid (And.intro hkF (And.intro hbF (And.intro (H9.out.eo.turn hTF (by simp) (oeR_ab (by simp))) (And.intro (H9.out.eq.turn hTF (by simp) (qeR_ab (by simp))) (H9.out.ks.turn hTF (by simp) (keR_ab (by simp) (by simp)))))))
          clear hkF hTF hbF hbF0 hrF0
          go_wp2_with fail
          refine bodyPost_ret (results_cell_tmp (t := 25) rfl _ _ (w.heap.size + 1) _ _ rfl HF.out.1 Try.underlying25 rfl (by kernel_rfl)) rfl ?_
          exact ⟨⟨_, _, rfl, by rw [HPE.out]; exact ⟨_, _, rfl, ⟨es2, HF.out.2.2.1.vec, HD.out.pr.om⟩, ⟨qs2, HF.out.2.2.2.1, HD.out.pr.qm⟩⟩, by rw [HPE.out]; exact ⟨xs2 ++ [({ kind := 2, ses := m.ses, seq := m.next, ack := 0, cred := 0, vs := .slice none 0 0, sel := [], A := none, c := 0, p := [] } : Ke)], (by have h := HF.out.2.2.2.2.vec; rw [List.length_append, List.length_singleton] at h; exact h), by rw [List.map_append, HD.out.xe, HPB.out]; rfl⟩⟩, HF.out.2.1⟩
        have k0 : decide ((0 : Int) < (qs2.length : Int)) = true := decide_eq_true (by omega)
        have k0b : (0 < qs2.length) = True := eq_true h0
        by_cases h1 : (es2.length : Int) < mn
        rotate_left 1
        · have k1 : decide ((es2.length : Int) < mn) = false := decide_eq_false h1
          have HRB : Hid (roomB m = false) := by show _ = _; rw [HRU.out, k1, Bool.and_false, Bool.false_and]
          clear h1
          have hfil : fillS now { s with out := s.out.map (againO now s.tmo) } s.q.length = (m, pre) := by rw [HD.out.fil, fill_stop HRB.out, List.append_nil]
          have HPE := Lib.hid (poll_eq HE0.out HN.out hfil)
          clear hfil
          go_upto_region 19 with fail
          clear xb0 xb1 xb4 xb5 xb6 xb7 lB hmin
          have xb4 : wr.cell? ⟨w.heap.size, 4, none⟩ = some (.int .i64 m.next) := HD.out.pr.b.cell 4
          have xb6 : wr.cell? ⟨w.heap.size, 6, none⟩ = some (.slice A5 es2.length c5) := HD.out.pr.b.cell 6
          have xb7 : wr.cell? ⟨w.heap.size, 7, none⟩ = some (.slice A6 qs2.length c6) := HD.out.pr.b.cell 7
          have lB := HD.out.pr.b.lt
          clear k0 k0b k1
          by_cases p1 : es2.length = 0
          rotate_left 1
          · have j1 : ((es2.length : Int) == 0) = false := by rw [beq_eq_false_iff_ne]; omega
            have j1b : (es2.length = 0) = False := eq_false p1
            have HPB : Hid (probeP m = []) := by
              show _ = _
              unfold probeP
              rw [if_neg]
              intro h
              have h2 := HL2.out.1
              rw [h.1] at h2
              exact p1 h2
            clear p1
            go_upto_region 21 with fail
            clear xb4 xb6 xb7 lB
            have hbF0 := HD.out.pr.b
            have hrF0 := HD.out.pr.r
            unfold snC at hbF0
            have xc0 : wr.cell? ⟨w.heap.size, 0, none⟩ = some (.int .i64 m.ses) := hbF0.cell 0
            have xc1 : wr.cell? ⟨w.heap.size, 1, none⟩ = some (.int .i64 m.lim) := hbF0.cell 1
            have xc2 : wr.cell? ⟨w.heap.size, 2, none⟩ = some (.int .i64 m.tmo) := hbF0.cell 2
            have xc3 : wr.cell? ⟨w.heap.size, 3, none⟩ = some (.int .i64 m.base) := hbF0.cell 3
            have xc4 : wr.cell? ⟨w.heap.size, 4, none⟩ = some (.int .i64 m.next) := hbF0.cell 4
            have xc5 : wr.cell? ⟨w.heap.size, 5, none⟩ = some (.int .i64 m.cred) := hbF0.cell 5
            have xc6 : wr.cell? ⟨w.heap.size, 6, none⟩ = some (.slice A5 es2.length c5) := hbF0.cell 6
            have xc7 : wr.cell? ⟨w.heap.size, 7, none⟩ = some (.slice A6 qs2.length c6) := hbF0.cell 7
            have xd0 : wr.cell? ⟨w.heap.size + 1, 0, none⟩ = some (.int .i64 0) := hrF0.cell 0
            have xd1 : wr.cell? ⟨w.heap.size + 1, 1, none⟩ = some (.int .i64 0) := hrF0.cell 1
            have xd2 : wr.cell? ⟨w.heap.size + 1, 2, none⟩ = some (.int .i64 0) := hrF0.cell 2
            have xd3 : wr.cell? ⟨w.heap.size + 1, 3, none⟩ = some (.int .i64 0) := hrF0.cell 3
            have xd4 : wr.cell? ⟨w.heap.size + 1, 4, none⟩ = some (.int .i64 0) := hrF0.cell 4
            have xd5 : wr.cell? ⟨w.heap.size + 1, 5, none⟩ = some (.int .i64 0) := hrF0.cell 5
            have xd6 : wr.cell? ⟨w.heap.size + 1, 6, none⟩ = some (.slice none 0 0) := hrF0.cell 6
            have xd7 : wr.cell? ⟨w.heap.size + 1, 7, none⟩ = some (.slice none 0 0) := hrF0.cell 7
            have xy0 := hrF0.frozen 0
            have xy1 := hrF0.frozen 1
            have xy2 := hrF0.frozen 2
            have xy3 := hrF0.frozen 3
            have xy4 := hrF0.frozen 4
            have xy5 := hrF0.frozen 5
            have xy6 := hrF0.frozen 6
            have xy7 := hrF0.frozen 7
            have lS := hbF0.lt
            have lO := hrF0.lt
            have hkF := set25_blk hrF0 (.int .i64 m.ses) (.int .i64 m.lim) (.int .i64 m.tmo) (.int .i64 m.base) (.int .i64 m.next) (.int .i64 m.cred) (.slice A5 es2.length c5) (.slice A6 qs2.length c6)
            have hTF := set25_turn hrF0 (base := base) (by omega) (.int .i64 m.ses) (.int .i64 m.lim) (.int .i64 m.tmo) (.int .i64 m.base) (.int .i64 m.next) (.int .i64 m.cred) (.slice A5 es2.length c5) (.slice A6 qs2.length c6)
            have hbF := set25_below HD.out.pr.bel (g := w.heap.size + 1) (by omega) (.int .i64 m.ses) (.int .i64 m.lim) (.int .i64 m.tmo) (.int .i64 m.base) (.int .i64 m.next) (.int .i64 m.cred) (.slice A5 es2.length c5) (.slice A6 qs2.length c6)
            have HF := Lib.hid (And.intro hkF (And.intro hbF (And.intro (HD.out.pr.eo.turn hTF (by simp) (oeR_ab (by simp))) (And.intro (HD.out.pr.eq.turn hTF (by simp) (qeR_ab (by simp))) (HD.out.pr.ks.turn hTF (by simp) (keR_ab (by simp) (by simp)))))))
            clear hkF hTF hbF hbF0 hrF0
            go_wp2_with fail
            refine bodyPost_ret (results_cell_tmp (t := 25) rfl _ _ (w.heap.size + 1) _ _ rfl HF.out.1 Try.underlying25 rfl (by kernel_rfl)) rfl ?_
            exact ⟨⟨_, _, rfl, by rw [HPE.out]; exact ⟨_, _, rfl, ⟨es2, HF.out.2.2.1.vec, HD.out.pr.om⟩, ⟨qs2, HF.out.2.2.2.1, HD.out.pr.qm⟩⟩, by rw [HPE.out]; exact ⟨xs2, HF.out.2.2.2.2.vec, by rw [HD.out.xe, HPB.out, List.append_nil]; rfl⟩⟩, HF.out.2.1⟩
          have j1 : ((es2.length : Int) == 0) = true := by rw [beq_iff_eq]; omega
          have HE1 : Hid (m.out = []) := List.length_eq_zero_iff.1 (by rw [← HL2.out.1]; exact p1)
          clear p1
          by_cases p2 : 0 < qs2.length
          rotate_left 1
          · exact absurd h0 p2
          have j2 : decide ((0 : Int) < (qs2.length : Int)) = true := decide_eq_true (by omega)
          have j2b : (0 < qs2.length) = True := eq_true p2
          have HQ1 : Hid (m.q ≠ []) := fun h => by have h3 := HL2.out.2; rw [h] at h3; simp at h3; simp [h3] at p2
          clear p2
          by_cases p3 : m.next < 1073741824
          rotate_left 1
          · have j3 : decide (m.next < 1073741824) = false := decide_eq_false p3
            have HPB : Hid (probeP m = []) := by
              show _ = _
              unfold probeP
              rw [if_neg]
              intro h
              exact p3 h.2.2
            clear p3
            go_upto_region 21 with fail
            clear xb4 xb6 xb7 lB
            have hbF0 := HD.out.pr.b
            have hrF0 := HD.out.pr.r
            unfold snC at hbF0
            have xc0 : wr.cell? ⟨w.heap.size, 0, none⟩ = some (.int .i64 m.ses) := hbF0.cell 0
            have xc1 : wr.cell? ⟨w.heap.size, 1, none⟩ = some (.int .i64 m.lim) := hbF0.cell 1
            have xc2 : wr.cell? ⟨w.heap.size, 2, none⟩ = some (.int .i64 m.tmo) := hbF0.cell 2
            have xc3 : wr.cell? ⟨w.heap.size, 3, none⟩ = some (.int .i64 m.base) := hbF0.cell 3
            have xc4 : wr.cell? ⟨w.heap.size, 4, none⟩ = some (.int .i64 m.next) := hbF0.cell 4
            have xc5 : wr.cell? ⟨w.heap.size, 5, none⟩ = some (.int .i64 m.cred) := hbF0.cell 5
            have xc6 : wr.cell? ⟨w.heap.size, 6, none⟩ = some (.slice A5 es2.length c5) := hbF0.cell 6
            have xc7 : wr.cell? ⟨w.heap.size, 7, none⟩ = some (.slice A6 qs2.length c6) := hbF0.cell 7
            have xd0 : wr.cell? ⟨w.heap.size + 1, 0, none⟩ = some (.int .i64 0) := hrF0.cell 0
            have xd1 : wr.cell? ⟨w.heap.size + 1, 1, none⟩ = some (.int .i64 0) := hrF0.cell 1
            have xd2 : wr.cell? ⟨w.heap.size + 1, 2, none⟩ = some (.int .i64 0) := hrF0.cell 2
            have xd3 : wr.cell? ⟨w.heap.size + 1, 3, none⟩ = some (.int .i64 0) := hrF0.cell 3
            have xd4 : wr.cell? ⟨w.heap.size + 1, 4, none⟩ = some (.int .i64 0) := hrF0.cell 4
            have xd5 : wr.cell? ⟨w.heap.size + 1, 5, none⟩ = some (.int .i64 0) := hrF0.cell 5
            have xd6 : wr.cell? ⟨w.heap.size + 1, 6, none⟩ = some (.slice none 0 0) := hrF0.cell 6
            have xd7 : wr.cell? ⟨w.heap.size + 1, 7, none⟩ = some (.slice none 0 0) := hrF0.cell 7
            have xy0 := hrF0.frozen 0
            have xy1 := hrF0.frozen 1
            have xy2 := hrF0.frozen 2
            have xy3 := hrF0.frozen 3
            have xy4 := hrF0.frozen 4
            have xy5 := hrF0.frozen 5
            have xy6 := hrF0.frozen 6
            have xy7 := hrF0.frozen 7
            have lS := hbF0.lt
            have lO := hrF0.lt
            have hkF := set25_blk hrF0 (.int .i64 m.ses) (.int .i64 m.lim) (.int .i64 m.tmo) (.int .i64 m.base) (.int .i64 m.next) (.int .i64 m.cred) (.slice A5 es2.length c5) (.slice A6 qs2.length c6)
            have hTF := set25_turn hrF0 (base := base) (by omega) (.int .i64 m.ses) (.int .i64 m.lim) (.int .i64 m.tmo) (.int .i64 m.base) (.int .i64 m.next) (.int .i64 m.cred) (.slice A5 es2.length c5) (.slice A6 qs2.length c6)
            have hbF := set25_below HD.out.pr.bel (g := w.heap.size + 1) (by omega) (.int .i64 m.ses) (.int .i64 m.lim) (.int .i64 m.tmo) (.int .i64 m.base) (.int .i64 m.next) (.int .i64 m.cred) (.slice A5 es2.length c5) (.slice A6 qs2.length c6)
            have HF := Lib.hid (And.intro hkF (And.intro hbF (And.intro (HD.out.pr.eo.turn hTF (by simp) (oeR_ab (by simp))) (And.intro (HD.out.pr.eq.turn hTF (by simp) (qeR_ab (by simp))) (HD.out.pr.ks.turn hTF (by simp) (keR_ab (by simp) (by simp)))))))
            clear hkF hTF hbF hbF0 hrF0
            go_wp2_with fail
            refine bodyPost_ret (results_cell_tmp (t := 25) rfl _ _ (w.heap.size + 1) _ _ rfl HF.out.1 Try.underlying25 rfl (by kernel_rfl)) rfl ?_
            exact ⟨⟨_, _, rfl, by rw [HPE.out]; exact ⟨_, _, rfl, ⟨es2, HF.out.2.2.1.vec, HD.out.pr.om⟩, ⟨qs2, HF.out.2.2.2.1, HD.out.pr.qm⟩⟩, by rw [HPE.out]; exact ⟨xs2, HF.out.2.2.2.2.vec, by rw [HD.out.xe, HPB.out, List.append_nil]; rfl⟩⟩, HF.out.2.1⟩
          have j3 : decide (m.next < 1073741824) = true := decide_eq_true p3
          have HPB : Hid (probeP m = [⟨2, m.ses, m.next, 0, 0, [], []⟩]) := by
            show _ = _
            unfold probeP
            rw [if_pos ⟨HE1.out, HQ1.out, p3⟩]
          clear p3
          go_upto_region 20 with fail
          have xb0 : wr.cell? ⟨w.heap.size, 0, none⟩ = some (.int .i64 m.ses) := HD.out.pr.b.cell 0
          have hlx : xs2.length ≤ 200 := by have h1 := HD.out.few; have h2 := HD.out.mo.outl; omega
          have hbN : Below wr.heap.size wr (wr.alloc (.cells #[.int .i64 2, .int .i64 m.ses, .int .i64 m.next, .int .i64 0, .int .i64 0, .slice none 0 0, .slice none 0 0] 55)) := (Below.refl _ _).alloc (Nat.le_refl _) _
          have HN2 := Lib.hid (And.intro (HD.out.pr.below hbN) (And.intro (show KeR (wr.alloc (.cells #[.int .i64 2, .int .i64 m.ses, .int .i64 m.next, .int .i64 0, .int .i64 0, .slice none 0 0, .slice none 0 0] 55)) base ({ kind := 2, ses := m.ses, seq := m.next, ack := 0, cred := 0, vs := .slice none 0 0, sel := [], A := none, c := 0, p := [] } : Ke) from ⟨Vec.nil, Rd.none_⟩) (Blk.new wr 55 #[.int .i64 2, .int .i64 m.ses, .int .i64 m.next, .int .i64 0, .int .i64 0, .slice none 0 0, .slice none 0 0])))
          clear hbN
          have hE1 := encK_one ({ kind := 2, ses := m.ses, seq := m.next, ack := 0, cred := 0, vs := .slice none 0 0, sel := [], A := none, c := 0, p := [] } : Ke) _ _ _ rfl
          go_upto_region 21 with (at_builtin; refine wpList_push (E := encK) (R := KeR) (t := 55) (sz := 7) (base := base) (low := w.heap.size) (l := xs2) (b := ({ kind := 2, ses := m.ses, seq := m.next, ack := 0, cred := 0, vs := .slice none 0 0, sel := [], A := none, c := 0, p := [] } : Ke)) rfl (.tmp 132) (.tmp 138) 48 rfl _ 88 Try.underlying48 info55 rfl (by omega) hE1 rfl rfl HN2.out.1.ks hbw (keR_ab (by simp) (by simp)) HN2.out.2.1 rfl HN2.out.2.2 (by omega) (by omega) HN2.out.1.bel.size ?_; intro v9 w9 hp9; have h9 := HN2.out.1.pushK hbw hp9; obtain ⟨A10, c10, hv9, _, _⟩ := hp9.own.vform; subst hv9; have H9 := Lib.hid h9; clear h9 hp9)
          clear xb0 xb4 xb6 xb7 lB
          have hbF0 := H9.out.b
          have hrF0 := H9.out.r
          unfold snC at hbF0
          have xc0 : w9.cell? ⟨w.heap.size, 0, none⟩ = some (.int .i64 m.ses) := hbF0.cell 0
          have xc1 : w9.cell? ⟨w.heap.size, 1, none⟩ = some (.int .i64 m.lim) := hbF0.cell 1
          have xc2 : w9.cell? ⟨w.heap.size, 2, none⟩ = some (.int .i64 m.tmo) := hbF0.cell 2
          have xc3 : w9.cell? ⟨w.heap.size, 3, none⟩ = some (.int .i64 m.base) := hbF0.cell 3
          have xc4 : w9.cell? ⟨w.heap.size, 4, none⟩ = some (.int .i64 m.next) := hbF0.cell 4
          have xc5 : w9.cell? ⟨w.heap.size, 5, none⟩ = some (.int .i64 m.cred) := hbF0.cell 5
          have xc6 : w9.cell? ⟨w.heap.size, 6, none⟩ = some (.slice A5 es2.length c5) := hbF0.cell 6
          have xc7 : w9.cell? ⟨w.heap.size, 7, none⟩ = some (.slice A6 qs2.length c6) := hbF0.cell 7
          have xd0 : w9.cell? ⟨w.heap.size + 1, 0, none⟩ = some (.int .i64 0) := hrF0.cell 0
          have xd1 : w9.cell? ⟨w.heap.size + 1, 1, none⟩ = some (.int .i64 0) := hrF0.cell 1
          have xd2 : w9.cell? ⟨w.heap.size + 1, 2, none⟩ = some (.int .i64 0) := hrF0.cell 2
          have xd3 : w9.cell? ⟨w.heap.size + 1, 3, none⟩ = some (.int .i64 0) := hrF0.cell 3
          have xd4 : w9.cell? ⟨w.heap.size + 1, 4, none⟩ = some (.int .i64 0) := hrF0.cell 4
          have xd5 : w9.cell? ⟨w.heap.size + 1, 5, none⟩ = some (.int .i64 0) := hrF0.cell 5
          have xd6 : w9.cell? ⟨w.heap.size + 1, 6, none⟩ = some (.slice none 0 0) := hrF0.cell 6
          have xd7 : w9.cell? ⟨w.heap.size + 1, 7, none⟩ = some (.slice none 0 0) := hrF0.cell 7
          have xy0 := hrF0.frozen 0
          have xy1 := hrF0.frozen 1
          have xy2 := hrF0.frozen 2
          have xy3 := hrF0.frozen 3
          have xy4 := hrF0.frozen 4
          have xy5 := hrF0.frozen 5
          have xy6 := hrF0.frozen 6
          have xy7 := hrF0.frozen 7
          have lS := hbF0.lt
          have lO := hrF0.lt
          have hkF := set25_blk hrF0 (.int .i64 m.ses) (.int .i64 m.lim) (.int .i64 m.tmo) (.int .i64 m.base) (.int .i64 m.next) (.int .i64 m.cred) (.slice A5 es2.length c5) (.slice A6 qs2.length c6)
          have hTF := set25_turn hrF0 (base := base) (by omega) (.int .i64 m.ses) (.int .i64 m.lim) (.int .i64 m.tmo) (.int .i64 m.base) (.int .i64 m.next) (.int .i64 m.cred) (.slice A5 es2.length c5) (.slice A6 qs2.length c6)
          have hbF := set25_below H9.out.bel (g := w.heap.size + 1) (by omega) (.int .i64 m.ses) (.int .i64 m.lim) (.int .i64 m.tmo) (.int .i64 m.base) (.int .i64 m.next) (.int .i64 m.cred) (.slice A5 es2.length c5) (.slice A6 qs2.length c6)
          have HF := Lib.hid (And.intro hkF (And.intro hbF (And.intro (H9.out.eo.turn hTF (by simp) (oeR_ab (by simp))) (And.intro (H9.out.eq.turn hTF (by simp) (qeR_ab (by simp))) (H9.out.ks.turn hTF (by simp) (keR_ab (by simp) (by simp)))))))
          clear hkF hTF hbF hbF0 hrF0
          go_wp2_with fail
          refine bodyPost_ret (results_cell_tmp (t := 25) rfl _ _ (w.heap.size + 1) _ _ rfl HF.out.1 Try.underlying25 rfl (by kernel_rfl)) rfl ?_
          exact ⟨⟨_, _, rfl, by rw [HPE.out]; exact ⟨_, _, rfl, ⟨es2, HF.out.2.2.1.vec, HD.out.pr.om⟩, ⟨qs2, HF.out.2.2.2.1, HD.out.pr.qm⟩⟩, by rw [HPE.out]; exact ⟨xs2 ++ [({ kind := 2, ses := m.ses, seq := m.next, ack := 0, cred := 0, vs := .slice none 0 0, sel := [], A := none, c := 0, p := [] } : Ke)], (by have h := HF.out.2.2.2.2.vec; rw [List.length_append, List.length_singleton] at h; exact h), by rw [List.map_append, HD.out.xe, HPB.out]; rfl⟩⟩, HF.out.2.1⟩
        have k1 : decide ((es2.length : Int) < mn) = true := decide_eq_true h1
        by_cases h2 : m.next < 1073741824
        rotate_left 1
        · have k2 : decide (m.next < 1073741824) = false := decide_eq_false h2
          have HRB : Hid (roomB m = false) := by show _ = _; rw [HRU.out, k2, Bool.and_false]
          clear h2 h1
          have hfil : fillS now { s with out := s.out.map (againO now s.tmo) } s.q.length = (m, pre) := by rw [HD.out.fil, fill_stop HRB.out, List.append_nil]
          have HPE := Lib.hid (poll_eq HE0.out HN.out hfil)
          clear hfil
          go_upto_region 19 with fail
          clear xb0 xb1 xb4 xb5 xb6 xb7 lB hmin
          have xb4 : wr.cell? ⟨w.heap.size, 4, none⟩ = some (.int .i64 m.next) := HD.out.pr.b.cell 4
          have xb6 : wr.cell? ⟨w.heap.size, 6, none⟩ = some (.slice A5 es2.length c5) := HD.out.pr.b.cell 6
          have xb7 : wr.cell? ⟨w.heap.size, 7, none⟩ = some (.slice A6 qs2.length c6) := HD.out.pr.b.cell 7
          have lB := HD.out.pr.b.lt
          clear k0 k0b k1 k2
          by_cases p1 : es2.length = 0
          rotate_left 1
          · have j1 : ((es2.length : Int) == 0) = false := by rw [beq_eq_false_iff_ne]; omega
            have j1b : (es2.length = 0) = False := eq_false p1
            have HPB : Hid (probeP m = []) := by
              show _ = _
              unfold probeP
              rw [if_neg]
              intro h
              have h2 := HL2.out.1
              rw [h.1] at h2
              exact p1 h2
            clear p1
            go_upto_region 21 with fail
            clear xb4 xb6 xb7 lB
            have hbF0 := HD.out.pr.b
            have hrF0 := HD.out.pr.r
            unfold snC at hbF0
            have xc0 : wr.cell? ⟨w.heap.size, 0, none⟩ = some (.int .i64 m.ses) := hbF0.cell 0
            have xc1 : wr.cell? ⟨w.heap.size, 1, none⟩ = some (.int .i64 m.lim) := hbF0.cell 1
            have xc2 : wr.cell? ⟨w.heap.size, 2, none⟩ = some (.int .i64 m.tmo) := hbF0.cell 2
            have xc3 : wr.cell? ⟨w.heap.size, 3, none⟩ = some (.int .i64 m.base) := hbF0.cell 3
            have xc4 : wr.cell? ⟨w.heap.size, 4, none⟩ = some (.int .i64 m.next) := hbF0.cell 4
            have xc5 : wr.cell? ⟨w.heap.size, 5, none⟩ = some (.int .i64 m.cred) := hbF0.cell 5
            have xc6 : wr.cell? ⟨w.heap.size, 6, none⟩ = some (.slice A5 es2.length c5) := hbF0.cell 6
            have xc7 : wr.cell? ⟨w.heap.size, 7, none⟩ = some (.slice A6 qs2.length c6) := hbF0.cell 7
            have xd0 : wr.cell? ⟨w.heap.size + 1, 0, none⟩ = some (.int .i64 0) := hrF0.cell 0
            have xd1 : wr.cell? ⟨w.heap.size + 1, 1, none⟩ = some (.int .i64 0) := hrF0.cell 1
            have xd2 : wr.cell? ⟨w.heap.size + 1, 2, none⟩ = some (.int .i64 0) := hrF0.cell 2
            have xd3 : wr.cell? ⟨w.heap.size + 1, 3, none⟩ = some (.int .i64 0) := hrF0.cell 3
            have xd4 : wr.cell? ⟨w.heap.size + 1, 4, none⟩ = some (.int .i64 0) := hrF0.cell 4
            have xd5 : wr.cell? ⟨w.heap.size + 1, 5, none⟩ = some (.int .i64 0) := hrF0.cell 5
            have xd6 : wr.cell? ⟨w.heap.size + 1, 6, none⟩ = some (.slice none 0 0) := hrF0.cell 6
            have xd7 : wr.cell? ⟨w.heap.size + 1, 7, none⟩ = some (.slice none 0 0) := hrF0.cell 7
            have xy0 := hrF0.frozen 0
            have xy1 := hrF0.frozen 1
            have xy2 := hrF0.frozen 2
            have xy3 := hrF0.frozen 3
            have xy4 := hrF0.frozen 4
            have xy5 := hrF0.frozen 5
            have xy6 := hrF0.frozen 6
            have xy7 := hrF0.frozen 7
            have lS := hbF0.lt
            have lO := hrF0.lt
            have hkF := set25_blk hrF0 (.int .i64 m.ses) (.int .i64 m.lim) (.int .i64 m.tmo) (.int .i64 m.base) (.int .i64 m.next) (.int .i64 m.cred) (.slice A5 es2.length c5) (.slice A6 qs2.length c6)
            have hTF := set25_turn hrF0 (base := base) (by omega) (.int .i64 m.ses) (.int .i64 m.lim) (.int .i64 m.tmo) (.int .i64 m.base) (.int .i64 m.next) (.int .i64 m.cred) (.slice A5 es2.length c5) (.slice A6 qs2.length c6)
            have hbF := set25_below HD.out.pr.bel (g := w.heap.size + 1) (by omega) (.int .i64 m.ses) (.int .i64 m.lim) (.int .i64 m.tmo) (.int .i64 m.base) (.int .i64 m.next) (.int .i64 m.cred) (.slice A5 es2.length c5) (.slice A6 qs2.length c6)
            have HF := Lib.hid (And.intro hkF (And.intro hbF (And.intro (HD.out.pr.eo.turn hTF (by simp) (oeR_ab (by simp))) (And.intro (HD.out.pr.eq.turn hTF (by simp) (qeR_ab (by simp))) (HD.out.pr.ks.turn hTF (by simp) (keR_ab (by simp) (by simp)))))))
            clear hkF hTF hbF hbF0 hrF0
            go_wp2_with fail
            refine bodyPost_ret (results_cell_tmp (t := 25) rfl _ _ (w.heap.size + 1) _ _ rfl HF.out.1 Try.underlying25 rfl (by kernel_rfl)) rfl ?_
            exact ⟨⟨_, _, rfl, by rw [HPE.out]; exact ⟨_, _, rfl, ⟨es2, HF.out.2.2.1.vec, HD.out.pr.om⟩, ⟨qs2, HF.out.2.2.2.1, HD.out.pr.qm⟩⟩, by rw [HPE.out]; exact ⟨xs2, HF.out.2.2.2.2.vec, by rw [HD.out.xe, HPB.out, List.append_nil]; rfl⟩⟩, HF.out.2.1⟩
          have j1 : ((es2.length : Int) == 0) = true := by rw [beq_iff_eq]; omega
          have HE1 : Hid (m.out = []) := List.length_eq_zero_iff.1 (by rw [← HL2.out.1]; exact p1)
          clear p1
          by_cases p2 : 0 < qs2.length
          rotate_left 1
          · exact absurd h0 p2
          have j2 : decide ((0 : Int) < (qs2.length : Int)) = true := decide_eq_true (by omega)
          have j2b : (0 < qs2.length) = True := eq_true p2
          have HQ1 : Hid (m.q ≠ []) := fun h => by have h3 := HL2.out.2; rw [h] at h3; simp at h3; simp [h3] at p2
          clear p2
          by_cases p3 : m.next < 1073741824
          rotate_left 1
          · have j3 : decide (m.next < 1073741824) = false := decide_eq_false p3
            have HPB : Hid (probeP m = []) := by
              show _ = _
              unfold probeP
              rw [if_neg]
              intro h
              exact p3 h.2.2
            clear p3
            go_upto_region 21 with fail
            clear xb4 xb6 xb7 lB
            have hbF0 := HD.out.pr.b
            have hrF0 := HD.out.pr.r
            unfold snC at hbF0
            have xc0 : wr.cell? ⟨w.heap.size, 0, none⟩ = some (.int .i64 m.ses) := hbF0.cell 0
            have xc1 : wr.cell? ⟨w.heap.size, 1, none⟩ = some (.int .i64 m.lim) := hbF0.cell 1
            have xc2 : wr.cell? ⟨w.heap.size, 2, none⟩ = some (.int .i64 m.tmo) := hbF0.cell 2
            have xc3 : wr.cell? ⟨w.heap.size, 3, none⟩ = some (.int .i64 m.base) := hbF0.cell 3
            have xc4 : wr.cell? ⟨w.heap.size, 4, none⟩ = some (.int .i64 m.next) := hbF0.cell 4
            have xc5 : wr.cell? ⟨w.heap.size, 5, none⟩ = some (.int .i64 m.cred) := hbF0.cell 5
            have xc6 : wr.cell? ⟨w.heap.size, 6, none⟩ = some (.slice A5 es2.length c5) := hbF0.cell 6
            have xc7 : wr.cell? ⟨w.heap.size, 7, none⟩ = some (.slice A6 qs2.length c6) := hbF0.cell 7
            have xd0 : wr.cell? ⟨w.heap.size + 1, 0, none⟩ = some (.int .i64 0) := hrF0.cell 0
            have xd1 : wr.cell? ⟨w.heap.size + 1, 1, none⟩ = some (.int .i64 0) := hrF0.cell 1
            have xd2 : wr.cell? ⟨w.heap.size + 1, 2, none⟩ = some (.int .i64 0) := hrF0.cell 2
            have xd3 : wr.cell? ⟨w.heap.size + 1, 3, none⟩ = some (.int .i64 0) := hrF0.cell 3
            have xd4 : wr.cell? ⟨w.heap.size + 1, 4, none⟩ = some (.int .i64 0) := hrF0.cell 4
            have xd5 : wr.cell? ⟨w.heap.size + 1, 5, none⟩ = some (.int .i64 0) := hrF0.cell 5
            have xd6 : wr.cell? ⟨w.heap.size + 1, 6, none⟩ = some (.slice none 0 0) := hrF0.cell 6
            have xd7 : wr.cell? ⟨w.heap.size + 1, 7, none⟩ = some (.slice none 0 0) := hrF0.cell 7
            have xy0 := hrF0.frozen 0
            have xy1 := hrF0.frozen 1
            have xy2 := hrF0.frozen 2
            have xy3 := hrF0.frozen 3
            have xy4 := hrF0.frozen 4
            have xy5 := hrF0.frozen 5
            have xy6 := hrF0.frozen 6
            have xy7 := hrF0.frozen 7
            have lS := hbF0.lt
            have lO := hrF0.lt
            have hkF := set25_blk hrF0 (.int .i64 m.ses) (.int .i64 m.lim) (.int .i64 m.tmo) (.int .i64 m.base) (.int .i64 m.next) (.int .i64 m.cred) (.slice A5 es2.length c5) (.slice A6 qs2.length c6)
            have hTF := set25_turn hrF0 (base := base) (by omega) (.int .i64 m.ses) (.int .i64 m.lim) (.int .i64 m.tmo) (.int .i64 m.base) (.int .i64 m.next) (.int .i64 m.cred) (.slice A5 es2.length c5) (.slice A6 qs2.length c6)
            have hbF := set25_below HD.out.pr.bel (g := w.heap.size + 1) (by omega) (.int .i64 m.ses) (.int .i64 m.lim) (.int .i64 m.tmo) (.int .i64 m.base) (.int .i64 m.next) (.int .i64 m.cred) (.slice A5 es2.length c5) (.slice A6 qs2.length c6)
            have HF := Lib.hid (And.intro hkF (And.intro hbF (And.intro (HD.out.pr.eo.turn hTF (by simp) (oeR_ab (by simp))) (And.intro (HD.out.pr.eq.turn hTF (by simp) (qeR_ab (by simp))) (HD.out.pr.ks.turn hTF (by simp) (keR_ab (by simp) (by simp)))))))
            clear hkF hTF hbF hbF0 hrF0
            go_wp2_with fail
            refine bodyPost_ret (results_cell_tmp (t := 25) rfl _ _ (w.heap.size + 1) _ _ rfl HF.out.1 Try.underlying25 rfl (by kernel_rfl)) rfl ?_
            exact ⟨⟨_, _, rfl, by rw [HPE.out]; exact ⟨_, _, rfl, ⟨es2, HF.out.2.2.1.vec, HD.out.pr.om⟩, ⟨qs2, HF.out.2.2.2.1, HD.out.pr.qm⟩⟩, by rw [HPE.out]; exact ⟨xs2, HF.out.2.2.2.2.vec, by rw [HD.out.xe, HPB.out, List.append_nil]; rfl⟩⟩, HF.out.2.1⟩
          have j3 : decide (m.next < 1073741824) = true := decide_eq_true p3
          have HPB : Hid (probeP m = [⟨2, m.ses, m.next, 0, 0, [], []⟩]) := by
            show _ = _
            unfold probeP
            rw [if_pos ⟨HE1.out, HQ1.out, p3⟩]
          clear p3
          go_upto_region 20 with fail
          have xb0 : wr.cell? ⟨w.heap.size, 0, none⟩ = some (.int .i64 m.ses) := HD.out.pr.b.cell 0
          have hlx : xs2.length ≤ 200 := by have h1 := HD.out.few; have h2 := HD.out.mo.outl; omega
          have hbN : Below wr.heap.size wr (wr.alloc (.cells #[.int .i64 2, .int .i64 m.ses, .int .i64 m.next, .int .i64 0, .int .i64 0, .slice none 0 0, .slice none 0 0] 55)) := (Below.refl _ _).alloc (Nat.le_refl _) _
          have HN2 := Lib.hid (And.intro (HD.out.pr.below hbN) (And.intro (show KeR (wr.alloc (.cells #[.int .i64 2, .int .i64 m.ses, .int .i64 m.next, .int .i64 0, .int .i64 0, .slice none 0 0, .slice none 0 0] 55)) base ({ kind := 2, ses := m.ses, seq := m.next, ack := 0, cred := 0, vs := .slice none 0 0, sel := [], A := none, c := 0, p := [] } : Ke) from ⟨Vec.nil, Rd.none_⟩) (Blk.new wr 55 #[.int .i64 2, .int .i64 m.ses, .int .i64 m.next, .int .i64 0, .int .i64 0, .slice none 0 0, .slice none 0 0])))
          clear hbN
          have hE1 := encK_one ({ kind := 2, ses := m.ses, seq := m.next, ack := 0, cred := 0, vs := .slice none 0 0, sel := [], A := none, c := 0, p := [] } : Ke) _ _ _ rfl
          go_upto_region 21 with (at_builtin; refine wpList_push (E := encK) (R := KeR) (t := 55) (sz := 7) (base := base) (low := w.heap.size) (l := xs2) (b := ({ kind := 2, ses := m.ses, seq := m.next, ack := 0, cred := 0, vs := .slice none 0 0, sel := [], A := none, c := 0, p := [] } : Ke)) rfl (.tmp 132) (.tmp 138) 48 rfl _ 88 Try.underlying48 info55 rfl (by omega) hE1 rfl rfl HN2.out.1.ks hbw (keR_ab (by simp) (by simp)) HN2.out.2.1 rfl HN2.out.2.2 (by omega) (by omega) HN2.out.1.bel.size ?_; intro v9 w9 hp9; have h9 := HN2.out.1.pushK hbw hp9; obtain ⟨A10, c10, hv9, _, _⟩ := hp9.own.vform; subst hv9; have H9 := Lib.hid h9; clear h9 hp9)
          clear xb0 xb4 xb6 xb7 lB
          have hbF0 := H9.out.b
          have hrF0 := H9.out.r
          unfold snC at hbF0
          have xc0 : w9.cell? ⟨w.heap.size, 0, none⟩ = some (.int .i64 m.ses) := hbF0.cell 0
          have xc1 : w9.cell? ⟨w.heap.size, 1, none⟩ = some (.int .i64 m.lim) := hbF0.cell 1
          have xc2 : w9.cell? ⟨w.heap.size, 2, none⟩ = some (.int .i64 m.tmo) := hbF0.cell 2
          have xc3 : w9.cell? ⟨w.heap.size, 3, none⟩ = some (.int .i64 m.base) := hbF0.cell 3
          have xc4 : w9.cell? ⟨w.heap.size, 4, none⟩ = some (.int .i64 m.next) := hbF0.cell 4
          have xc5 : w9.cell? ⟨w.heap.size, 5, none⟩ = some (.int .i64 m.cred) := hbF0.cell 5
          have xc6 : w9.cell? ⟨w.heap.size, 6, none⟩ = some (.slice A5 es2.length c5) := hbF0.cell 6
          have xc7 : w9.cell? ⟨w.heap.size, 7, none⟩ = some (.slice A6 qs2.length c6) := hbF0.cell 7
          have xd0 : w9.cell? ⟨w.heap.size + 1, 0, none⟩ = some (.int .i64 0) := hrF0.cell 0
          have xd1 : w9.cell? ⟨w.heap.size + 1, 1, none⟩ = some (.int .i64 0) := hrF0.cell 1
          have xd2 : w9.cell? ⟨w.heap.size + 1, 2, none⟩ = some (.int .i64 0) := hrF0.cell 2
          have xd3 : w9.cell? ⟨w.heap.size + 1, 3, none⟩ = some (.int .i64 0) := hrF0.cell 3
          have xd4 : w9.cell? ⟨w.heap.size + 1, 4, none⟩ = some (.int .i64 0) := hrF0.cell 4
          have xd5 : w9.cell? ⟨w.heap.size + 1, 5, none⟩ = some (.int .i64 0) := hrF0.cell 5
          have xd6 : w9.cell? ⟨w.heap.size + 1, 6, none⟩ = some (.slice none 0 0) := hrF0.cell 6
          have xd7 : w9.cell? ⟨w.heap.size + 1, 7, none⟩ = some (.slice none 0 0) := hrF0.cell 7
          have xy0 := hrF0.frozen 0
          have xy1 := hrF0.frozen 1
          have xy2 := hrF0.frozen 2
          have xy3 := hrF0.frozen 3
          have xy4 := hrF0.frozen 4
          have xy5 := hrF0.frozen 5
          have xy6 := hrF0.frozen 6
          have xy7 := hrF0.frozen 7
          have lS := hbF0.lt
          have lO := hrF0.lt
          have hkF := set25_blk hrF0 (.int .i64 m.ses) (.int .i64 m.lim) (.int .i64 m.tmo) (.int .i64 m.base) (.int .i64 m.next) (.int .i64 m.cred) (.slice A5 es2.length c5) (.slice A6 qs2.length c6)
          have hTF := set25_turn hrF0 (base := base) (by omega) (.int .i64 m.ses) (.int .i64 m.lim) (.int .i64 m.tmo) (.int .i64 m.base) (.int .i64 m.next) (.int .i64 m.cred) (.slice A5 es2.length c5) (.slice A6 qs2.length c6)
          have hbF := set25_below H9.out.bel (g := w.heap.size + 1) (by omega) (.int .i64 m.ses) (.int .i64 m.lim) (.int .i64 m.tmo) (.int .i64 m.base) (.int .i64 m.next) (.int .i64 m.cred) (.slice A5 es2.length c5) (.slice A6 qs2.length c6)
          have HF := Lib.hid (And.intro hkF (And.intro hbF (And.intro (H9.out.eo.turn hTF (by simp) (oeR_ab (by simp))) (And.intro (H9.out.eq.turn hTF (by simp) (qeR_ab (by simp))) (H9.out.ks.turn hTF (by simp) (keR_ab (by simp) (by simp)))))))
          clear hkF hTF hbF hbF0 hrF0
          go_wp2_with fail
          refine bodyPost_ret (results_cell_tmp (t := 25) rfl _ _ (w.heap.size + 1) _ _ rfl HF.out.1 Try.underlying25 rfl (by kernel_rfl)) rfl ?_
          exact ⟨⟨_, _, rfl, by rw [HPE.out]; exact ⟨_, _, rfl, ⟨es2, HF.out.2.2.1.vec, HD.out.pr.om⟩, ⟨qs2, HF.out.2.2.2.1, HD.out.pr.qm⟩⟩, by rw [HPE.out]; exact ⟨xs2 ++ [({ kind := 2, ses := m.ses, seq := m.next, ack := 0, cred := 0, vs := .slice none 0 0, sel := [], A := none, c := 0, p := [] } : Ke)], (by have h := HF.out.2.2.2.2.vec; rw [List.length_append, List.length_singleton] at h; exact h), by rw [List.map_append, HD.out.xe, HPB.out]; rfl⟩⟩, HF.out.2.1⟩
        have k2 : decide (m.next < 1073741824) = true := decide_eq_true h2
        have HRB : Hid (roomB m = true) := by show _ = _; rw [HRU.out, k1, k2, decide_eq_true h0]; rfl
        clear h1 h2
        cases qs2 with
        | nil => simp at h0
        | cons q0 qt =>
        clear h0
        obtain ⟨g, off, c9, hv9, hlc, hcm, hbw9, hc⟩ := HD.out.pr.eq.at_ (fun _ => rfl) (by omega) (by simp)
        injection hv9 with hA9 hn9 hc9
        subst hA9 hc9
        clear hn9
        have xq : wr.cell? ⟨g, off, none⟩ = some (.slice q0.A q0.p.length q0.c) := by have h := hc 0 (by simp) 0 _ rfl; simpa using h
        clear hc
        rw [List.length_cons] at xb7 k0 k0b hq2 hlc
        go_upto_region 14 with fail
        refine wp_region_lexP [(0, 1), (2, 1), (3, 1), (1, 1), (4, 1), (5, 1), (6, 1), (7, 1), (8, 0), (9, 0)] [9] (fun w9 => w9.cell? ⟨w.heap.size, 4, none⟩ = some (.int .i64 m.next) ∧ w9.cell? ⟨w.heap.size, 7, none⟩ = some (.slice (some ⟨g, off, none⟩) (qt.length + 1) c6) ∧ w9.cell? ⟨g, off, none⟩ = some (.slice q0.A q0.p.length q0.c)) (by kernel_rfl) (by kernel_rfl) (by kernel_rfl) (by kernel_rfl) (by kernel_rfl) ⟨xb4, xb7, xq⟩ ?_
        repeat (refine lexP_read rfl (by rfl) (by rfl) (by intro w9 hS9; (try dsimp only at hS9); go_simp <;> with_reducible rfl) ?_; (try simp only [Act.put, List.getElem_toArray, List.getElem_cons_succ, List.getElem_cons_zero, List.setIfInBounds_toArray, List.set_cons_zero, List.set_cons_succ]))
        refine lexP_eff rfl (fun _ => trivial) ?_
        go_simp
        (try simp only [Act.put, List.getElem_toArray, List.getElem_cons_succ, List.getElem_cons_zero, List.setIfInBounds_toArray, List.set_cons_zero, List.set_cons_succ])
        refine lexP_eff rfl (fun _ => trivial) ?_
        go_simp
        (try simp only [Act.put, List.getElem_toArray, List.getElem_cons_succ, List.getElem_cons_zero, List.setIfInBounds_toArray, List.set_cons_zero, List.set_cons_succ])
        refine lexP_nil (panQ_normal ?_)
        have hbV : Below wr.heap.size wr (wr.alloc (.cells #[.int .i64 m.next, .int .i64 now, .int .i64 1, .bool false, .slice q0.A q0.p.length q0.c] 82)).drew := ((Below.refl _ wr).alloc (Nat.le_refl _) _).drew
        have hkX : Blk (wr.alloc (.cells #[.int .i64 m.next, .int .i64 now, .int .i64 1, .bool false, .slice q0.A q0.p.length q0.c] 82)).drew wr.heap.size 82 #[.int .i64 m.next, .int .i64 now, .int .i64 1, .bool false, .slice q0.A q0.p.length q0.c] := (Blk.new wr 82 #[.int .i64 m.next, .int .i64 now, .int .i64 1, .bool false, .slice q0.A q0.p.length q0.c]).drew
        have hqr := HD.out.pr.eq.el q0 (by simp)
        have HV := Lib.hid (And.intro (HD.out.pr.below hbV) (And.intro hkX (qeR_ab (T := []) (by simp) _ _ _ _ (Turn.of_below hbV) hqr)))
        have hob : ∀ j, (Value.slice A5 es2.length c5).ownBlock = some j → j < wr.heap.size := fun j hj => own_lt HD.out.pr.eo.own j hj
        have lX : wr.heap.size < (wr.alloc (.cells #[.int .i64 m.next, .int .i64 now, .int .i64 1, .bool false, .slice q0.A q0.p.length q0.c] 82)).drew.heap.size := hkX.lt
        obtain ⟨X, hX⟩ : ∃ x, x = wr.heap.size := ⟨_, rfl⟩
        rw [← hX] at HV lX hob ⊢
        have HSX : Hid (w.heap.size < X) := by rw [hX]; exact lB
        have HOB := Lib.hid hob
        clear hbV hkX hqr xb0 xb1 xb4 xb5 xb6 xb7 xq hbw9 lB hX hob
        generalize (wr.alloc (.cells #[.int .i64 m.next, .int .i64 now, .int .i64 1, .bool false, .slice q0.A q0.p.length q0.c] 82)).drew = V at *
        have xb7 : V.cell? ⟨w.heap.size, 7, none⟩ = some (.slice (some ⟨g, off, none⟩) (qt.length + 1) c6) := HV.out.1.b.cell 7
        have xz7 := HV.out.1.b.frozen 7
        have lB := HV.out.1.b.lt
        by_cases hcc : c6 = 1
        · subst hcc
          have hqt : qt = [] := List.eq_nil_of_length_eq_zero (by omega)
          have HQT := Lib.hid hqt
          clear hqt
          go_upto_region 16 with fail
          obtain rfl := HQT.out
          have hvt : Vec encQ QeR 42 1 V base (.slice (some ⟨g, off, none⟩) 0 0) [] := ⟨⟨_, 0, rfl, Nat.le_refl _, by unfold maxLen; omega, Rd.none_⟩, nofun⟩
          have hd7 := HV.out.1.cell hbw 7 (.slice (some ⟨g, off, none⟩) 0 0) { m with q := (([] : List Qe)).map Qe.p } (.slice (some ⟨g, off, none⟩) 0 0) (([] : List Qe)) rfl rfl hvt rfl
          have hX7 := HV.out.2.1.far (p := ⟨w.heap.size, 7, none⟩) (by have := HSX.out; dsimp only; omega) (.slice (some ⟨g, off, none⟩) 0 0)
          have hT7 : Turn base [25] V (V.setCell ⟨w.heap.size, 7, none⟩ (.slice (some ⟨g, off, none⟩) 0 0)) := (Turn.refl base [25] V).set HV.out.1.b (by simp) hbw 7 _
          have HV7 := Lib.hid (And.intro hd7 (And.intro hX7 (qeR_ab (T := [25]) (by simp) _ _ _ _ hT7 HV.out.2.2)))
          clear hvt hd7 hX7 hT7 xb7 xz7 lB lX
          generalize (V.setCell ⟨w.heap.size, 7, none⟩ (.slice (some ⟨g, off, none⟩) 0 0)) = V2 at *
          have xb6 : V2.cell? ⟨w.heap.size, 6, none⟩ = some (.slice A5 es2.length c5) := HV7.out.1.b.cell 6
          have x0 : V2.cell? ⟨X, 0, none⟩ = some (.int .i64 m.next) := HV7.out.2.1.cell 0
          have x1 : V2.cell? ⟨X, 1, none⟩ = some (.int .i64 now) := HV7.out.2.1.cell 1
          have x2 : V2.cell? ⟨X, 2, none⟩ = some (.int .i64 1) := HV7.out.2.1.cell 2
          have x3 : V2.cell? ⟨X, 3, none⟩ = some (.bool false) := HV7.out.2.1.cell 3
          have x4 : V2.cell? ⟨X, 4, none⟩ = some (.slice q0.A q0.p.length q0.c) := HV7.out.2.1.cell 4
          have hnl : es2.length ≤ 100 := by have h1 := HD.out.mo.outl; have h2 := HL2.out.1; omega
          have hbN : Below V2.heap.size V2 (V2.alloc (.cells #[.int .i64 m.next, .int .i64 now, .int .i64 1, .bool false, .slice q0.A q0.p.length q0.c] 82)) := (Below.refl _ _).alloc (Nat.le_refl _) _
          have HN := Lib.hid (And.intro (HV7.out.1.below hbN) (And.intro (HV7.out.2.1.below hbN HV7.out.2.1.lt) (And.intro (qeR_ab (T := []) (by simp) _ _ _ _ (Turn.of_below hbN) HV7.out.2.2) (Blk.new V2 82 #[.int .i64 m.next, .int .i64 now, .int .i64 1, .bool false, .slice q0.A q0.p.length q0.c]))))
          clear hbN
          go_upto_region 17 with (at_builtin; refine wpList_pushG (E := encO) (R := OeR) (t := 82) (sz := 5) (base := base) (low := w.heap.size) (l := es2) (b := (⟨m.next, now, 1, false, q0.A, q0.c, q0.p⟩ : Oe)) rfl (.tmp 101) (.tmp 103) 22 rfl _ 56 Try.underlying22 info82 rfl (by omega) (encO_one _) rfl rfl HN.out.1.eo hbw (oeR_ab (by simp)) HN.out.2.2.1 rfl HN.out.2.2.2 (by omega) (by omega) HN.out.1.bel.size ?_; intro v9 w9 hp9; have h9 := HN.out.1.push hbw hp9.p; have hk9 := HN.out.1.b.turn hp9.p.turn (by simp); have xo9 : w9.cell? ⟨w.heap.size, 6, none⟩ = some (.slice A5 es2.length c5) := hk9.cell 6; have zo9 := hk9.frozen 6; have lO9 := hk9.lt; have hx9 := HN.out.2.1.grown hp9.g (fun e => by have h1 := HOB.out X (by first | exact e | exact e.symm); omega); have hr9 := qeR_ab (T := [82]) (by simp) _ _ _ _ (hp9.p.turn.base hbw) HN.out.2.2.1; obtain ⟨A9, c9, hv9, _, _⟩ := hp9.p.own.vform; subst hv9; have H9 := Lib.hid (And.intro h9 (And.intro hx9 (And.intro hr9 hk9))); clear h9 hk9 hp9 hx9 hr9)
          have hl9 : (es2 ++ [(⟨m.next, now, 1, false, q0.A, q0.c, q0.p⟩ : Oe)]).length = es2.length + 1 := by simp
          have h8 := H9.out
          rw [hl9] at h8
          have hT9 : Turn base [25] w9 (w9.setCell ⟨w.heap.size, 6, none⟩ (.slice A9 (es2.length + 1) c9)) := (Turn.refl base [25] w9).set h8.2.2.2 (by simp) hbw 6 _
          have H8 := Lib.hid (And.intro h8.1 (And.intro (h8.2.1.far (p := ⟨w.heap.size, 6, none⟩) (by have := HSX.out; dsimp only; omega) (.slice A9 (es2.length + 1) c9)) (qeR_ab (T := [25]) (by simp) _ _ _ _ hT9 h8.2.2.1)))
          clear h8 hT9 hl9 xb6 x0 x1 x2 x3 x4 xo9 zo9 lO9 HN HV7 H9
          generalize (w9.setCell ⟨w.heap.size, 6, none⟩ (.slice A9 (es2.length + 1) c9)) = V3 at *
          have xb4 : V3.cell? ⟨w.heap.size, 4, none⟩ = some (.int .i64 m.next) := H8.out.1.b.cell 4
          have xz4 := H8.out.1.b.frozen 4
          have lB := H8.out.1.b.lt
          have nx1 := HD.out.mo.nx
          have kw : IntKind.i64.wrap (m.next + 1) = m.next + 1 := by rw [IntWalk.i64_in _ (by omega)]
          have h9 := H8.out.1.cell hbw 4 (.int .i64 (m.next + 1)) { { { m with q := (([] : List Qe)).map Qe.p } with out := m.out ++ [(⟨m.next, now, 1, false, q0.A, q0.c, q0.p⟩ : Oe).om] } with next := m.next + 1 } (.slice (some ⟨g, off, none⟩) 0 0) (([] : List Qe)) rfl rfl H8.out.1.eq H8.out.1.qm
          have hT4 : Turn base [25] V3 (V3.setCell ⟨w.heap.size, 4, none⟩ (.int .i64 (m.next + 1))) := (Turn.refl base [25] V3).set H8.out.1.b (by simp) hbw 4 _
          have HV9 := Lib.hid (And.intro h9 (And.intro (H8.out.2.1.far (p := ⟨w.heap.size, 4, none⟩) (by have := HSX.out; dsimp only; omega) (.int .i64 (m.next + 1))) (qeR_ab (T := [25]) (by simp) _ _ _ _ hT4 H8.out.2.2)))
          clear h9 hT4
          go_upto_region 18 with fail
          clear xb4 xz4 lB kw H8
          generalize (V3.setCell ⟨w.heap.size, 4, none⟩ (.int .i64 (m.next + 1))) = V4 at *
          have xb0 : V4.cell? ⟨w.heap.size, 0, none⟩ = some (.int .i64 m.ses) := HV9.out.1.b.cell 0
          have x0 : V4.cell? ⟨X, 0, none⟩ = some (.int .i64 m.next) := HV9.out.2.1.cell 0
          have x1 : V4.cell? ⟨X, 1, none⟩ = some (.int .i64 now) := HV9.out.2.1.cell 1
          have x2 : V4.cell? ⟨X, 2, none⟩ = some (.int .i64 1) := HV9.out.2.1.cell 2
          have x3 : V4.cell? ⟨X, 3, none⟩ = some (.bool false) := HV9.out.2.1.cell 3
          have x4 : V4.cell? ⟨X, 4, none⟩ = some (.slice q0.A q0.p.length q0.c) := HV9.out.2.1.cell 4
          have hq0p : q0.p.length ≤ 4096 := HD.out.mo.qs q0.p (by rw [← HD.out.pr.qm]; simp)
          have hcall := refdata_any m.ses (⟨m.next, now, 1, false, q0.A, q0.c, q0.p⟩ : Oe) base V4 HV9.out.2.2 (Nat.le_trans hq0p (by omega)) (Nat.le_trans hbw HV9.out.1.bel.size)
          have HCC := Lib.hid hcall
          clear hcall
          go_wp2_with fail
          refine HCC.out.mono ?_
          clear HCC
          rintro z w6 ⟨⟨pv, rfl, hpv⟩, hb6⟩
          have H6 := Lib.hid (HV9.out.1.below hb6)
          obtain ⟨vs, vp, rfl, hXs, A8, c8, rfl, hB6⟩ := hpv
          obtain ⟨As, cs, rfl, -, -⟩ := hXs.form
          have hlx : xs2.length ≤ 200 := by have h1 := HD.out.few; have h2 := HD.out.mo.outl; omega
          have hbN : Below w6.heap.size w6 (w6.alloc (.cells #[.int .i64 0, .int .i64 m.ses, .int .i64 m.next, .int .i64 0, .int .i64 0, .slice As 0 cs, .slice A8 q0.p.length c8] 55)) := (Below.refl _ _).alloc (Nat.le_refl _) _
          have HN := Lib.hid (And.intro (H6.out.below hbN) (And.intro (show KeR (w6.alloc (.cells #[.int .i64 0, .int .i64 m.ses, .int .i64 m.next, .int .i64 0, .int .i64 0, .slice As 0 cs, .slice A8 q0.p.length c8] 55)) base { kind := 0, ses := m.ses, seq := m.next, ack := 0, cred := 0, vs := .slice As 0 cs, sel := [], A := A8, c := c8, p := q0.p } from ⟨hXs.up hbN, hB6.up hbN⟩) (Blk.new w6 55 #[.int .i64 0, .int .i64 m.ses, .int .i64 m.next, .int .i64 0, .int .i64 0, .slice As 0 cs, .slice A8 q0.p.length c8])))
          clear hbN hXs hB6 hb6 x0 x1 x2 x3 x4 xb0
          dsimp only [pkC, dataP, Oe.om, List.length_nil]
          have hE1 := encK_one { kind := 0, ses := m.ses, seq := m.next, ack := 0, cred := 0, vs := .slice As 0 cs, sel := [], A := A8, c := c8, p := q0.p } _ _ _ rfl
          go_wp2_with (at_builtin; refine wpList_push (E := encK) (R := KeR) (t := 55) (sz := 7) (base := base) (low := w.heap.size) (l := xs2) (b := { kind := 0, ses := m.ses, seq := m.next, ack := 0, cred := 0, vs := .slice As 0 cs, sel := [], A := A8, c := c8, p := q0.p }) rfl (.tmp 110) (.tmp 115) 48 rfl _ 88 Try.underlying48 info55 rfl (by omega) hE1 rfl rfl HN.out.1.ks hbw (keR_ab (by simp) (by simp)) HN.out.2.1 rfl HN.out.2.2 (by omega) (by omega) HN.out.1.bel.size ?_; intro v9 w9 hp9; have h9 := HN.out.1.pushK hbw hp9; obtain ⟨A10, c10, hv9, _, _⟩ := hp9.own.vform; subst hv9; have H9 := Lib.hid h9; clear h9 hp9)
          have hmq : m.q = q0.p :: (([] : List Qe)).map Qe.p := by rw [← HD.out.pr.qm]; rfl
          have hl9 : (xs2 ++ [({ kind := 0, ses := m.ses, seq := m.next, ack := 0, cred := 0, vs := .slice As 0 cs, sel := [], A := A8, c := c8, p := q0.p } : Ke)]).length = xs2.length + 1 := by simp
          have HNF : Hid (Pr2 s w base now (pushM now m q0.p ((([] : List Qe)).map Qe.p)) (.slice A9 (es2.length + 1) c9) (.slice (some ⟨g, off, none⟩) 0 0) (es2 ++ [(⟨m.next, now, 1, false, q0.A, q0.c, q0.p⟩ : Oe)]) (([] : List Qe)) (.slice A10 (xs2.length + 1) c10) (xs2 ++ [{ kind := 0, ses := m.ses, seq := m.next, ack := 0, cred := 0, vs := .slice As 0 cs, sel := [], A := A8, c := c8, p := q0.p }]) (pre ++ [dataP m.ses ⟨m.next, now, 1, false, q0.p⟩]) w9) := by
            refine ⟨HD.out.mo.step HG.out.1 HRB.out hmq, ?_, ?_, ?_, ?_⟩
            · have h := H9.out
              rw [hl9] at h
              exact h
            · rw [List.map_append, HD.out.xe, List.append_assoc]
              rfl
            · have h1 := HD.out.few; rw [hl9]; simp only [pushM, List.length_append, List.length_singleton]; omega
            · rw [HD.out.fil, hmq, List.length_cons, fill_step HRB.out hmq]
              show _ = ((fillS now (pushM now m q0.p ((([] : List Qe)).map Qe.p)) ((([] : List Qe)).map Qe.p).length).1, _)
              simp only [List.append_assoc, List.singleton_append]
              rfl
          have hm1 : w9.cell? ⟨w.heap.size, 7, none⟩ = some (.slice (some ⟨g, off, none⟩) 0 0) := HNF.out.pr.b.cell 7
          have hm0 : wr.cell? ⟨w.heap.size, 7, none⟩ = some (.slice (some ⟨g, off, none⟩) 1 1) := HD.out.pr.b.cell 7
          have HM := Lib.hid (And.intro hm1 hm0)
          clear hmq hm1 hm0 hl9 H9
          go_roundw
          case rel => exact ⟨_, _, _, _, _, _, _, _, rfl, HNF⟩
          case measure => rw [HM.out.1, HM.out.2]; simp [lenOf]
        · have hvt0 := Vec.tail HV.out.1.eq rfl
          rw [if_neg hcc] at hvt0
          have hvt : Vec encQ QeR 42 1 V base (.slice (some ⟨g, off + 1, none⟩) qt.length (c6 - 1)) qt := hvt0
          clear hvt0
          go_upto_region 16 with fail
          have hd7 := HV.out.1.cell hbw 7 (.slice (some ⟨g, off + 1, none⟩) qt.length (c6 - 1)) { m with q := (qt).map Qe.p } (.slice (some ⟨g, off + 1, none⟩) qt.length (c6 - 1)) (qt) rfl rfl hvt rfl
          have hX7 := HV.out.2.1.far (p := ⟨w.heap.size, 7, none⟩) (by have := HSX.out; dsimp only; omega) (.slice (some ⟨g, off + 1, none⟩) qt.length (c6 - 1))
          have hT7 : Turn base [25] V (V.setCell ⟨w.heap.size, 7, none⟩ (.slice (some ⟨g, off + 1, none⟩) qt.length (c6 - 1))) := (Turn.refl base [25] V).set HV.out.1.b (by simp) hbw 7 _
          have HV7 := Lib.hid (And.intro hd7 (And.intro hX7 (qeR_ab (T := [25]) (by simp) _ _ _ _ hT7 HV.out.2.2)))
          clear hvt hd7 hX7 hT7 xb7 xz7 lB lX
          generalize (V.setCell ⟨w.heap.size, 7, none⟩ (.slice (some ⟨g, off + 1, none⟩) qt.length (c6 - 1))) = V2 at *
          have xb6 : V2.cell? ⟨w.heap.size, 6, none⟩ = some (.slice A5 es2.length c5) := HV7.out.1.b.cell 6
          have x0 : V2.cell? ⟨X, 0, none⟩ = some (.int .i64 m.next) := HV7.out.2.1.cell 0
          have x1 : V2.cell? ⟨X, 1, none⟩ = some (.int .i64 now) := HV7.out.2.1.cell 1
          have x2 : V2.cell? ⟨X, 2, none⟩ = some (.int .i64 1) := HV7.out.2.1.cell 2
          have x3 : V2.cell? ⟨X, 3, none⟩ = some (.bool false) := HV7.out.2.1.cell 3
          have x4 : V2.cell? ⟨X, 4, none⟩ = some (.slice q0.A q0.p.length q0.c) := HV7.out.2.1.cell 4
          have hnl : es2.length ≤ 100 := by have h1 := HD.out.mo.outl; have h2 := HL2.out.1; omega
          have hbN : Below V2.heap.size V2 (V2.alloc (.cells #[.int .i64 m.next, .int .i64 now, .int .i64 1, .bool false, .slice q0.A q0.p.length q0.c] 82)) := (Below.refl _ _).alloc (Nat.le_refl _) _
          have HN := Lib.hid (And.intro (HV7.out.1.below hbN) (And.intro (HV7.out.2.1.below hbN HV7.out.2.1.lt) (And.intro (qeR_ab (T := []) (by simp) _ _ _ _ (Turn.of_below hbN) HV7.out.2.2) (Blk.new V2 82 #[.int .i64 m.next, .int .i64 now, .int .i64 1, .bool false, .slice q0.A q0.p.length q0.c]))))
          clear hbN
          go_upto_region 17 with (at_builtin; refine wpList_pushG (E := encO) (R := OeR) (t := 82) (sz := 5) (base := base) (low := w.heap.size) (l := es2) (b := (⟨m.next, now, 1, false, q0.A, q0.c, q0.p⟩ : Oe)) rfl (.tmp 101) (.tmp 103) 22 rfl _ 56 Try.underlying22 info82 rfl (by omega) (encO_one _) rfl rfl HN.out.1.eo hbw (oeR_ab (by simp)) HN.out.2.2.1 rfl HN.out.2.2.2 (by omega) (by omega) HN.out.1.bel.size ?_; intro v9 w9 hp9; have h9 := HN.out.1.push hbw hp9.p; have hk9 := HN.out.1.b.turn hp9.p.turn (by simp); have xo9 : w9.cell? ⟨w.heap.size, 6, none⟩ = some (.slice A5 es2.length c5) := hk9.cell 6; have zo9 := hk9.frozen 6; have lO9 := hk9.lt; have hx9 := HN.out.2.1.grown hp9.g (fun e => by have h1 := HOB.out X (by first | exact e | exact e.symm); omega); have hr9 := qeR_ab (T := [82]) (by simp) _ _ _ _ (hp9.p.turn.base hbw) HN.out.2.2.1; obtain ⟨A9, c9, hv9, _, _⟩ := hp9.p.own.vform; subst hv9; have H9 := Lib.hid (And.intro h9 (And.intro hx9 (And.intro hr9 hk9))); clear h9 hk9 hp9 hx9 hr9)
          have hl9 : (es2 ++ [(⟨m.next, now, 1, false, q0.A, q0.c, q0.p⟩ : Oe)]).length = es2.length + 1 := by simp
          have h8 := H9.out
          rw [hl9] at h8
          have hT9 : Turn base [25] w9 (w9.setCell ⟨w.heap.size, 6, none⟩ (.slice A9 (es2.length + 1) c9)) := (Turn.refl base [25] w9).set h8.2.2.2 (by simp) hbw 6 _
          have H8 := Lib.hid (And.intro h8.1 (And.intro (h8.2.1.far (p := ⟨w.heap.size, 6, none⟩) (by have := HSX.out; dsimp only; omega) (.slice A9 (es2.length + 1) c9)) (qeR_ab (T := [25]) (by simp) _ _ _ _ hT9 h8.2.2.1)))
          clear h8 hT9 hl9 xb6 x0 x1 x2 x3 x4 xo9 zo9 lO9 HN HV7 H9
          generalize (w9.setCell ⟨w.heap.size, 6, none⟩ (.slice A9 (es2.length + 1) c9)) = V3 at *
          have xb4 : V3.cell? ⟨w.heap.size, 4, none⟩ = some (.int .i64 m.next) := H8.out.1.b.cell 4
          have xz4 := H8.out.1.b.frozen 4
          have lB := H8.out.1.b.lt
          have nx1 := HD.out.mo.nx
          have kw : IntKind.i64.wrap (m.next + 1) = m.next + 1 := by rw [IntWalk.i64_in _ (by omega)]
          have h9 := H8.out.1.cell hbw 4 (.int .i64 (m.next + 1)) { { { m with q := (qt).map Qe.p } with out := m.out ++ [(⟨m.next, now, 1, false, q0.A, q0.c, q0.p⟩ : Oe).om] } with next := m.next + 1 } (.slice (some ⟨g, off + 1, none⟩) qt.length (c6 - 1)) (qt) rfl rfl H8.out.1.eq H8.out.1.qm
          have hT4 : Turn base [25] V3 (V3.setCell ⟨w.heap.size, 4, none⟩ (.int .i64 (m.next + 1))) := (Turn.refl base [25] V3).set H8.out.1.b (by simp) hbw 4 _
          have HV9 := Lib.hid (And.intro h9 (And.intro (H8.out.2.1.far (p := ⟨w.heap.size, 4, none⟩) (by have := HSX.out; dsimp only; omega) (.int .i64 (m.next + 1))) (qeR_ab (T := [25]) (by simp) _ _ _ _ hT4 H8.out.2.2)))
          clear h9 hT4
          go_upto_region 18 with fail
          clear xb4 xz4 lB kw H8
          generalize (V3.setCell ⟨w.heap.size, 4, none⟩ (.int .i64 (m.next + 1))) = V4 at *
          have xb0 : V4.cell? ⟨w.heap.size, 0, none⟩ = some (.int .i64 m.ses) := HV9.out.1.b.cell 0
          have x0 : V4.cell? ⟨X, 0, none⟩ = some (.int .i64 m.next) := HV9.out.2.1.cell 0
          have x1 : V4.cell? ⟨X, 1, none⟩ = some (.int .i64 now) := HV9.out.2.1.cell 1
          have x2 : V4.cell? ⟨X, 2, none⟩ = some (.int .i64 1) := HV9.out.2.1.cell 2
          have x3 : V4.cell? ⟨X, 3, none⟩ = some (.bool false) := HV9.out.2.1.cell 3
          have x4 : V4.cell? ⟨X, 4, none⟩ = some (.slice q0.A q0.p.length q0.c) := HV9.out.2.1.cell 4
          have hq0p : q0.p.length ≤ 4096 := HD.out.mo.qs q0.p (by rw [← HD.out.pr.qm]; simp)
          have hcall := refdata_any m.ses (⟨m.next, now, 1, false, q0.A, q0.c, q0.p⟩ : Oe) base V4 HV9.out.2.2 (Nat.le_trans hq0p (by omega)) (Nat.le_trans hbw HV9.out.1.bel.size)
          have HCC := Lib.hid hcall
          clear hcall
          go_wp2_with fail
          refine HCC.out.mono ?_
          clear HCC
          rintro z w6 ⟨⟨pv, rfl, hpv⟩, hb6⟩
          have H6 := Lib.hid (HV9.out.1.below hb6)
          obtain ⟨vs, vp, rfl, hXs, A8, c8, rfl, hB6⟩ := hpv
          obtain ⟨As, cs, rfl, -, -⟩ := hXs.form
          have hlx : xs2.length ≤ 200 := by have h1 := HD.out.few; have h2 := HD.out.mo.outl; omega
          have hbN : Below w6.heap.size w6 (w6.alloc (.cells #[.int .i64 0, .int .i64 m.ses, .int .i64 m.next, .int .i64 0, .int .i64 0, .slice As 0 cs, .slice A8 q0.p.length c8] 55)) := (Below.refl _ _).alloc (Nat.le_refl _) _
          have HN := Lib.hid (And.intro (H6.out.below hbN) (And.intro (show KeR (w6.alloc (.cells #[.int .i64 0, .int .i64 m.ses, .int .i64 m.next, .int .i64 0, .int .i64 0, .slice As 0 cs, .slice A8 q0.p.length c8] 55)) base { kind := 0, ses := m.ses, seq := m.next, ack := 0, cred := 0, vs := .slice As 0 cs, sel := [], A := A8, c := c8, p := q0.p } from ⟨hXs.up hbN, hB6.up hbN⟩) (Blk.new w6 55 #[.int .i64 0, .int .i64 m.ses, .int .i64 m.next, .int .i64 0, .int .i64 0, .slice As 0 cs, .slice A8 q0.p.length c8])))
          clear hbN hXs hB6 hb6 x0 x1 x2 x3 x4 xb0
          dsimp only [pkC, dataP, Oe.om, List.length_nil]
          have hE1 := encK_one { kind := 0, ses := m.ses, seq := m.next, ack := 0, cred := 0, vs := .slice As 0 cs, sel := [], A := A8, c := c8, p := q0.p } _ _ _ rfl
          go_wp2_with (at_builtin; refine wpList_push (E := encK) (R := KeR) (t := 55) (sz := 7) (base := base) (low := w.heap.size) (l := xs2) (b := { kind := 0, ses := m.ses, seq := m.next, ack := 0, cred := 0, vs := .slice As 0 cs, sel := [], A := A8, c := c8, p := q0.p }) rfl (.tmp 110) (.tmp 115) 48 rfl _ 88 Try.underlying48 info55 rfl (by omega) hE1 rfl rfl HN.out.1.ks hbw (keR_ab (by simp) (by simp)) HN.out.2.1 rfl HN.out.2.2 (by omega) (by omega) HN.out.1.bel.size ?_; intro v9 w9 hp9; have h9 := HN.out.1.pushK hbw hp9; obtain ⟨A10, c10, hv9, _, _⟩ := hp9.own.vform; subst hv9; have H9 := Lib.hid h9; clear h9 hp9)
          have hmq : m.q = q0.p :: (qt).map Qe.p := by rw [← HD.out.pr.qm]; rfl
          have hl9 : (xs2 ++ [({ kind := 0, ses := m.ses, seq := m.next, ack := 0, cred := 0, vs := .slice As 0 cs, sel := [], A := A8, c := c8, p := q0.p } : Ke)]).length = xs2.length + 1 := by simp
          have HNF : Hid (Pr2 s w base now (pushM now m q0.p ((qt).map Qe.p)) (.slice A9 (es2.length + 1) c9) (.slice (some ⟨g, off + 1, none⟩) qt.length (c6 - 1)) (es2 ++ [(⟨m.next, now, 1, false, q0.A, q0.c, q0.p⟩ : Oe)]) (qt) (.slice A10 (xs2.length + 1) c10) (xs2 ++ [{ kind := 0, ses := m.ses, seq := m.next, ack := 0, cred := 0, vs := .slice As 0 cs, sel := [], A := A8, c := c8, p := q0.p }]) (pre ++ [dataP m.ses ⟨m.next, now, 1, false, q0.p⟩]) w9) := by
            refine ⟨HD.out.mo.step HG.out.1 HRB.out hmq, ?_, ?_, ?_, ?_⟩
            · have h := H9.out
              rw [hl9] at h
              exact h
            · rw [List.map_append, HD.out.xe, List.append_assoc]
              rfl
            · have h1 := HD.out.few; rw [hl9]; simp only [pushM, List.length_append, List.length_singleton]; omega
            · rw [HD.out.fil, hmq, List.length_cons, fill_step HRB.out hmq]
              show _ = ((fillS now (pushM now m q0.p ((qt).map Qe.p)) ((qt).map Qe.p).length).1, _)
              simp only [List.append_assoc, List.singleton_append]
              rfl
          have hm1 : w9.cell? ⟨w.heap.size, 7, none⟩ = some (.slice (some ⟨g, off + 1, none⟩) qt.length (c6 - 1)) := HNF.out.pr.b.cell 7
          have hm0 : wr.cell? ⟨w.heap.size, 7, none⟩ = some (.slice (some ⟨g, off, none⟩) (qt.length + 1) c6) := HD.out.pr.b.cell 7
          have HM := Lib.hid (And.intro hm1 hm0)
          clear hmq hm1 hm0 hl9 H9
          go_roundw
          case rel => exact ⟨_, _, _, _, _, _, _, _, rfl, HNF⟩
          case measure => rw [HM.out.1, HM.out.2]; simp [lenOf]
end Go.Proofs.Ytanmndhdhlmjgaa
