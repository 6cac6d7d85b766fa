/- A transmission in memory: its model, its rows, and what appending to them keeps. No condition. -/
import Derived.Test.YtanmndhdhlmjgaaXc
import Derived.Test.YtanmndhdhlmjgaaFq
namespace Go.Proofs.Ytanmndhdhlmjgaa
open Go.RowKit
/-- a transmission -/
structure RunM where
  s : Sm
  r : Rm
  pu : List (List Nat)
  dl : List (List Nat)
  pk : List Pm
  an : List Pm
  now : Int
/-- its values in memory -/
structure RVal where
  vo : Value
  vq : Value
  ve : Value
  vpu : Value
  vdl : Value
  vpk : Value
  van : Value
  pu : List Qe
  dl : List Qe
  pk : List Ke
  an : List Ke
def runC (m : RunM) (u : RVal) : Array Value := #[.int .i64 m.s.ses, .int .i64 m.s.lim, .int .i64 m.s.tmo, .int .i64 m.s.base, .int .i64 m.s.next, .int .i64 m.s.cred, u.vo, u.vq, .int .i64 m.r.ses, .int .i64 m.r.lim, .int .i64 m.r.next, u.ve, u.vpu, u.vdl, u.vpk, u.van, .int .i64 m.now]
theorem own_block_lt' {w : World} {base : Nat} {e : TypeId} {size : Nat} {v : Value} {n : Nat} {xs : List Value} (h : w.ownsRow base e size v n xs) : ∀ k, v.ownBlock = some k → k < w.heap.size := by
  intro k hk
  rcases h.2 with ⟨rfl, _⟩ | ⟨g, cap, cur, rfl, _, hb, _⟩
  · simp [Value.ownBlock] at hk
  · simp [Value.ownBlock] at hk
    subst hk
    exact (Array.getElem?_eq_some_iff.1 hb).1
section
variable {α : Type} {E : α → List Value} {R : World → Nat → α → Prop} {t : TypeId} {sz : Nat} {base low : Nat} {l l2 : List α} {w W W' : World} {v v' : Value} {P : Program}
theorem Own1.grownFar (h : Own1 E R t sz W base low v l) {row : Option Nat} (hg : W.grownBy W' row) (hne : ∀ g, v.ownBlock = some g → row ≠ some g) (hT : Turn base [t] W W') (hR : Abides R [t]) : Own1 E R t sz W' base low v l :=
  ⟨own_keep h.own (fun g e => hg.block g (own_block_lt' h.own g e) (fun q => hne g e q.symm)), fun e he => hR _ _ _ _ hT (h.el e he)⟩
theorem Rd.grownFar {A : Option Addr} {n : Nat} {xs : List Value} (h : Rd W base t sz A n xs) {row : Option Nat} (hg : W.grownBy W' row) (hne : ∀ ad, A = some ad → 0 < n → row ≠ some ad.block) : Rd W' base t sz A n xs := by
  have key : 0 < n → ∀ ad, A = some ad → ad.block < W.heap.size → W'.heap[ad.block]? = W.heap[ad.block]? := fun h0 ad e hl => hg.block _ hl (fun q => hne ad e h0 q.symm)
  refine ⟨⟨h.rd.1, fun h0 => ?_⟩, fun h0 ad e => ?_⟩
  · obtain ⟨ad, e, hl, hc⟩ := h.rd.2 h0
    exact ⟨ad, e, Nat.lt_of_lt_of_le hl hg.size, fun j u hu => (World.cell?_of_block (by rw [block_of_add]; exact key h0 ad e hl)).trans (hc j u hu)⟩
  · obtain ⟨ad2, e2, hl, -⟩ := h.rd.2 h0
    rw [e] at e2
    injection e2 with e2
    subst e2
    rcases h.tg h0 ad e with h1 | ⟨cs, h1⟩
    · exact .inl h1
    · refine .inr ⟨cs, ?_⟩
      unfold Blk at h1 ⊢
      rw [key h0 ad e hl]
      exact h1
theorem Vec.grownFar (h : Vec E R t sz W base v l) {row : Option Nat} (hg : W.grownBy W' row) (hne : ∀ g, v.ownBlock = some g → l ≠ [] → row ≠ some g) (hT : Turn base [t] W W') (hR : Abides R [t]) : Vec E R t sz W' base v l := by
  obtain ⟨A, c, rfl, h1, h2, h3⟩ := h.val
  refine ⟨⟨A, c, rfl, h1, h2, h3.grownFar hg (fun ad e h0 => hne ad.block (by rw [e]; rfl) (by rintro rfl; simp at h0))⟩, fun e he => hR _ _ _ _ hT (h.el e he)⟩
theorem Vec.blt (h : Vec E R t sz W base v l) (hn : l ≠ []) : ∀ g, v.ownBlock = some g → g < W.heap.size := by
  obtain ⟨A, c, rfl, h1, h2, h3⟩ := h.val
  intro g hg
  obtain ⟨ad, e, hl, -⟩ := h3.rd.2 (List.length_pos_iff.2 hn)
  subst e
  simp [Value.ownBlock] at hg
  omega
/-- what an append of several elements leaves -/
structure PushedN {α : Type} (E : α → List Value) (R : World → Nat → α → Prop) (t : TypeId) (sz : Nat) (base low : Nat) (l l2 : List α) (w : World) (v v' : Value) (w' : World) : Prop where
  own : Own1 E R t sz w' base low v' (l ++ l2)
  turn : Turn low [t] w w'
  g : w.grownBy w' v.ownBlock
  nb : v'.ownBlock = v.ownBlock ∨ v'.ownBlock = some w.heap.size
theorem run_pushN (st ty : TypeId) (z : Value) (bytes : Nat) (ht : P.underlying st = some (.slice t)) (hinf : (P.info? t).map (fun i => (i.zero, i.size, i.bytes)) = some (some z, sz, bytes)) (hzs : z.cells.size = sz) (hsz : 0 < sz) (hE1 : ∀ e ∈ l2, ∀ u ∈ E e, u.oneCell' = true)
    (h : Own1 E R t sz w base low v l) (hl : base ≤ low) (hR : Abides R [t]) (hrb : ∀ e ∈ l2, R w base e) {A : Option Addr} {n c : Nat} (hg : Reads w w.heap.size sz A n (l2.flatMap E)) (hn2 : l2.length = n) (hn : l.length + n ≤ 1000000) (hby : bytes ≤ 100) (hlow : low ≤ w.heap.size) :
    ∃ v' w', (Builtin.append_ #[st, st] ty #[v, .slice A n c]).run P w = .ok v' w' ∧ PushedN E R t sz base low l l2 w v v' w' := by
  obtain ⟨i0, hi0, hz0, hz1, hz2⟩ := info_parts hinf
  obtain ⟨v', w', hrun, ho, hgr, hnb⟩ := run_append_any (P := P) w low st ty t i0 z sz bytes ht hi0 hz0 hz1 hz2 hzs hsz v l.length (l.flatMap E) h.own w.heap.size A n c (l2.flatMap E) hg (fun u hu => by obtain ⟨e, he, hu⟩ := List.mem_flatMap.1 hu; exact hE1 e he u hu) (by simp only [maxLen]; omega)
    (Nat.le_trans (Nat.mul_le_mul (show l.length + n ≤ 1000000 by omega) hby) (by omega)) hlow
  have hT : Turn low [t] w w' := (Turn.refl low [t] w).grown h.own hgr (by simp) (Nat.le_refl _)
  refine ⟨v', w', hrun, ⟨⟨by rw [List.length_append, hn2, List.flatMap_append]; exact ho, fun e he => ?_⟩, hT, hgr, hnb⟩⟩
  rcases List.mem_append.1 he with he | he
  · exact hR _ _ _ _ (hT.base hl) (h.el e he)
  · exact hR _ _ _ _ (hT.base hl) (hrb e he)
theorem wpList_pushN {ops : Array Oper} {rest : List Oper} {o : Oper} {a : Act} {Q : Exit → Act → World → Prop} (hgd : o.guard = none) (s x : Operand) (st : TypeId) (ho : o.op = .call { callee := .builtin .append, args := #[s, x], argTypes := #[st, st] }) (z : Value) (bytes : Nat) (ht : P.underlying st = some (.slice t)) (hinf : (P.info? t).map (fun i => (i.zero, i.size, i.bytes)) = some (some z, sz, bytes)) (hzs : z.cells.size = sz) (hsz : 0 < sz) (hE1 : ∀ e ∈ l2, ∀ u ∈ E e, u.oneCell' = true)
    (hs : a.eval s = v) (h : Own1 E R t sz w base low v l) (hl : base ≤ low) (hR : Abides R [t]) (hrb : ∀ e ∈ l2, R w base e) {A : Option Addr} {n c : Nat} (hx : a.eval x = .slice A n c) (hg : Reads w w.heap.size sz A n (l2.flatMap E)) (hn2 : l2.length = n) (hn : l.length + n ≤ 1000000) (hby : bytes ≤ 100) (hlow : low ≤ w.heap.size)
    (hK : ∀ v' w', PushedN E R t sz base low l l2 w v v' w' → wpList P ops Q rest (a.put o.dst v') w') : wpList P ops Q (o :: rest) a w := by
  obtain ⟨v', w', hrun, hp⟩ := run_pushN (P := P) st o.type z bytes ht hinf hzs hsz hE1 h hl hR hrb (c := c) hg hn2 hn hby hlow
  refine wpList_plain hgd fun K hK' => ?_
  unfold Oper.wp execOp
  simp only [ho, resolve, invoke, builtin, Sem.run_bind, Sem.run_pure, Result.andThen_ok, List.map_toArray, List.map_cons, List.map_nil, hs, hx, hrun]
  exact hK' _ _ (hK v' w' hp)
theorem lexP_pushN {F : Fence} {n0 : Nat} {ops : Array Oper} {Q : Exit → Act → World → Prop} {S : World → Prop} {Z : List Nat} {i : Nat} {is : List (Nat × Nat)} {o : Oper} {a : Act} (hi : ops[i]? = some o) (hF : ∀ f, F.fn f) (s x : Operand) (st : TypeId) (ho : o.op = .call { callee := .builtin .append, args := #[s, x], argTypes := #[st, st] }) (z : Value) (bytes : Nat) (ht : P.underlying st = some (.slice t)) (hinf : (P.info? t).map (fun i => (i.zero, i.size, i.bytes)) = some (some z, sz, bytes)) (hzs : z.cells.size = sz) (hsz : 0 < sz) (hE1 : ∀ e ∈ l2, ∀ u ∈ E e, u.oneCell' = true)
    (hs : a.eval s = v) (h : Own1 E R t sz w base low v l) (hl : base ≤ low) (hR : Abides R [t]) (hrb : ∀ e ∈ l2, R w base e) {A : Option Addr} {n c : Nat} (hx : a.eval x = .slice A n c) (hg : Reads w w.heap.size sz A n (l2.flatMap E)) (hn2 : l2.length = n) (hn : l.length + n ≤ 1000000) (hby : bytes ≤ 100) (hlow : low ≤ w.heap.size)
    (hK : ∀ v' w', PushedN E R t sz base low l l2 w v v' w' → (Z.contains i = true ∨ S w') ∧ lexP F n0 P ops Q S Z is (a.put o.dst v') w') : lexP F n0 P ops Q S Z ((i, 0) :: is) a w := by
  obtain ⟨v', w', hrun, hp⟩ := run_pushN (P := P) st o.type z bytes ht hinf hzs hsz hE1 h hl hR hrb (c := c) hg hn2 hn hby hlow
  refine lexP_eff hi hF ?_
  simp only [execOp, ho, resolve, invoke, builtin, Sem.run_bind, Sem.run_pure, Result.andThen_ok, List.map_toArray, List.map_cons, List.map_nil, hs, hx, hrun]
  exact hK v' w' hp
end
/-- the rows of a transmission -/
structure RowsI (W : World) (base : Nat) (m : RunM) (u : RVal) : Prop where
  so : OsV W base m.s.out u.vo
  sq : QsV W base m.s.q u.vq
  re : AsV W base m.r.early u.ve
  pu : Own1 encQ QeR 42 1 W base base u.vpu u.pu
  puM : u.pu.map Qe.p = m.pu
  dl : Own1 encQ QeR 42 1 W base base u.vdl u.dl
  dlM : u.dl.map Qe.p = m.dl
  pk : Own1 encK KeR 55 7 W base base u.vpk u.pk
  pkM : u.pk.map Ke.pm = m.pk
  an : Own1 encK KeR 55 7 W base base u.van u.an
  anM : u.an.map Ke.pm = m.an
  ap1 : ∀ g, u.vpu.ownBlock = some g → u.vdl.ownBlock ≠ some g
  ap2 : ∀ g, u.vpk.ownBlock = some g → u.van.ownBlock ≠ some g
  ap3 : ∀ g, u.vq.ownBlock = some g → m.s.q ≠ [] → u.vpu.ownBlock ≠ some g ∧ u.vdl.ownBlock ≠ some g
/-- a transmission in block X -/
structure RunI (W : World) (base X : Nat) (m : RunM) (u : RVal) : Prop where
  rows : RowsI W base m u
  blk : Blk W X 73 (runC m u)
section
variable {W W' : World} {base X : Nat} {m : RunM} {u : RVal}
theorem RowsI.turn (h : RowsI W base m u) {T : List TypeId} (hT : Turn base T W W') (h82 : 82 ∉ T) (h42 : 42 ∉ T) (h84 : 84 ∉ T) (h55 : 55 ∉ T) (h5 : 5 ∉ T) (h87 : 87 ∉ T) : RowsI W' base m u :=
  ⟨h.so.turn hT h5 h82, h.sq.turn hT h5 h42, h.re.turn hT h5 h84, h.pu.turn hT h42 (qeR_ab h5), h.puM, h.dl.turn hT h42 (qeR_ab h5), h.dlM, h.pk.turn hT h55 (keR_ab h5 h87), h.pkM, h.an.turn hT h55 (keR_ab h5 h87), h.anM, h.ap1, h.ap2, h.ap3⟩
theorem RowsI.below (h : RowsI W base m u) (hb : Below W.heap.size W W') : RowsI W' base m u := h.turn (T := []) (Turn.of_below hb) (by simp) (by simp) (by simp) (by simp) (by simp) (by simp)
theorem RunI.below (h : RunI W base X m u) (hb : Below W.heap.size W W') : RunI W' base X m u := ⟨h.rows.below hb, h.blk.below hb h.blk.lt⟩
theorem QsV.grownFar {l : List (List Nat)} {v : Value} (h : QsV W base l v) {row : Option Nat} (hg : W.grownBy W' row) (hne : ∀ g, v.ownBlock = some g → l ≠ [] → row ≠ some g) (hT : Turn base [42] W W') : QsV W' base l v := by
  obtain ⟨es, hV, he⟩ := h
  exact ⟨es, hV.grownFar hg (fun g e hn => hne g e (by rw [← he]; simpa using hn)) hT (qeR_ab (by simp)), he⟩
theorem QsV.blt {l : List (List Nat)} {v : Value} (h : QsV W base l v) (hn : l ≠ []) : ∀ g, v.ownBlock = some g → g < W.heap.size := by
  obtain ⟨es, hV, he⟩ := h
  exact hV.blt (by rintro rfl; exact hn (by rw [← he]; rfl))
/-- payloads are appended to what was pushed -/
theorem RowsI.pushPu (h : RowsI W base m u) {l2 : List Qe} {v' : Value} (hp : PushedN encQ QeR 42 1 base base u.pu l2 W u.vpu v' W') : RowsI W' base { m with pu := m.pu ++ l2.map Qe.p } { u with vpu := v', pu := u.pu ++ l2 } := by
  have hT := hp.turn
  refine ⟨h.so.turn hT (by simp) (by simp), h.sq.grownFar hp.g (fun g e hn => (h.ap3 g e hn).1) hT, h.re.turn hT (by simp) (by simp), hp.own, by rw [List.map_append, h.puM], h.dl.grownFar hp.g (fun g e q => h.ap1 g q e) hT (qeR_ab (by simp)), h.dlM, h.pk.turn hT (by simp) (keR_ab (by simp) (by simp)), h.pkM, h.an.turn hT (by simp) (keR_ab (by simp) (by simp)), h.anM, fun g e => ?_, h.ap2, fun g e hn => ⟨fun q => ?_, (h.ap3 g e hn).2⟩⟩
  · rcases hp.nb with h1 | h1
    · exact h.ap1 g (h1.symm.trans e)
    · intro q
      have h2 := own_block_lt' h.dl.own g q
      have h3 := h1.symm.trans e
      injection h3 with h3
      omega
  · rcases hp.nb with h1 | h1
    · exact (h.ap3 g e hn).1 (h1.symm.trans q)
    · have h2 := h.sq.blt hn g e
      have h3 := h1.symm.trans q
      injection h3 with h3
      omega
/-- payloads are appended to what was delivered -/
theorem RowsI.pushDl (h : RowsI W base m u) {l2 : List Qe} {v' : Value} (hp : PushedN encQ QeR 42 1 base base u.dl l2 W u.vdl v' W') : RowsI W' base { m with dl := m.dl ++ l2.map Qe.p } { u with vdl := v', dl := u.dl ++ l2 } := by
  have hT := hp.turn
  refine ⟨h.so.turn hT (by simp) (by simp), h.sq.grownFar hp.g (fun g e hn => (h.ap3 g e hn).2) hT, h.re.turn hT (by simp) (by simp), h.pu.grownFar hp.g (fun g e => h.ap1 g e) hT (qeR_ab (by simp)), h.puM, hp.own, by rw [List.map_append, h.dlM], h.pk.turn hT (by simp) (keR_ab (by simp) (by simp)), h.pkM, h.an.turn hT (by simp) (keR_ab (by simp) (by simp)), h.anM, fun g e q => ?_, h.ap2, fun g e hn => ⟨(h.ap3 g e hn).1, fun q => ?_⟩⟩
  · rcases hp.nb with h1 | h1
    · exact h.ap1 g e (h1.symm.trans q)
    · have h2 := own_block_lt' h.pu.own g e
      have h3 := h1.symm.trans q
      injection h3 with h3
      omega
  · rcases hp.nb with h1 | h1
    · exact (h.ap3 g e hn).2 (h1.symm.trans q)
    · have h2 := h.sq.blt hn g e
      have h3 := h1.symm.trans q
      injection h3 with h3
      omega
/-- packets are appended -/
theorem RowsI.pushPk (h : RowsI W base m u) {l2 : List Ke} {v' : Value} (hp : PushedN encK KeR 55 7 base base u.pk l2 W u.vpk v' W') : RowsI W' base { m with pk := m.pk ++ l2.map Ke.pm } { u with vpk := v', pk := u.pk ++ l2 } := by
  have hT := hp.turn
  refine ⟨h.so.turn hT (by simp) (by simp), h.sq.turn hT (by simp) (by simp), h.re.turn hT (by simp) (by simp), h.pu.turn hT (by simp) (qeR_ab (by simp)), h.puM, h.dl.turn hT (by simp) (qeR_ab (by simp)), h.dlM, hp.own, by rw [List.map_append, h.pkM], h.an.grownFar hp.g (fun g e q => h.ap2 g q e) hT (keR_ab (by simp) (by simp)), h.anM, h.ap1, fun g e => ?_, h.ap3⟩
  rcases hp.nb with h1 | h1
  · exact h.ap2 g (h1.symm.trans e)
  · intro q
    have h2 := own_block_lt' h.an.own g q
    have h3 := h1.symm.trans e
    injection h3 with h3
    omega
/-- answers are appended -/
theorem RowsI.pushAn (h : RowsI W base m u) {l2 : List Ke} {v' : Value} (hp : PushedN encK KeR 55 7 base base u.an l2 W u.van v' W') : RowsI W' base { m with an := m.an ++ l2.map Ke.pm } { u with van := v', an := u.an ++ l2 } := by
  have hT := hp.turn
  refine ⟨h.so.turn hT (by simp) (by simp), h.sq.turn hT (by simp) (by simp), h.re.turn hT (by simp) (by simp), h.pu.turn hT (by simp) (qeR_ab (by simp)), h.puM, h.dl.turn hT (by simp) (qeR_ab (by simp)), h.dlM, h.pk.grownFar hp.g (fun g e => h.ap2 g e) hT (keR_ab (by simp) (by simp)), h.pkM, hp.own, by rw [List.map_append, h.anM], h.ap1, fun g e q => ?_, h.ap3⟩
  rcases hp.nb with h1 | h1
  · exact h.ap2 g e (h1.symm.trans q)
  · have h2 := own_block_lt' h.pk.own g e
    have h3 := h1.symm.trans q
    injection h3 with h3
    omega
/-- another sender, whose queue is new or the old one -/
theorem RowsI.sender (h : RowsI W base m u) {s : Sm} {vo vq : Value} (ho : OsV W base s.out vo) (hq : QsV W base s.q vq) (ha : ∀ g, vq.ownBlock = some g → s.q ≠ [] → u.vpu.ownBlock ≠ some g ∧ u.vdl.ownBlock ≠ some g) : RowsI W base { m with s := s } { u with vo := vo, vq := vq } :=
  { h with so := ho, sq := hq, ap3 := ha }
/-- another receiver -/
theorem RowsI.receiver (h : RowsI W base m u) {r : Rm} {ve : Value} (he : AsV W base r.early ve) : RowsI W base { m with r := r } { u with ve := ve } := { h with re := he }
theorem RowsI.time (h : RowsI W base m u) (now : Int) : RowsI W base { m with now := now } u := { h with }
end
end Go.Proofs.Ytanmndhdhlmjgaa
/- Stores into the block of a transmission. No condition. -/
namespace Go.Proofs.Ytanmndhdhlmjgaa
open Go.RowKit
theorem set73s_blk {W : World} {X : Nat} {c0 c1 c2 c3 c4 c5 c6 c7 c8 c9 c10 c11 c12 c13 c14 c15 c16 : Value} (h : Blk W X 73 #[c0, c1, c2, c3, c4, c5, c6, c7, c8, c9, c10, c11, c12, c13, c14, c15, c16]) (v0 v1 v2 v3 v4 v5 v6 v7 : Value) : Blk ((((((((W.setCell ⟨X, 0, none⟩ v0).setCell ⟨X, 1, none⟩ v1).setCell ⟨X, 2, none⟩ v2).setCell ⟨X, 3, none⟩ v3).setCell ⟨X, 4, none⟩ v4).setCell ⟨X, 5, none⟩ v5).setCell ⟨X, 6, none⟩ v6).setCell ⟨X, 7, none⟩ v7) X 73 #[v0, v1, v2, v3, v4, v5, v6, v7, c8, c9, c10, c11, c12, c13, c14, c15, c16] := by
  have hB := ((((((((h.set_ 0 v0).set_ 1 v1).set_ 2 v2).set_ 3 v3).set_ 4 v4).set_ 5 v5).set_ 6 v6).set_ 7 v7)
  simp only [List.setIfInBounds_toArray, List.set_cons_zero, List.set_cons_succ] at hB
  exact hB
theorem set73s_turn {W : World} {X base : Nat} {cs : Array Value} (h : Blk W X 73 cs) (hg : base ≤ X) (v0 v1 v2 v3 v4 v5 v6 v7 : Value) : Turn base [73] W ((((((((W.setCell ⟨X, 0, none⟩ v0).setCell ⟨X, 1, none⟩ v1).setCell ⟨X, 2, none⟩ v2).setCell ⟨X, 3, none⟩ v3).setCell ⟨X, 4, none⟩ v4).setCell ⟨X, 5, none⟩ v5).setCell ⟨X, 6, none⟩ v6).setCell ⟨X, 7, none⟩ v7) :=
  (((((((((Turn.refl base [73] W).set h (by simp) hg 0 v0).set (h.set_ 0 v0) (by simp) hg 1 v1).set ((h.set_ 0 v0).set_ 1 v1) (by simp) hg 2 v2).set (((h.set_ 0 v0).set_ 1 v1).set_ 2 v2) (by simp) hg 3 v3).set ((((h.set_ 0 v0).set_ 1 v1).set_ 2 v2).set_ 3 v3) (by simp) hg 4 v4).set (((((h.set_ 0 v0).set_ 1 v1).set_ 2 v2).set_ 3 v3).set_ 4 v4) (by simp) hg 5 v5).set ((((((h.set_ 0 v0).set_ 1 v1).set_ 2 v2).set_ 3 v3).set_ 4 v4).set_ 5 v5) (by simp) hg 6 v6).set (((((((h.set_ 0 v0).set_ 1 v1).set_ 2 v2).set_ 3 v3).set_ 4 v4).set_ 5 v5).set_ 6 v6) (by simp) hg 7 v7)
theorem set73r_blk {W : World} {X : Nat} {c0 c1 c2 c3 c4 c5 c6 c7 c8 c9 c10 c11 c12 c13 c14 c15 c16 : Value} (h : Blk W X 73 #[c0, c1, c2, c3, c4, c5, c6, c7, c8, c9, c10, c11, c12, c13, c14, c15, c16]) (v0 v1 v2 v3 : Value) : Blk ((((W.setCell ⟨X, 8, none⟩ v0).setCell ⟨X, 9, none⟩ v1).setCell ⟨X, 10, none⟩ v2).setCell ⟨X, 11, none⟩ v3) X 73 #[c0, c1, c2, c3, c4, c5, c6, c7, v0, v1, v2, v3, c12, c13, c14, c15, c16] := by
  have hB := ((((h.set_ 8 v0).set_ 9 v1).set_ 10 v2).set_ 11 v3)
  simp only [List.setIfInBounds_toArray, List.set_cons_zero, List.set_cons_succ] at hB
  exact hB
theorem set73r_turn {W : World} {X base : Nat} {cs : Array Value} (h : Blk W X 73 cs) (hg : base ≤ X) (v0 v1 v2 v3 : Value) : Turn base [73] W ((((W.setCell ⟨X, 8, none⟩ v0).setCell ⟨X, 9, none⟩ v1).setCell ⟨X, 10, none⟩ v2).setCell ⟨X, 11, none⟩ v3) :=
  (((((Turn.refl base [73] W).set h (by simp) hg 8 v0).set (h.set_ 8 v0) (by simp) hg 9 v1).set ((h.set_ 8 v0).set_ 9 v1) (by simp) hg 10 v2).set (((h.set_ 8 v0).set_ 9 v1).set_ 10 v2) (by simp) hg 11 v3)
theorem set73_turn {W : World} {X base : Nat} {cs : Array Value} (h : Blk W X 73 cs) (hg : base ≤ X) (k : Nat) (v : Value) : Turn base [73] W (W.setCell ⟨X, k, none⟩ v) := (Turn.refl base [73] W).set h (by simp) hg k v
theorem RowsI.t73 {W W' : World} {base : Nat} {m : RunM} {u : RVal} (h : RowsI W base m u) (hT : Turn base [73] W W') : RowsI W' base m u := h.turn hT (by simp) (by simp) (by simp) (by simp) (by simp) (by simp)
end Go.Proofs.Ytanmndhdhlmjgaa
