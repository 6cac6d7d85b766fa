/- The walks of Chunk and sizes, with a period of one. Condition: at most 5000 numbers. -/
import Derived.Test.YthkpkjigfaannaaXa
import Derived.Test.YthkpkjigfaannaaLibX
import Derived.RangeFuncNested
import Derived.RangeFuncBound
import Derived.RangeFuncCalls
import Derived.RangeFuncLeaves
import Derived.Shelf.Abstract
import Derived.Shelf.RegionOpen
import Derived.OwnWalkIn
import Derived.TacticsInMore
import Derived.LoopNIn
import Derived.LoopIn
import Derived.BigFrameIn
import Derived.Laws.EntriesVeiled
namespace Go.Proofs.Ythkpkjigfaannaa
open Go.RowKit Go.Shelf
attribute [local go_sem] Oper.semAt_some
theorem info3f : (Try.prog.info? 3).map (fun i => (i.zero, i.size, i.bytes)) = some (some (.int .i64 0), 1, 8) := by kernel_rfl
theorem Chunk_any (A : Option Addr) (m c : Nat) (w : World) :
    Calls Try.prog 59 #[.slice A m c, .int .i64 1] w fun e w' => e = .returned (.func (.func 60) #[] #[.pointer (some ⟨w.heap.size, 0, none⟩), .pointer (some ⟨w.heap.size + 1, 0, none⟩)]) ∧ w' = (w.alloc (.cells #[.slice A m c] 58)).alloc (.cells #[.int .i64 1] 3) := by
  go_enter Try.func59, Try.ntmps59
  go_wp2_with fail
  go_ret
  exact ⟨rfl, rfl⟩
theorem flat_i (l : List Int) : l.flatMap encI = l.map (Value.int .i64) := by
  induction l with
  | nil => rfl
  | cons a l ih => rw [List.flatMap_cons, ih]; rfl
theorem range_pre {k m : Nat} (h : k ≤ m) : List.range k <+: List.range m := by
  have h1 := List.take_prefix k (List.range m)
  rw [List.take_range, Nat.min_eq_left h] at h1
  exact h1
/-- the two boxes of Chunk are as they were -/
def BK (B : Nat) (W W' : World) : Prop := W.heap.size ≤ W'.heap.size ∧ W'.heap[B]? = W.heap[B]? ∧ W'.heap[B + 1]? = W.heap[B + 1]?
theorem BK.trans {B : Nat} {X Y Z : World} (h : BK B X Y) (h' : BK B Y Z) : BK B X Z := ⟨Nat.le_trans h.1 h'.1, h'.2.1.trans h.2.1, h'.2.2.trans h.2.2⟩
theorem BK.refl (B : Nat) (W : World) : BK B W W := ⟨Nat.le_refl _, rfl, rfl⟩
theorem BK.of_below {B m : Nat} {W W' : World} (h : Below m W W') (hm : B + 2 ≤ m) : BK B W W' := ⟨h.size, h.block _ (by omega), h.block _ (by omega)⟩
theorem BK.b {B : Nat} {w : World} (hm : B + 2 ≤ w.heap.size) (W : World) (l : Nat) (o o' : Obj) (hl : w.heap.size ≤ l) (h : W.heap[l]? = some o) (ho : o.isCells = false) (hw : o.isWalk = false) : BK B W (W.putObj l o') :=
  BK.of_below (belowK_b (Nat.le_refl _) W l o o' hl h ho hw) hm
theorem BK.cell {B k : Nat} {W W' : World} (h : BK B W W') (hk : k = B ∨ k = B + 1) (t : TypeId) (cs : Array Value) (hb : Blk W k t cs) : Blk W' k t cs := by
  rcases hk with rfl | rfl
  · exact h.2.1.trans hb
  · exact h.2.2.trans hb
set_option maxRecDepth 100000 in
set_option maxHeartbeats 2000000 in
theorem chunk1_in (n : Nat) (hn : 1 ≤ n) (l B m c g off : Nat) (A : Option Addr) (hA : 0 < m → A = some ⟨g, off, none⟩) (hm : m ≤ 5000) (hcm : m ≤ c) (J Jx : List {i : Nat // i < m} → World → Prop) (hJd : ∀ s W, J s W → J s W.drew)
    (hY : ∀ pre x W, J pre W → pre.length < m → YieldAt Fence.wide (n - 1) Try.prog l #[.slice (some ⟨g, off + x.1, none⟩) 1 1] W fun e W' =>
      (e = .returned (.bool true) ∧ J (pre ++ [x]) W' ∧ BK B W W') ∨ (e = .returned (.bool false) ∧ Jx (pre ++ [x]) W'))
    (W : World) (hBs : Blk W B 58 #[.slice A m c]) (hB1 : Blk W (B + 1) 3 #[.int .i64 1]) (h0 : J [] W) :
    CallsIn Fence.wide n Try.prog 60 #[.func (.yield l) #[] #[], .pointer (some ⟨B, 0, none⟩), .pointer (some ⟨B + 1, 0, none⟩)] W fun e W' => (∃ v, e = .returned v) ∧
      ((∃ ys : List {i : Nat // i < m}, ys.map Subtype.val = List.range m ∧ J ys W') ∨ (∃ pre : List {i : Nat // i < m}, pre.map Subtype.val <+: List.range m ∧ Jx pre W')) := by
  refine callsIn_of_wp Try.func60 rfl trivial ?_ rfl
  simp only [Try.ntmps60, List.size_toArray, List.length_cons, List.length_nil, Nat.reduceAdd, Nat.reduceSub, Array.replicate_succ, Array.replicate_zero, List.push_toArray, List.append_toArray, List.nil_append, List.cons_append]
  gi_wp2
  gi_loopw [4] (fun i wr => ∃ (k : Nat) (pre : List {i : Nat // i < m}), k ≤ m ∧ i = .int .i64 k ∧ pre.map Subtype.val = List.range k ∧ J pre wr ∧ BK B W wr)
    (fun i _ => m - (intOf i).toNat)
  case atStart => exact ⟨0, [], Nat.zero_le _, rfl, rfl, h0, BK.refl _ _⟩
  case round =>
    obtain ⟨k, pre, hk, rfl, hpre, hJs, hnx⟩ := hrel
    have k0 := hnx.cell (.inl rfl) _ _ hBs
    have k1 := hnx.cell (.inr rfl) _ _ hB1
    have hpl : pre.length = k := by have h := congrArg List.length hpre; simpa using h
    have c0 : wr.cell? ⟨B, 0, none⟩ = some (.slice A m c) := k0.cell 0
    have c1 : wr.cell? ⟨B + 1, 0, none⟩ = some (.int .i64 1) := k1.cell 0
    have HPR := Lib.hid hpre
    have HK1 := Lib.hid k1
    have HNX := Lib.hid hnx
    clear hpre k0 k1 hnx
    by_cases hlt : k < m
    · have ik : (k : Int) < m := by omega
      obtain rfl := hA (by omega)
      obtain ⟨fn, tmps, assign, body, hy, hRd⟩ := hY pre ⟨k, hlt⟩ wr.drew (hJd _ _ hJs) (by omega)
      have hk0 : (0 : Int) ≤ k := by omega
      gi_wp2
      gi_region
      have c0' : wr.drew.cell? ⟨B, 0, none⟩ = some (.slice (some ⟨g, off, none⟩) m c) := c0
      have c1' : wr.drew.cell? ⟨B + 1, 0, none⟩ = some (.int .i64 1) := c1
      gi_wp2
      refine hRd.mono ?_
      rintro e W3 (⟨rfl, hJ3, hk3⟩ | ⟨rfl, hJx3⟩)
      · have c1'' : W3.cell? ⟨B + 1, 0, none⟩ = some (.int .i64 1) := (hk3.cell (.inr rfl) 3 #[.int .i64 1] HK1.out).cell 0
        gi_wp2
        go_roundw
        case rel => exact ⟨k + 1, _, by omega, by simp, by rw [List.map_append, HPR.out, List.range_succ]; rfl, hJ3, HNX.out.trans (BK.trans (BK.of_below (m := B + 2) (Below.refl _ wr).drew (Nat.le_refl _)) hk3)⟩
        case measure => simp [intOf]; omega
      · gi_wp2
        refine bodyPost_ret (results_none rfl _ _ _) rfl ?_
        exact ⟨⟨_, rfl⟩, .inr ⟨_, by rw [List.map_append, HPR.out]; show List.range k ++ [k] <+: _; rw [← List.range_succ]; exact range_pre (by omega), hJx3⟩⟩
    · have hkl : k = m := by omega
      subst hkl
      gi_wp2
      go_end0
      exact ⟨⟨_, rfl⟩, .inl ⟨_, HPR.out, hJs⟩⟩
theorem chunk1_stops (n : Nat) (hn : 1 ≤ n) (B m c g off : Nat) (A : Option Addr) (hA : 0 < m → A = some ⟨g, off, none⟩) (hm : m ≤ 5000) (hcm : m ≤ c) (w : World) (hBs : Blk w B 58 #[.slice A m c]) (hB1 : Blk w (B + 1) 3 #[.int .i64 1]) :
    SeqStopsK Fence.wide n Try.prog 60 #[.pointer (some ⟨B, 0, none⟩), .pointer (some ⟨B + 1, 0, none⟩)] (fun x : {i : Nat // i < m} => #[Value.slice (some ⟨g, off + x.1, none⟩) 1 1]) (BK B) (fun ys => ys.map Subtype.val = List.range m) (fun pre => pre.map Subtype.val <+: List.range m) m w := fun l J Jx W hW hJ _ hY h0 =>
  chunk1_in n hn l B m c g off A hA hm hcm J Jx (fun s W9 h => hJ s W9 W9.drew none h ⟨rfl, rfl, rfl, Nat.le_refl _, fun _ _ _ => rfl⟩ (fun _ h => by cases h)) hY W (hBs.below hW hBs.lt) (hB1.below hW hB1.lt) h0
theorem enters60 : ∀ (args : Array Value) (w : World), (callFunc 60 args).run Try.prog w = .ok (.enter 60 args) w := enters_of Try.func60 (by kernel_rfl) rfl
theorem blk_own {W W' : World} {g B : Nat} {t : TypeId} {cs : Array Value} {row : Option Nat} (h : Blk W g t cs) (hg : W.grownBy W' row) (hr : ∀ r, row = some r → B ≤ r ∧ ∃ o : Obj, W.heap[r]? = some o ∧ o.isCells = false) : Blk W' g t cs := by
  refine h.grown hg (fun e => ?_)
  obtain ⟨_, o, ho, hc⟩ := hr g e.symm
  unfold Blk at h
  rw [h] at ho
  injection ho with ho
  subst ho
  cases hc
theorem Que.blk {W : World} {low : Nat} {e : TypeId} {v : Value} {b : Option Nat} {xs : List Value} (h : Que W low e v b xs) (g : Nat) (hb : b = some g) : ∃ cs, Blk W g e cs := by
  rcases h with ⟨_, h, _⟩ | ⟨g', C, n, q, cur, ba, _, h, _, k⟩
  · rw [h] at hb; cases hb
  · rw [h] at hb; injection hb with hb; subst hb; exact ⟨_, k.blk⟩
theorem Que.ne_low {W : World} {low : Nat} {e : TypeId} {v : Value} {b : Option Nat} {xs : List Value} (h : Que W low e v b xs) {g : Nat} (hg : g < low) : b ≠ some g := fun e => by have := (h.lt g e).2; omega
theorem keepsOthers_que {W W' : World} {low : Nat} {e : TypeId} {v : Value} {b : Option Nat} {xs : List Value} (h : Que W low e v b xs) (hg : W.grownBy W' b) : KeepsOthers W W' := by
  refine ⟨hg.size, fun k o hk ho => (hg.block k (Array.getElem?_eq_some_iff.1 hk).1 (fun q => ?_)).trans hk⟩
  obtain ⟨cs, hc⟩ := h.blk k q.symm
  unfold Blk at hc
  rw [hc] at hk
  injection hk with hk
  subst hk
  simp [Obj.isCells] at ho
theorem wpListIn_append_que {F : Fence} {n : Nat} {P : Program} (w : World) {ops : Array Oper} {rest : List Oper} {o : Oper} {a : Act} {Q : Exit → Act → World → Prop}
    (hg : o.guard = none) (s x : Operand) (t : TypeId) (hop : o.op = Op.call { callee := Callee.builtin Builtin.append, args := #[s, x], argTypes := #[t, t] })
    (e : TypeId) (i : TypeInfo) (z : Value) (bytes : Nat) (ht : P.underlying t = some (.slice e)) (hi : P.info? e = some i) (hz : i.zero = some z)
    (hsize : i.size = 1) (hby : i.bytes = bytes) (hzs : z.cells.size = 1) (low : Nat) (v : Value) (b : Option Nat) (xs : List Value) (p : Nat) (u : Value) (hs : a.eval s = v) (hx : a.eval x = .slice (some ⟨p, 0, none⟩) 1 1) (h : Que w low e v b xs) (hlow : low ≤ w.heap.size)
    (hp : Blk w p e #[u]) (h1 : u.oneCell' = true) (hn : xs.length ≤ 1000000) (hbytes : bytes ≤ 64)
    (hK : ∀ v' b' w', Que w' low e v' b' (xs ++ [u]) → w.grownBy w' b → (b' = b ∨ b' = some w.heap.size) → wpListIn F n P ops Q rest (a.put o.dst v') w') :
    wpListIn F n P ops Q (o :: rest) a w := by
  refine wpListIn_plain hg fun K hK' => ?_
  obtain ⟨v', b', w', hrun, h2, h3, h4⟩ := run_append_que (P := P) w t o.type e i z bytes ht hi hz hsize hby hzs low v b xs h hlow p u hp h1 hn hbytes
  unfold Oper.wpIn
  refine ⟨?_, ?_⟩
  · simp [Oper.about, hop, resolve, Target.leads, Sem.run_pure]
  · rw [Oper.semAt_plain F _ _ (by rw [hop]; intro c hc'; cases hc')]
    simp [execOp, hop, resolve, invoke, builtin, hs, hx, hrun, Result.andThen]
    exact hK' _ _ (hK v' b' w' h2 h3 h4)
/-- what a round of sizes finds -/
structure SzI (w : World) (m : Nat) (ws : List Int) (pre : List {i : Nat // i < m}) (W : World) : Prop where
  sofar : ∃ v b, Blk W (w.heap.size + 1) 58 #[v] ∧ Que W (w.heap.size + 4) 3 v b ((pre.map fun i => ws.getD i.1 0).map (Value.int .i64))
  bel : Below w.heap.size w W
  size : w.heap.size + 4 ≤ W.heap.size
theorem SzI.own {w : World} {m : Nat} {ws : List Int} (B : Nat) (hB : w.heap.size ≤ B) : OwnFrom B (SzI w m ws) := by
  intro pre W W' row h hg hr
  obtain ⟨v, b, h1, h2⟩ := h.sofar
  refine ⟨⟨v, b, blk_own h1 hg hr, h2.keep fun g hb => ?_⟩, h.bel.grown hg h.bel.size (fun r e => by have := (hr r e).1; omega), Nat.le_trans h.size hg.size⟩
  obtain ⟨cs, hk⟩ := h2.blk g hb
  exact (show W'.heap[g]? = _ from blk_own hk hg hr).trans hk.symm
set_option maxRecDepth 100000 in
set_option maxHeartbeats 2000000 in
theorem sizes_in (A : Option Addr) (m c g off : Nat) (v2 v4 v5 : Value) (ws : List Int) (w : World) (hA : 0 < m → A = some ⟨g, off, none⟩ ∧ g < w.heap.size) (hc : ∀ i, i < m → w.cell? ⟨g, off + i, none⟩ = some (.int .i64 (ws.getD i 0))) (hl : ws.length = m) (hcm : m ≤ c) (hm : m ≤ 5000) (hw : ∀ k, 0 ≤ ws.getD k 0 ∧ ws.getD k 0 ≤ 4096) :
    CallsIn Fence.wide 3 Try.prog 53 #[.agg #[.slice A m c, v2, .int .i64 1, v4, v5]] w fun e w' => (∃ A' n' c', e = .returned (.slice A' n' c') ∧ RdI w' A' n' ws ∧ ∀ ad, 0 < ws.length → A' = some ad → w.heap.size ≤ ad.block) ∧ Below w.heap.size w w' := by
  have HC := Lib.hid (And.intro hA (And.intro hc (And.intro hl hw)))
  clear hA hc hl hw
  obtain ⟨i0, hi0, hz0, hz1, hz2⟩ := info_parts info3f
  have HI := Lib.hid (And.intro hi0 (And.intro hz0 (And.intro hz1 hz2)))
  clear hi0 hz0 hz1 hz2
  refine callsIn_of_wp_marks Try.func53 rfl trivial ?_ rfl
  simp only [Try.ntmps53, List.size_toArray, List.length_cons, List.length_nil, Nat.reduceAdd, Nat.reduceSub, Array.replicate_succ, Array.replicate_zero, List.push_toArray, List.append_toArray, List.nil_append, List.cons_append]
  gi_wp2_with fail
  refine ⟨trivial, (callsIn_wide.2 (Chunk_any A m c _)).mono ?_⟩
  rintro e w1 ⟨rfl, hw1⟩
  have hsz : (((w.alloc (.cells #[.slice A m c, v2, .int .i64 1, v4, v5] 65)).alloc (.cells #[.slice none 0 0] 58))).heap.size = w.heap.size + 1 + 1 := by simp
  have h58 : Blk w1 (w.heap.size + 1) 58 #[.slice none 0 0] := by
    have h := Blk.new (w.alloc (.cells #[.slice A m c, v2, .int .i64 1, v4, v5] 65)) 58 #[.slice none 0 0]
    simp only [World.size_alloc] at h
    rw [hw1]
    exact (h.alloc _).alloc _
  have hB0 : Blk w1 (w.heap.size + 1 + 1) 58 #[.slice A m c] := by
    have h := Blk.new ((w.alloc (.cells #[.slice A m c, v2, .int .i64 1, v4, v5] 65)).alloc (.cells #[.slice none 0 0] 58)) 58 #[.slice A m c]
    simp only [World.size_alloc] at h
    rw [hw1]
    exact h.alloc _
  have hB1 : Blk w1 (w.heap.size + 1 + 1 + 1) 3 #[.int .i64 1] := by
    have h := Blk.new (((w.alloc (.cells #[.slice A m c, v2, .int .i64 1, v4, v5] 65)).alloc (.cells #[.slice none 0 0] 58)).alloc (.cells #[.slice A m c] 58)) 3 #[.int .i64 1]
    simp only [World.size_alloc] at h
    rw [hw1]
    exact h
  have hbw : Below w.heap.size w w1 := by
    rw [hw1]
    exact ((((Below.refl _ w).alloc (Nat.le_refl _) _).alloc (by simp) _).alloc (by simp; omega) _).alloc (by simp; omega) _
  have hs1 : w1.heap.size = w.heap.size + 4 := by rw [hw1]; simp
  rw [hsz]
  clear hw1 hsz
  have HS := Lib.hid (chunk1_stops 2 (by omega) (w.heap.size + 1 + 1) m c g off A (fun h => (HC.out.1 h).1) hm hcm w1 hB0 hB1)
  have hI : SzI w m ws [] w1 := ⟨⟨_, none, h58, Que.nil _ _ _⟩, hbw, by omega⟩
  have HII := Lib.hid hI
  clear h58 hB0 hB1 hbw hI
  gi_wp2
  refine wpIn_rangeFunc_ownF (w0 := w1) rfl (by omega) (gf := 60) (lb := #[.pointer (some ⟨w.heap.size + 1 + 1, 0, none⟩), .pointer (some ⟨w.heap.size + 1 + 1 + 1, 0, none⟩)]) rfl trivial enters60 HS.out BK.trans (BK.b (by omega)) (Below.refl _ _) (fun _ => rfl)
    (SzI w m ws) (fun _ _ _ => False) (SzI.own _ (by omega)) (fun _ _ _ _ _ hs _ _ => hs) HII.out ?act ?assign ?body ?done ?stop
  case assign =>
    intro l x W K hK
    gi_wp2
    exact hK
  case stop =>
    rintro D c pre W _ _ h _
    exact h.elim
  case done =>
    rintro D ys W hD hS hI hK
    obtain ⟨v, b, h1, h2⟩ := hI.sofar
    have e1 := h1.cell 0
    change W.cell? ⟨w.heap.size + 1, 0, none⟩ = some v at e1
    have hg := grownBy_putObj' W D (.deferred none)
    have h2' : Que (W.putObj D (.deferred none)) (w.heap.size + 4) 3 v b ((ys.map fun i => ws.getD i.1 0).map (Value.int .i64)) := h2.keep fun g hb => by
      obtain ⟨cs, hk⟩ := h2.blk g hb
      exact (show (W.putObj D (.deferred none)).heap[g]? = _ from blk_own (B := 0) hk hg (fun r e => by cases e; exact ⟨Nat.zero_le _, _, hK, rfl⟩)).trans hk.symm
    have hys : (ys.map fun i => ws.getD i.1 0) = ws := by
      have h3 : (ys.map fun i => ws.getD i.1 0) = (ys.map Subtype.val).map fun i => ws.getD i 0 := by rw [List.map_map]; rfl
      rw [h3, hS, ← HC.out.2.2.1]
      apply List.ext_getElem (by simp)
      intro i h4 h5
      simp [h5]
    rw [hys] at h2'
    obtain ⟨A', c', hv, hR, hfr⟩ := h2'.rd
    have hfr2 : ∀ ad, 0 < ws.length → A' = some ad → w.heap.size ≤ ad.block := fun ad h e => by
      have h5 := (h2'.lt _ (hfr ad (by simpa using h) e)).2
      omega
    have hF := Lib.hid (And.intro hI.bel (And.intro hv (And.intro hR hfr2)))
    clear h1 h2 h2' hI hg hv hR hys hfr hfr2
    gi_wp2
    refine ⟨by simp, .inl ⟨_, _, rfl, run_takeDeferred hK, ?_⟩⟩
    refine ⟨_, results_tmp rfl _ _ _, ⟨A', _, c', by rw [← hF.out.2.1]; rfl, ?_, hF.out.2.2.2⟩, hF.out.1.trans (belowK_b (w := w) (Nat.le_refl _) W D _ _ (by omega) hK rfl rfl)⟩
    unfold RdI
    rw [flat_i]
    exact hF.out.2.2.1
  case body =>
    rintro lf pre ⟨x, hx⟩ W hI hlen
    obtain ⟨h1, h2, h3, h4⟩ := HC.out
    have d0 := (hI.bel.cell (p := ⟨g, off + x, none⟩) (h1 (by omega)).2).trans (h2 x hx)
    have hr := h4 x
    obtain ⟨v, b, hk, hq⟩ := hI.sofar
    have hmap : ((pre ++ [(⟨x, hx⟩ : {i : Nat // i < m})]).map fun i => ws.getD i.1 0).map (Value.int .i64) = ((pre.map fun i => ws.getD i.1 0).map (Value.int .i64)) ++ [Value.int .i64 (ws.getD x 0)] := by simp
    have hql : ((pre.map fun i => ws.getD i.1 0).map (Value.int .i64)).length ≤ 1000000 := by simp; omega
    have HM := Lib.hid hmap
    generalize ((pre.map fun i => ws.getD i.1 0).map (Value.int .i64)) = row at *
    generalize ws.getD x 0 = y at *
    have e1 : W.cell? ⟨w.heap.size + 1, 0, none⟩ = some v := hk.cell 0
    have z1 := hk.frozen 0
    have l1 := hk.lt
    have HF := Lib.hid (And.intro hk (And.intro hq (And.intro hI.bel hI.size)))
    clear hk hq hI h1 h2 h3 h4 hmap
    gi_wp2
    gi_loopw [5, 7, 16] (fun t5 t7 t16 wr => wr = W ∧ ((t16 = .int .i64 0 ∧ t5 = .int .i64 0) ∨ (t16 = .int .i64 1 ∧ t5 = .int .i64 y))) (fun _ _ i _ => 1 - (intOf i).toNat)
    case atStart => exact ⟨rfl, .inl ⟨rfl, rfl⟩⟩
    case round =>
      obtain ⟨rfl, ⟨rfl, rfl⟩ | ⟨rfl, rfl⟩⟩ := hrel
      · gi_wp2
        exact ⟨⟨trivial, .inr ⟨rfl, rfl⟩⟩, by simp [intOf]⟩
      · have hq9 := HF.out.2.1.alloc (.cells #[.int .i64 y] 3)
        have hk9 := HF.out.1.alloc (.cells #[.int .i64 y] 3)
        have hs9 := HF.out.2.2.2
        have hne := Que.ne_low hq9 (g := w.heap.size + 1) (by omega)
        have hne2 := Que.ne_low hq9 (g := w.heap.size + 1 + 1) (by omega)
        have hne3 := Que.ne_low hq9 (g := w.heap.size + 1 + 1 + 1) (by omega)
        have HQ9 := Lib.hid (And.intro hq9 (And.intro hk9 (And.intro hs9 (And.intro hne (And.intro hne2 hne3)))))
        clear hq9 hk9 hs9 hne hne2 hne3
        gi_wp2_with (gi_at_builtin; go_must (refine wpListIn_append_que _ rfl (.tmp 24) (.tmp 26) _ rfl 3 i0 _ 8 Try.underlying58 HI.out.1 HI.out.2.1 HI.out.2.2.1 HI.out.2.2.2 rfl (w.heap.size + 4) v b row wr.heap.size (.int .i64 y) rfl rfl HQ9.out.1 (by rw [World.size_alloc]; exact Nat.le_succ_of_le HQ9.out.2.2.1) (Blk.new wr 3 _) rfl hql (by omega) ?_; intro v' b' w9 h2 h3 h4; obtain ⟨A9, c9, hv9, _, _⟩ := h2.rd; subst hv9; have hk10 := HQ9.out.2.1.grown h3 (fun e => HQ9.out.2.2.2.1 e.symm); have e10 := hk10.cell 0; have z10 := hk10.frozen 0; have l10 := hk10.lt; have H9 := Lib.hid (And.intro h2 (And.intro h3 (And.intro h4 hk10))); clear h2 h3 h4 hk10))
        have hs9 := HQ9.out.2.2.1
        have hsz := H9.out.2.1.size
        rw [World.size_alloc] at hsz
        refine ⟨((KeepsOthers.alloc _ _).trans (keepsOthers_que HQ9.out.1 H9.out.2.1)).trans (KeepsOthers.setCell _ _ _), ?_, ⟨_, b', H9.out.2.2.2.set_ 0 _, ?_⟩, ?_, ?_⟩
        · refine ⟨by simp only [World.size_setCell]; omega, ?_, ?_⟩
          · exact (Below.heap_setCell w9 _ _ _ (by dsimp only; omega)).trans ((H9.out.2.1.block _ (by rw [World.size_alloc]; omega) (fun q => HQ9.out.2.2.2.2.1 q.symm)).trans (Below.heap_alloc _ _ _ (by omega)))
          · exact (Below.heap_setCell w9 _ _ _ (by dsimp only; omega)).trans ((H9.out.2.1.block _ (by rw [World.size_alloc]; omega) (fun q => HQ9.out.2.2.2.2.2 q.symm)).trans (Below.heap_alloc _ _ _ (by omega)))
        · rw [HM.out]
          have hq5 := H9.out.1
          rw [List.length_append, List.length_singleton] at hq5
          refine hq5.far (p := ⟨w.heap.size + 1, 0, none⟩) (fun e => ?_) _
          rcases H9.out.2.2.1 with h5 | h5
          · exact HQ9.out.2.2.2.1 (h5 ▸ e)
          · rw [h5] at e
            injection e with e
            rw [World.size_alloc] at e
            dsimp only at e
            omega
        · exact ((HF.out.2.2.1.alloc HF.out.2.2.1.size _).grown H9.out.2.1 (by rw [World.size_alloc]; omega) (fun r e => by have := (HQ9.out.1.lt r e).2; omega)).setCell (p := ⟨w.heap.size + 1, 0, none⟩) (by dsimp only; omega) _
        · rw [World.size_setCell]
          omega
theorem sizes_any (A : Option Addr) (m c : Nat) (v2 v4 v5 : Value) (ws : List Int) (w : World) (hR : RdI w A m ws) (hcm : m ≤ c) (hm : m ≤ 5000) (hw : ∀ k, 0 ≤ ws.getD k 0 ∧ ws.getD k 0 ≤ 4096) :
    Calls Try.prog 53 #[.agg #[.slice A m c, v2, .int .i64 1, v4, v5]] w fun e w' => (∃ A' n' c', e = .returned (.slice A' n' c') ∧ RdI w' A' n' ws ∧ ∀ ad, 0 < ws.length → A' = some ad → w.heap.size ≤ ad.block) ∧ Below w.heap.size w w' := by
  have hl := hR.len
  obtain ⟨g, off, h1, h2⟩ := hR.cells
  rw [hl] at h1 h2
  exact callsIn_wide.1 (sizes_in A m c g off v2 v4 v5 ws w h1 h2 hl hcm hm hw)
end Go.Proofs.Ythkpkjigfaannaa
