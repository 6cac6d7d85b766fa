/- The walk of Send, to where it sends. Conditions: at most 4000 flights, sizes as named. -/
import Derived.Test.YtjaoppopfeonhaaWl
import Derived.Test.YtjaoppopfeonhaaWh
namespace Go.Proofs.Ytjaoppopfeonhaa
open Go.RowKit
theorem results_cell_tmp2 {P : Program} {fn : Func} {p q s : Tmp} {ty : TypeId} (h : fn.results = #[.cell p ty, .tmp q, .tmp s]) (tmps : Array Value) (w : World) (g : Nat) (t : TypeId) (cs : Array Value) (d : TypeDesc)
    (hp : tmps.getD p undef = .pointer (some ⟨g, 0, none⟩)) (hg : Blk w g t cs)
    (hu : P.underlying ty = some d) (hd : (match d with | .struct _ | .array _ _ => true | _ => false) = true) (hi : (P.info? ty).map (·.size) = some cs.size) :
    (results fn tmps).run P w = .ok (.tuple #[.agg cs, tmps.getD q undef, tmps.getD s undef]) w := by
  have hp' : tmps[p]?.getD undef = .pointer (some ⟨g, 0, none⟩) := by simpa using hp
  simp [results, h, hp', asAddr, run_loadVar_row w g t ty cs (0, 0) d hg hu hd hi]
/-- what Send answers -/
structure SendR (w : World) (a : SendA) (e : Ending) (w' : World) : Prop where
  bel : Below w.heap.size w w'
  val : ∃ v es A c, e = .returned (.tuple #[.agg (lkV a.l v), .slice A (List.length a.r) c, .int .i64 (a.e : Nat)]) ∧ OwnE w' w.heap.size v es ∧ es.map Ev.em = a.l.fl ∧ NewP w.heap.size es ∧ Reads w' w'.heap.size 1 A a.r.length (i64s a.r) ∧ a.r.length ≤ c ∧ c ≤ maxLen
theorem send_err {w W : World} {code : Nat} (hb : Below w.heap.size w W) : SendR w ⟨zeroL, [], code⟩ (.returned (.tuple #[.agg #[.int .i64 0, .int .i64 0, .int .i64 0, .bool false, .int .i64 0, .int .i64 0, .slice none 0 0], .slice none 0 0, .int .i64 (code : Nat)])) W :=
  ⟨hb, .slice none 0 0, [], none, 0, rfl, OwnE.nil _ _, rfl, nofun, ⟨rfl, fun h => absurd h (by simp)⟩, by simp, by unfold maxLen; omega⟩
theorem ticks_bel (b : Nat) (ra : Int) (w : World) (hb : b ≤ 100000) (h0 : 0 ≤ ra) (h1 : ra ≤ 65536) {T : Int} (hT : ticksM b ra = T) :
    Calls Try.prog 39 #[.int .i64 (b : Nat), .int .i64 ra] w fun e w' => e = .returned (.int .i64 T) ∧ Below w.heap.size w w' := by
  subst hT
  refine (ticks_any b ra w hb h0 h1).mono ?_
  rintro e w' ⟨rfl, rfl⟩
  exact ⟨rfl, Below.refl _ _⟩
theorem ticks_b (b : Nat) (ra : Int) (hb : b ≤ 100000) (h0 : 0 ≤ ra) (h1 : ra ≤ 65536) : 0 ≤ ticksM b ra ∧ ticksM b ra ≤ 200000 := by
  unfold ticksM
  split
  · omega
  · have := tdiv_lo (a := (b : Int) + ra - 1) (b := ra) (by omega) (by omega)
    omega
theorem noU8 (mi ma ra id nx : Int) (dn : Bool) (A : Option Addr) (m c : Nat) : ∀ (i : Nat) (x : Int), (#[.int .i64 mi, .int .i64 ma, .int .i64 ra, .bool dn, .int .i64 id, .int .i64 nx, .slice A m c] : Array Value)[i]? ≠ some (Value.int .u8 x) := by
  intro i x h
  rcases (by omega : i = 0 ∨ i = 1 ∨ i = 2 ∨ i = 3 ∨ i = 4 ∨ i = 5 ∨ i = 6 ∨ 7 ≤ i) with rfl | rfl | rfl | rfl | rfl | rfl | rfl | hi
  all_goals first
    | (simp at h; done)
    | (rw [Array.getElem?_eq_none (by simpa using hi)] at h; cases h)
/-- what Send's loop has made -/
structure SdI (w : World) (C0 C8 : Array Value) (low go gl : Nat) (l : Lm) (r : List Int) (v : Value) (es : List Ev) (W : World) : Prop where
  b4 : Blk W w.heap.size 26 C0
  b8 : Blk W (w.heap.size + 1) 26 C8
  bo : Blk W go 26 (lkV l v)
  ch : ChB W gl r
  own : OwnE W low v es
  new : NewP low es
  em : es.map Ev.em = l.fl
  bel : Below w.heap.size w W
theorem noU8v (l : Lm) {v : Value} {n : Nat} {xs : List Value} {W : World} {base : Nat} (h : W.ownsRow base 69 3 v n xs) : ∀ (i : Nat) (x : Int), (lkV l v)[i]? ≠ some (Value.int .u8 x) := by
  obtain ⟨A, c, rfl, _⟩ := own_slice h
  exact noU8 _ _ _ _ _ _ _ _ _
theorem sendN_succ (k : Nat) (l : Lm) (en : Int) (p : List Nat) (r : List Int) : sendN (k + 1) l en p r = sendN k { l with fl := insE ⟨en + l.mi + decV r (l.ma - l.mi + 1), l.nx, p⟩ l.fl, nx := l.nx + 1 } en p (decR r) := rfl
theorem insE_len (x : Em) (l : List Em) : (insE x l).length = l.length + 1 := by
  unfold insE
  have := atE_le (laterB x.t) l
  simp
  omega
theorem own_tag {W : World} {base g : Nat} {e : TypeId} {size : Nat} {v : Value} {n : Nat} {xs : List Value} (h : W.ownsRow base e size v n xs) (hv : v.ownBlock = some g) : ∃ cur, Blk W g e cur := by
  rcases h.2 with ⟨rfl, _⟩ | ⟨g', cap, cur, rfl, _, h3, _⟩
  · cases hv
  · injection hv with hv
    subst hv
    exact ⟨cur, h3⟩
theorem grown_of {w W : World} (hb : Below w.heap.size w W) : w.grownBy W none := ⟨hb.1, hb.2, hb.3, hb.size, fun k hk _ => hb.block k hk⟩
theorem grown_set (W : World) (g o : Nat) (u : Value) : W.grownBy (W.setCell ⟨g, o, none⟩ u) (some g) := ⟨rfl, rfl, rfl, by simp, fun _ _ hne => Below.heap_setCell _ _ _ _ (fun e => hne (by rw [e]))⟩
theorem SdI.below {w : World} {C0 C8 : Array Value} {low go gl : Nat} {l : Lm} {r : List Int} {v : Value} {es : List Ev} {W W' : World} (h : SdI w C0 C8 low go gl l r v es W) (hb : Below W.heap.size W W') : SdI w C0 C8 low go gl l r v es W' :=
  ⟨h.b4.below hb h.b4.lt, h.b8.below hb h.b8.lt, h.bo.below hb h.bo.lt, h.ch.grown (grown_of hb) nofun, h.own.below hb, h.new, h.em, h.bel.trans (hb.mono h.bel.size)⟩
/-- a flight is put in, and the link's number rises -/
theorem SdI.step {w : World} {C0 C8 : Array Value} {low go gl : Nat} {l : Lm} {r : List Int} {v v' : Value} {es : List Ev} {W W' : World} {t : Int} {A : Option Addr} {c : Nat} {p : List Nat} (h : SdI w C0 C8 low go gl l r v es W)
    (ho : OwnE W' low v' (es.take (atE (laterB t) (es.map Ev.em)) ++ ⟨t, l.nx, A, c, p⟩ :: es.drop (atE (laterB t) (es.map Ev.em)))) (hg : W.grownBy W' v.ownBlock) (hlow : w.heap.size + 2 ≤ low) (hgo : low ≤ go) (hf : ∀ ad, 0 < p.length → A = some ad → low ≤ ad.block) :
    SdI w C0 C8 low go gl { l with fl := insE ⟨t, l.nx, p⟩ l.fl, nx := l.nx + 1 } r v' (es.take (atE (laterB t) (es.map Ev.em)) ++ ⟨t, l.nx, A, c, p⟩ :: es.drop (atE (laterB t) (es.map Ev.em))) ((W'.setCell ⟨go, 6, none⟩ v').setCell ⟨go, 5, none⟩ (.int .i64 (l.nx + 1))) := by
  have hrow : ∀ b, v.ownBlock = some b → ∃ cur, Blk W b 69 cur := fun b hb => own_tag h.own.own hb
  have k4 := h.b4.grown hg (fun e => by obtain ⟨cur, h9⟩ := hrow _ e.symm; exact h.b4.tag h9 (by decide) rfl)
  have k8 := h.b8.grown hg (fun e => by obtain ⟨cur, h9⟩ := hrow _ e.symm; exact h.b8.tag h9 (by decide) rfl)
  have ko := h.bo.grown hg (fun e => by obtain ⟨cur, h9⟩ := hrow _ e.symm; exact h.bo.tag h9 (by decide) rfl)
  have kc := h.ch.grown hg (fun b hb => by obtain ⟨cur, h9⟩ := hrow b hb; exact ⟨69, cur, h9, by decide, by decide⟩)
  have kb : Below w.heap.size w W' := h.bel.grown hg h.bel.size (fun b hb => by have := own_block_ge h.own.own b hb; omega)
  have s1 : Blk (W'.setCell ⟨go, 6, none⟩ v') go 26 (lkV l v') := ko.set_ 6 v'
  have s2 : Blk ((W'.setCell ⟨go, 6, none⟩ v').setCell ⟨go, 5, none⟩ (.int .i64 (l.nx + 1))) go 26 (lkV { l with fl := insE ⟨t, l.nx, p⟩ l.fl, nx := l.nx + 1 } v') := s1.set_ 5 (.int .i64 (l.nx + 1))
  have o1 := ho.put ko (by decide) (noU8v l h.own.own) (grown_set W' go 6 v')
  have o2 := o1.put s1 (by decide) (noU8v l ho.own) (grown_set _ go 5 (.int .i64 (l.nx + 1)))
  have hw : w.heap.size ≠ go := by omega
  have hw1 : w.heap.size + 1 ≠ go := by omega
  refine ⟨(k4.far (p := ⟨go, 6, none⟩) hw _).far (p := ⟨go, 5, none⟩) hw _, (k8.far (p := ⟨go, 6, none⟩) hw1 _).far (p := ⟨go, 5, none⟩) hw1 _, s2, (kc.grown (grown_set W' go 6 v') (fun b hb => by injection hb with hb; subst hb; exact ⟨26, _, ko, by decide, by decide⟩)).grown (grown_set _ go 5 (.int .i64 (l.nx + 1))) (fun b hb => by injection hb with hb; subst hb; exact ⟨26, _, s1, by decide, by decide⟩), o2, ?_, ?_, (kb.setCell (by simp only; omega) _).setCell (by simp only; omega) _⟩
  · intro e he
    rcases List.mem_append.1 he with he | he
    · exact h.new e (List.mem_of_mem_take he)
    · rcases List.mem_cons.1 he with rfl | he
      · exact hf
      · exact h.new e (List.mem_of_mem_drop he)
  · rw [List.map_append, List.map_cons, List.map_take, List.map_drop, h.em]
    rfl
set_option linter.unusedSimpArgs false in
set_option maxRecDepth 100000 in
set_option maxHeartbeats 16000000 in
theorem Send_any (mi ma ra : Int) (dn : Bool) (id nx : Int) (A : Option Addr) (m c : Nat) (l : List Ev) (now : Int) (Ap : Option Addr) (cp : Nat) (p : List Nat) (Ac : Option Addr) (cc : Nat) (cs : List Int) (w : World) (hR : Evs w A m l) (hm : m ≤ 4000) (hmc : m ≤ c)
    (hP : Reads w w.heap.size 1 Ap p.length (u8s p)) (hp : p.length ≤ 65536) (hC : Reads w w.heap.size 1 Ac cs.length (i64s cs)) (hcl : cs.length ≤ 10000) (hlp : ∀ e ∈ l, e.p.length ≤ 100000) :
    Calls Try.prog 18 #[.agg (lkC mi ma ra dn id nx A m c), .int .i64 now, .slice Ap p.length cp, .slice Ac cs.length cc] w (SendR w (sendM ⟨mi, ma, ra, dn, id, nx, l.map Ev.em⟩ now p cs)) := by
  unfold lkC
  obtain ⟨R, hR0⟩ : ∃ R, sendM ⟨mi, ma, ra, dn, id, nx, l.map Ev.em⟩ now p cs = R := ⟨_, rfl⟩
  rw [hR0]
  unfold sendM at hR0
  have HR := Lib.hid hR0
  clear hR0
  have hlen := hR.count
  have hb0 : Below w.heap.size w ((w.alloc (.cells #[.int .i64 mi, .int .i64 ma, .int .i64 ra, .bool dn, .int .i64 id, .int .i64 nx, .slice A m c] 26)).alloc (.cells #[.int .i64 0, .int .i64 0, .int .i64 0, .bool false, .int .i64 0, .int .i64 0, .slice none 0 0] 26)) := ((Below.refl _ _).alloc (Nat.le_refl _) _).alloc (by simp) _
  have g0 : Blk ((w.alloc (.cells #[.int .i64 mi, .int .i64 ma, .int .i64 ra, .bool dn, .int .i64 id, .int .i64 nx, .slice A m c] 26)).alloc (.cells #[.int .i64 0, .int .i64 0, .int .i64 0, .bool false, .int .i64 0, .int .i64 0, .slice none 0 0] 26)) w.heap.size 26 #[.int .i64 mi, .int .i64 ma, .int .i64 ra, .bool dn, .int .i64 id, .int .i64 nx, .slice A m c] := (Blk.new w 26 #[.int .i64 mi, .int .i64 ma, .int .i64 ra, .bool dn, .int .i64 id, .int .i64 nx, .slice A m c]).alloc _
  have g1 := Blk.new (w.alloc (.cells #[.int .i64 mi, .int .i64 ma, .int .i64 ra, .bool dn, .int .i64 id, .int .i64 nx, .slice A m c] 26)) 26 #[.int .i64 0, .int .i64 0, .int .i64 0, .bool false, .int .i64 0, .int .i64 0, .slice none 0 0]
  rw [World.size_alloc] at g1
  have hs0 : ((w.alloc (.cells #[.int .i64 mi, .int .i64 ma, .int .i64 ra, .bool dn, .int .i64 id, .int .i64 nx, .slice A m c] 26)).alloc (.cells #[.int .i64 0, .int .i64 0, .int .i64 0, .bool false, .int .i64 0, .int .i64 0, .slice none 0 0] 26)).heap.size = w.heap.size + 2 := by simp
  have HX := Lib.hid (And.intro hR (And.intro hlen (And.intro hP (And.intro hC hlp))))
  clear hR hlen hP hC hlp
  go_enter Try.func18, Try.ntmps18
  go_upto_region 1 with fail
  generalize ((w.alloc (.cells #[.int .i64 mi, .int .i64 ma, .int .i64 ra, .bool dn, .int .i64 id, .int .i64 nx, .slice A m c] 26)).alloc (.cells #[.int .i64 0, .int .i64 0, .int .i64 0, .bool false, .int .i64 0, .int .i64 0, .slice none 0 0] 26)) = V at *
  have c0 : V.cell? ⟨w.heap.size, 0, none⟩ = some (.int .i64 mi) := g0.cell 0
  have c1 : V.cell? ⟨w.heap.size, 1, none⟩ = some (.int .i64 ma) := g0.cell 1
  have c2 : V.cell? ⟨w.heap.size, 2, none⟩ = some (.int .i64 ra) := g0.cell 2
  have c3 : V.cell? ⟨w.heap.size, 3, none⟩ = some (.bool dn) := g0.cell 3
  have c4 : V.cell? ⟨w.heap.size, 4, none⟩ = some (.int .i64 id) := g0.cell 4
  have c5 : V.cell? ⟨w.heap.size, 5, none⟩ = some (.int .i64 nx) := g0.cell 5
  have c6 : V.cell? ⟨w.heap.size, 6, none⟩ = some (.slice A m c) := g0.cell 6
  go_wp2_with fail
  have hE := HX.out.1.up hb0
  refine (Check_any mi ma ra dn id nx A m c l V hE (by omega) hmc).mono ?_
  rintro e w1 ⟨rfl, hb1⟩
  have G0 := g0.below hb1 (by omega)
  have G1 := g1.below hb1 (by omega)
  have hs1 : w.heap.size + 2 ≤ w1.heap.size := by have := hb1.size; omega
  have HB := Lib.hid (And.intro (hb0.trans (hb1.mono hb0.size)) (And.intro G0 G1))
  clear c0 c1 c2 c3 c4 c5 c6 g0 g1 hb0 hb1 hs0 hE G0 G1
  obtain ⟨r, hr⟩ : ∃ r, chkL ⟨mi, ma, ra, dn, id, nx, l.map Ev.em⟩ = r := ⟨_, rfl⟩
  rw [hr]
  by_cases hr0 : r = 0
  rotate_left 1
  · have hr1 : ((r : Int) != 0) = true := by rw [bne_iff_ne]; omega
    have hRR : R = ⟨zeroL, [], r⟩ := by rw [← HR.out, if_pos (by rw [hr]; exact hr0), hr]
    clear HR hr
    have HR0 := Lib.hid hr0
    clear hr0
    subst hRR
    go_wp2_with (refine wpList_store_row rfl _ _ _ rfl (w.heap.size + 1) _ rfl rfl 26 _ HB.out.2.2 (by kernel_rfl) rfl (by simp [Value.oneCell']) ?_)
    exact bodyPost_ret (results_cell_tmp2 (t := 26) (q := 9) (s := 10) rfl _ _ (w.heap.size + 1) _ _ rfl (HB.out.2.2.setRow _) Try.underlying26 rfl (by kernel_rfl)) rfl (send_err (code := r) (below_setRow HB.out.1 (by omega) _))
  subst hr0
  have HOK := Lib.hid (okL_of hr)
  have HR := Lib.hid ((show _ = R from by have h := HR.out; rw [if_neg (by rw [hr]; simp)] at h; exact h) : (if now < 0 ∨ 1073741824 < now then (⟨zeroL, [], 24⟩ : SendA) else _) = R)
  clear hr
  by_cases hnow : 0 ≤ now ∧ now ≤ 1073741824
  rotate_left 1
  · have hRR : R = ⟨zeroL, [], 24⟩ := by rw [← HR.out, if_pos (by omega)]
    clear HR
    have HNW := Lib.hid hnow
    clear hnow
    subst hRR
    go_wp2_with fail
    refine (betw_any _ _ _ (decide_eq_false HNW.out) _).mono ?_
    rintro e w2 ⟨rfl, rfl⟩
    go_wp2_with (refine wpList_store_row rfl _ _ _ rfl (w.heap.size + 1) _ rfl rfl 26 _ HB.out.2.2 (by kernel_rfl) rfl (by simp [Value.oneCell']) ?_)
    exact bodyPost_ret (results_cell_tmp2 (t := 26) (q := 9) (s := 10) rfl _ _ (w.heap.size + 1) _ _ rfl (HB.out.2.2.setRow _) Try.underlying26 rfl (by kernel_rfl)) rfl (send_err (code := 24) (below_setRow HB.out.1 (by omega) _))
  have HNW := Lib.hid hnow
  have HR := Lib.hid ((show _ = R from by have h := HR.out; rw [if_neg (by omega), if_neg (by omega)] at h; exact h) : (if dn = true then (⟨⟨mi, ma, ra, dn, id, nx, l.map Ev.em⟩, cs, 0⟩ : SendA) else _) = R)
  clear hnow
  have hp1 : ¬ (65536 : Int) < p.length := by omega
  go_wp2_with fail
  refine (betw_any _ _ _ (decide_eq_true HNW.out) _).mono ?_
  rintro e w2 ⟨rfl, rfl⟩
  go_upto_region 8 with fail
  have c0 : w2.cell? ⟨w.heap.size, 0, none⟩ = some (.int .i64 mi) := HB.out.2.1.cell 0
  have c1 : w2.cell? ⟨w.heap.size, 1, none⟩ = some (.int .i64 ma) := HB.out.2.1.cell 1
  have c2 : w2.cell? ⟨w.heap.size, 2, none⟩ = some (.int .i64 ra) := HB.out.2.1.cell 2
  have c3 : w2.cell? ⟨w.heap.size, 3, none⟩ = some (.bool dn) := HB.out.2.1.cell 3
  have c4 : w2.cell? ⟨w.heap.size, 4, none⟩ = some (.int .i64 id) := HB.out.2.1.cell 4
  have c5 : w2.cell? ⟨w.heap.size, 5, none⟩ = some (.int .i64 nx) := HB.out.2.1.cell 5
  have c6 : w2.cell? ⟨w.heap.size, 6, none⟩ = some (.slice A m c) := HB.out.2.1.cell 6
  cases dn with
  | true =>
    have hRR : R = ⟨⟨mi, ma, ra, true, id, nx, l.map Ev.em⟩, cs, 0⟩ := by rw [← HR.out, if_pos rfl]
    clear HR
    subst hRR
    go_wp2_with fail
    refine (own_any mi ma ra true id nx A m c l w2 (HX.out.1.up HB.out.1) (by omega) HX.out.2.2.2.2).mono ?_
    rintro e w3 ⟨hb3, v3, es3, rfl, hE3, hm3, hN3⟩
    obtain ⟨B3, d3, rfl⟩ := hE3.form
    have hs3 := hb3.size
    have H3 := Lib.hid (And.intro (HB.out.1.trans (hb3.mono HB.out.1.size)) (And.intro hE3 (And.intro hm3 (And.intro hN3 (HB.out.2.2.below hb3 (by omega))))))
    clear hb3 hE3 hm3 hN3 c0 c1 c2 c3 c4 c5 c6
    go_wp2_with fail
    refine (CloneI_any Ac cs.length cc cs w3 (HX.out.2.2.2.1.up H3.out.1) (by omega)).mono ?_
    rintro e w4 ⟨⟨v4, rfl, hv4⟩, hb4⟩
    obtain ⟨A4, c4, rfl, hca, hcm, hr4⟩ := own_slice hv4
    have hs4 := hb4.size
    have hf4 := own_addr hv4
    have H4 := Lib.hid (And.intro (H3.out.1.trans (hb4.mono H3.out.1.size)) (And.intro (H3.out.2.1.below hb4) (And.intro (H3.out.2.2.2.2.below hb4 (by omega)) (And.intro hr4 hf4))))
    clear hb4 hr4 hv4 hf4
    unfold lkV
    dsimp only
    go_wp2_with (refine wpList_store_row rfl _ _ _ rfl (w.heap.size + 1) _ rfl rfl 26 _ H4.out.2.2.1 (by kernel_rfl) rfl (by simp [Value.oneCell']) ?_)
    refine bodyPost_ret (results_cell_tmp2 (t := 26) (q := 9) (s := 10) rfl _ _ (w.heap.size + 1) _ _ rfl (H4.out.2.2.1.setRow _) Try.underlying26 rfl (by kernel_rfl)) rfl ⟨below_setRow H4.out.1 (by omega) _, .slice B3 es3.length d3, es3, A4, c4, rfl, ?_, H3.out.2.2.1, H3.out.2.2.2.1.low (by omega), ?_, hca, hcm⟩
    · exact (H4.out.2.1.keepN (H3.out.2.2.2.1) (fun g hg _ => setRow_other _ _ _ _ (by omega)) (by simp)).low (by omega)
    · exact (H4.out.2.2.2.1.row (g := w.heap.size + 1) (fun ad h0 hA => by have := H4.out.2.2.2.2 ad h0 hA; omega) _).more (by simp)
  | false =>
    have hok := HOK.out
    obtain ⟨E, hE⟩ : ∃ E, endM ⟨mi, ma, ra, false, id, nx, l.map Ev.em⟩ now p.length = E := ⟨_, rfl⟩
    have hEE : E = max now id + ticksM p.length ra := by rw [← hE]; rfl
    obtain ⟨T, hT⟩ : ∃ T, ticksM p.length ra = T := ⟨_, rfl⟩
    have htb := ticks_b p.length ra (by omega) hok.ra0 hok.ra
    rw [hT] at hEE htb
    have HT := Lib.hid hT
    have HEE := Lib.hid hEE
    have HRA : Hid (0 ≤ ra ∧ ra ≤ 65536) := ⟨hok.ra0, hok.ra⟩
    have HR := Lib.hid ((show _ = R from by have h := HR.out; rw [if_neg (by simp), hE] at h; exact h) : (if 1073741824 < E + ma then (⟨zeroL, [], 24⟩ : SendA) else _) = R)
    have hi0 : 0 ≤ id ∧ id ≤ 1073741824 := ⟨hok.idle0, hok.idle⟩
    have hnw := HNW.out
    clear hT hok hEE
    have HE := Lib.hid hE
    clear hE
    go_upto_region 10 with fail
    go_cut [12] from 41 to 51 (fun s wx => s = .int .i64 E ∧ Below w2.heap.size w2 wx)
    case first =>
      have HC4 := Lib.hid (And.intro c4 c2)
      have hl : w.heap.size < w2.heap.size := by omega
      have HL := Lib.hid hl
      rcases Int.lt_trichotomy now id with hlt | hlt | hlt
      · have hv : E = id + T := by rw [HEE.out, Int.max_eq_right (by omega)]
        have kw : IntKind.i64.wrap (id + T) = id + T := IntWalk.i64_in _ (by omega)
        subst hv
        go_region_held3 (fun W => W.cell? ⟨w.heap.size, 4, none⟩ = some (.int .i64 id) ∧ W.cell? ⟨w.heap.size, 2, none⟩ = some (.int .i64 ra) ∧ Below w2.heap.size w2 W)
          (first
            | exact ⟨HC4.out.1, HC4.out.2, (Below.refl _ w2).drew⟩
            | (go_split_ands; exact ⟨((below_step (by assumption) hb').cell (p := ⟨w.heap.size, 4, none⟩) HL.out).trans HC4.out.1, ((below_step (by assumption) hb').cell (p := ⟨w.heap.size, 2, none⟩) HL.out).trans HC4.out.2, below_step (by assumption) hb'⟩)
            | (go_split_ands; refine ⟨?_, ?_, ?_⟩ <;> assumption))
          (first
            | (go_at_call 39; refine (ticks_bel p.length ra _ (by omega) HRA.out.1 HRA.out.2 HT.out).mono ?_; rintro e w' ⟨rfl, hb'⟩))
        all_goals (try go_wp2_with fail)
        all_goals (go_meet; exact ⟨rfl, (Below.refl _ w2).drew.trans hb'⟩)
      · subst hlt
        have hv : E = now + T := by rw [HEE.out, Int.max_eq_right (by omega)]
        have kw : IntKind.i64.wrap (now + T) = now + T := IntWalk.i64_in _ (by omega)
        subst hv
        go_region_held3 (fun W => W.cell? ⟨w.heap.size, 4, none⟩ = some (.int .i64 now) ∧ W.cell? ⟨w.heap.size, 2, none⟩ = some (.int .i64 ra) ∧ Below w2.heap.size w2 W)
          (first
            | exact ⟨HC4.out.1, HC4.out.2, (Below.refl _ w2).drew⟩
            | (go_split_ands; exact ⟨((below_step (by assumption) hb').cell (p := ⟨w.heap.size, 4, none⟩) HL.out).trans HC4.out.1, ((below_step (by assumption) hb').cell (p := ⟨w.heap.size, 2, none⟩) HL.out).trans HC4.out.2, below_step (by assumption) hb'⟩)
            | (go_split_ands; refine ⟨?_, ?_, ?_⟩ <;> assumption))
          (first
            | (go_at_call 39; refine (ticks_bel p.length ra _ (by omega) HRA.out.1 HRA.out.2 HT.out).mono ?_; rintro e w' ⟨rfl, hb'⟩))
        all_goals (try go_wp2_with fail)
        all_goals (go_meet; exact ⟨rfl, (Below.refl _ w2).drew.trans hb'⟩)
      · have hv : E = now + T := by rw [HEE.out, Int.max_eq_left (by omega)]
        have kw : IntKind.i64.wrap (now + T) = now + T := IntWalk.i64_in _ (by omega)
        subst hv
        go_region_held3 (fun W => W.cell? ⟨w.heap.size, 4, none⟩ = some (.int .i64 id) ∧ W.cell? ⟨w.heap.size, 2, none⟩ = some (.int .i64 ra) ∧ Below w2.heap.size w2 W)
          (first
            | exact ⟨HC4.out.1, HC4.out.2, (Below.refl _ w2).drew⟩
            | (go_split_ands; exact ⟨((below_step (by assumption) hb').cell (p := ⟨w.heap.size, 4, none⟩) HL.out).trans HC4.out.1, ((below_step (by assumption) hb').cell (p := ⟨w.heap.size, 2, none⟩) HL.out).trans HC4.out.2, below_step (by assumption) hb'⟩)
            | (go_split_ands; refine ⟨?_, ?_, ?_⟩ <;> assumption))
          (first
            | (go_at_call 39; refine (ticks_bel p.length ra _ (by omega) HRA.out.1 HRA.out.2 HT.out).mono ?_; rintro e w' ⟨rfl, hb'⟩))
        all_goals (try go_wp2_with fail)
        all_goals (go_meet; exact ⟨rfl, (Below.refl _ w2).drew.trans hb'⟩)
    case rest =>
      obtain ⟨rfl, hb3⟩ := hcut
      have hs3 := hb3.size
      have H3 := Lib.hid (And.intro (HB.out.1.trans (hb3.mono HB.out.1.size)) (And.intro (HB.out.2.1.below hb3 (by omega)) (HB.out.2.2.below hb3 (by omega))))
      clear hb3 c0 c1 c2 c3 c4 c5 c6
      have hok := HOK.out
      have hEb : 0 ≤ E ∧ E ≤ 1073941824 := by have := HEE.out; rw [Int.max_def] at this; split at this <;> omega
      have hma : 0 ≤ ma ∧ ma ≤ 1073741824 := by have h1 := hok.mi0; have h2 := hok.mima; have h3 := hok.ma; dsimp only at h1 h2 h3; omega
      have hnx : 0 ≤ nx ∧ nx ≤ 1073741824 := ⟨hok.nx0, hok.nx⟩
      have hmi : 0 ≤ mi ∧ mi ≤ ma := ⟨hok.mi0, hok.mima⟩
      clear hok hi0 hnw htb
      have c0 : wc.cell? ⟨w.heap.size, 0, none⟩ = some (.int .i64 mi) := H3.out.2.1.cell 0
      have c1 : wc.cell? ⟨w.heap.size, 1, none⟩ = some (.int .i64 ma) := H3.out.2.1.cell 1
      have c2 : wc.cell? ⟨w.heap.size, 2, none⟩ = some (.int .i64 ra) := H3.out.2.1.cell 2
      have c3 : wc.cell? ⟨w.heap.size, 3, none⟩ = some (.bool false) := H3.out.2.1.cell 3
      have c4 : wc.cell? ⟨w.heap.size, 4, none⟩ = some (.int .i64 id) := H3.out.2.1.cell 4
      have c5 : wc.cell? ⟨w.heap.size, 5, none⟩ = some (.int .i64 nx) := H3.out.2.1.cell 5
      have c6 : wc.cell? ⟨w.heap.size, 6, none⟩ = some (.slice A m c) := H3.out.2.1.cell 6
      by_cases hE1 : 1073741824 < E + ma
      · have hRR : R = ⟨zeroL, [], 24⟩ := by rw [← HR.out, if_pos hE1]
        clear HR
        subst hRR
        go_wp2_with (refine wpList_store_row rfl _ _ _ rfl (w.heap.size + 1) _ rfl rfl 26 _ H3.out.2.2 (by kernel_rfl) rfl (by simp [Value.oneCell']) ?_)
        exact bodyPost_ret (results_cell_tmp2 (t := 26) (q := 9) (s := 10) rfl _ _ (w.heap.size + 1) _ _ rfl (H3.out.2.2.setRow _) Try.underlying26 rfl (by kernel_rfl)) rfl (send_err (code := 24) (below_setRow H3.out.1 (by omega) _))
      have HR := Lib.hid ((show _ = R from by have h := HR.out; rw [if_neg hE1] at h; exact h) : (if 4094 < (l.map Ev.em).length ∨ 1073741822 < nx then (⟨zeroL, [], 11⟩ : SendA) else _) = R)
      have hm1 : ¬ (4094 : Int) < m := by omega
      by_cases hn1 : 1073741822 < nx
      · have hRR : R = ⟨zeroL, [], 11⟩ := by rw [← HR.out, if_pos (.inr hn1)]
        clear HR
        subst hRR
        go_wp2_with (refine wpList_store_row rfl _ _ _ rfl (w.heap.size + 1) _ rfl rfl 26 _ H3.out.2.2 (by kernel_rfl) rfl (by simp [Value.oneCell']) ?_)
        exact bodyPost_ret (results_cell_tmp2 (t := 26) (q := 9) (s := 10) rfl _ _ (w.heap.size + 1) _ _ rfl (H3.out.2.2.setRow _) Try.underlying26 rfl (by kernel_rfl)) rfl (send_err (code := 11) (below_setRow H3.out.1 (by omega) _))
      have hrr := HR.out
      rw [if_neg (by have h1 := HX.out.2.1; rw [List.length_map]; omega)] at hrr
      clear HR
      have HR := Lib.hid hrr
      clear hrr
      go_wp2_with fail
      refine (own_any mi ma ra false id nx A m c l wc (HX.out.1.up H3.out.1) (by omega) HX.out.2.2.2.2).mono ?_
      rintro e w4 ⟨hb4, v4, es4, rfl, hE4, hm4, hN4⟩
      obtain ⟨B4, d4, rfl⟩ := hE4.form
      have hs4 := hb4.size
      clear c0 c1 c2 c3 c4 c5 c6
      unfold lkV
      dsimp only
      have bo := Blk.new w4 26 #[.int .i64 mi, .int .i64 ma, .int .i64 ra, .bool false, .int .i64 id, .int .i64 nx, .slice B4 es4.length d4]
      have hb5 : Below w4.heap.size w4 (w4.alloc (.cells #[.int .i64 mi, .int .i64 ma, .int .i64 ra, .bool false, .int .i64 id, .int .i64 nx, .slice B4 es4.length d4] 26)) := (Below.refl _ _).alloc (Nat.le_refl _) _
      have hs5 : (w4.alloc (.cells #[.int .i64 mi, .int .i64 ma, .int .i64 ra, .bool false, .int .i64 id, .int .i64 nx, .slice B4 es4.length d4] 26)).heap.size = w4.heap.size + 1 := by simp
      have H4 := Lib.hid (And.intro hb4 (And.intro hE4 (And.intro hm4 (And.intro hN4 (And.intro bo (And.intro hb5 hs5))))))
      clear hb4 hE4 hm4 hN4 bo hb5 hs5
      go_upto_region 16 with fail
      have b4 : (w4.alloc (.cells #[.int .i64 mi, .int .i64 ma, .int .i64 ra, .bool false, .int .i64 id, .int .i64 nx, .slice B4 es4.length d4] 26)).cell? ⟨w4.heap.size, 4, none⟩ = some (.int .i64 id) := H4.out.2.2.2.2.1.cell 4
      have f4 : (w4.alloc (.cells #[.int .i64 mi, .int .i64 ma, .int .i64 ra, .bool false, .int .i64 id, .int .i64 nx, .slice B4 es4.length d4] 26)).frozen? ⟨w4.heap.size, 4, none⟩ = false := H4.out.2.2.2.2.1.frozen 4
      generalize (w4.alloc (.cells #[.int .i64 mi, .int .i64 ma, .int .i64 ra, .bool false, .int .i64 id, .int .i64 nx, .slice B4 es4.length d4] 26)) = V4 at *
      have hzV : V4.heap.size = w4.heap.size + 1 := H4.out.2.2.2.2.2.2
      have HZV := Lib.hid hzV
      clear hzV
      go_upto_region 17 with fail
      have hgS : V4.grownBy (V4.setCell ⟨w4.heap.size, 4, none⟩ (.int .i64 E)) (some w4.heap.size) := ⟨rfl, rfl, rfl, by simp, fun k _ hne => Below.heap_setCell _ _ _ _ (fun e => hne (by rw [e]))⟩
      have bo5 : Blk (V4.setCell ⟨w4.heap.size, 4, none⟩ (.int .i64 E)) w4.heap.size 26 #[.int .i64 mi, .int .i64 ma, .int .i64 ra, .bool false, .int .i64 E, .int .i64 nx, .slice B4 es4.length d4] := H4.out.2.2.2.2.1.set_ 4 _
      have hE5 : OwnE (V4.setCell ⟨w4.heap.size, 4, none⟩ (.int .i64 E)) wc.heap.size (.slice B4 es4.length d4) es4 := (H4.out.2.1.below H4.out.2.2.2.2.2.1).put H4.out.2.2.2.2.1 (by decide) (noU8 _ _ _ _ _ _ _ _ _) hgS
      have hb5 : Below wc.heap.size wc (V4.setCell ⟨w4.heap.size, 4, none⟩ (.int .i64 E)) := ((H4.out.1.trans (H4.out.2.2.2.2.2.1.mono hs4))).setCell hs4 _
      have hz5 : (V4.setCell ⟨w4.heap.size, 4, none⟩ (.int .i64 E)).heap.size = w4.heap.size + 1 := by simp [HZV.out]
      generalize (V4.setCell ⟨w4.heap.size, 4, none⟩ (.int .i64 E)) = V5 at *
      have H5 := Lib.hid (And.intro bo5 (And.intro hE5 (And.intro hb5 hz5)))
      clear hgS bo5 hE5 hb5 hz5 b4 f4
      go_wp2_with fail
      refine (CloneI_any Ac cs.length cc cs V5 (HX.out.2.2.2.1.up (H3.out.1.trans (H5.out.2.2.1.mono H3.out.1.size))) (by omega)).mono ?_
      rintro e w6 ⟨⟨v6, rfl, hv6⟩, hb6⟩
      obtain ⟨A6, c6, rfl, hca6, hcm6, hr6⟩ := own_slice hv6
      have hs6 := hb6.size
      have hz5 := H5.out.2.2.2
      have HCH : Hid (ChB (w6.alloc (.cells #[.slice A6 cs.length c6] 77)) w6.heap.size cs) := ChB.of_own (own_alloc hv6 _) rfl (Blk.new w6 77 #[.slice A6 cs.length c6])
      have hb7 : Below V5.heap.size V5 (w6.alloc (.cells #[.slice A6 cs.length c6] 77)) := hb6.alloc hs6 _
      have hz7 : (w6.alloc (.cells #[.slice A6 cs.length c6] 77)).heap.size = w6.heap.size + 1 := by simp
      have H6 := Lib.hid (And.intro hb7 (And.intro hz7 (And.intro (H5.out.1.below hb7 (by omega)) (And.intro (H5.out.2.1.below hb7) (H5.out.2.2.1.trans (hb7.mono H5.out.2.2.1.size))))))
      clear hv6 hr6 hb6 hb7
      go_upto_region 19 with fail
      generalize (w6.alloc (.cells #[.slice A6 cs.length c6] 77)) = V6 at *
      go_wp2_with fail
      refine (decide_any w6.heap.size cs 3 V6 HCH.out (by omega) (by omega)).mono ?_
      rintro e w7 ⟨rfl, hch7, hg7, hz7'⟩
      have hdb := decV_b cs (n := 3) (by omega)
      obtain ⟨hw, hhw⟩ : ∃ hw, decV cs 3 = hw := ⟨_, rfl⟩
      rw [hhw] at hdb ⊢
      obtain ⟨nk, hK⟩ : ∃ nk, timesOf hw = nk := ⟨_, rfl⟩
      have HKW := Lib.hid (And.intro hhw hK)
      have hidx : ∀ W : World, (Instr.index 79 (.agg #[.int .i64 1, .int .i64 0, .int .i64 2]) (.int .i64 hw)).run Try.prog W = .ok (.int .i64 (nk : Nat)) W := by
        intro W
        rw [← hK]
        have h3 : hw = 0 ∨ hw = 1 ∨ hw = 2 := by omega
        rcases h3 with rfl | rfl | rfl
        · exact run_index_arr (i := 0) Try.underlying79 Try.underlying3 rfl (by kernel_rfl) (by decide) rfl
        · exact run_index_arr (i := 1) Try.underlying79 Try.underlying3 rfl (by kernel_rfl) (by decide) rfl
        · exact run_index_arr (i := 2) Try.underlying79 Try.underlying3 rfl (by kernel_rfl) (by decide) rfl
      clear hhw hK
      go_wp2_with fail
      have hz5 := H5.out.2.2.2
      have hwc := H3.out.1.size
      have hgo : w4.heap.size < V6.heap.size := by have := H6.out.1.size; omega
      have hbel7 : Below wc.heap.size wc w7 := H6.out.2.2.2.2.grown hg7 H6.out.2.2.2.2.size (fun k hk => by injection hk with hk; omega)
      have hb6w := H6.out.1.size
      have b47 : Blk w7 w.heap.size 26 #[.int .i64 mi, .int .i64 ma, .int .i64 ra, .bool false, .int .i64 id, .int .i64 nx, .slice A m c] := (H3.out.2.1.below H6.out.2.2.2.2 (by omega)).grown hg7 (by intro e; injection e with e; omega)
      have b87 : Blk w7 (w.heap.size + 1) 26 #[.int .i64 0, .int .i64 0, .int .i64 0, .bool false, .int .i64 0, .int .i64 0, .slice none 0 0] := (H3.out.2.2.below H6.out.2.2.2.2 (by omega)).grown hg7 (by intro e; injection e with e; omega)
      have bo7 := H6.out.2.2.1.grown hg7 (by intro e; injection e with e; omega)
      have ho7 : OwnE w7 wc.heap.size (.slice B4 es4.length d4) es4 := by
        obtain ⟨A9, c9, hB9, _⟩ := HCH.out.rd
        exact H6.out.2.2.2.1.put hB9 (by decide) (by intro i x hx; rcases i with _ | i <;> simp at hx) hg7
      have H7 : Hid (SdI w #[.int .i64 mi, .int .i64 ma, .int .i64 ra, .bool false, .int .i64 id, .int .i64 nx, .slice A m c] #[.int .i64 0, .int .i64 0, .int .i64 0, .bool false, .int .i64 0, .int .i64 0, .slice none 0 0] wc.heap.size w4.heap.size w6.heap.size ⟨mi, ma, ra, false, E, nx, l.map Ev.em⟩ (decR cs) (.slice B4 es4.length d4) es4 w7) := ⟨b47, b87, bo7, hch7, ho7, H4.out.2.2.2.1, H4.out.2.2.1, H3.out.1.trans (hbel7.mono H3.out.1.size)⟩
      have HLOW : Hid (w.heap.size + 2 ≤ wc.heap.size ∧ wc.heap.size ≤ w4.heap.size ∧ w4.heap.size < w6.heap.size) := ⟨by omega, by omega, by omega⟩
      have hlm : (l.map Ev.em).length = m := by rw [List.length_map]; exact HX.out.2.1
      have hK2 : nk ≤ 2 := by
        have := HKW.out.2
        unfold timesOf at this
        split at this
        · omega
        · split at this <;> omega
      clear hch7 hg7 hz7' hidx hbel7 b47 b87 bo7 ho7 hgo hb6w hz5 hwc
      generalize hLL : (⟨mi, ma, ra, false, E, nx, l.map Ev.em⟩ : Lm) = LL at *
      have HLL : Hid (LL.mi = mi ∧ LL.ma = ma ∧ LL.nx = nx ∧ LL.fl.length = m) := by subst hLL; exact ⟨rfl, rfl, rfl, hlm⟩
      go_wp2_with fail
      generalize hgo' : w4.heap.size = go at *
      generalize hgl' : w6.heap.size = gl at *
      generalize hlow' : wc.heap.size = low at *
      go_loopw [17, 83] (fun _ u83 W => ∃ (k : Nat) (l1 : Lm) (r1 : List Int) (v1 : Value) (es1 : List Ev), k ≤ nk ∧ u83 = .int .i64 (k : Nat) ∧ SdI w #[.int .i64 mi, .int .i64 ma, .int .i64 ra, .bool false, .int .i64 id, .int .i64 nx, .slice A m c] #[.int .i64 0, .int .i64 0, .int .i64 0, .bool false, .int .i64 0, .int .i64 0, .slice none 0 0] low go gl l1 r1 v1 es1 W ∧ sendN (nk - k) l1 E p r1 = sendN nk LL E p (decR cs) ∧ (l1.mi = mi ∧ l1.ma = ma ∧ l1.nx = nx + k ∧ l1.fl.length = m + k)) (fun _ u83 _ => nk + 1 - (intOf u83).toNat)
      case atStart => exact ⟨0, _, _, _, _, by omega, rfl, H7.out, rfl, HLL.out.1, HLL.out.2.1, by rw [HLL.out.2.2.1]; simp, HLL.out.2.2.2⟩
      case round =>
        obtain ⟨k, l1, r1, v1, es1, hk, rfl, hI, hsn, hmi1, hma1, hnx1, hfl1⟩ := hrel
        obtain ⟨B1, d1, rfl⟩ := hI.own.form
        have HI1 := Lib.hid hI
        have HSN := Lib.hid hsn
        have hlt4 := hI.b4.lt
        have hlto := hI.bo.lt
        clear hI hsn
        by_cases hkK : k < nk
        · have hkK' : (k : Int) < nk := by omega
          have x0 : wr.cell? ⟨w.heap.size, 0, none⟩ = some (.int .i64 mi) := HI1.out.b4.cell 0
          have x1 : wr.cell? ⟨w.heap.size, 1, none⟩ = some (.int .i64 ma) := HI1.out.b4.cell 1
          have kw1 : IntKind.i64.wrap (ma - mi) = ma - mi := IntWalk.i64_in _ (by omega)
          have kw2 : IntKind.i64.wrap (ma - mi + 1) = ma - mi + 1 := IntWalk.i64_in _ (by omega)
          go_upto_region 22 with fail
          refine wp_pan (Pc := fun _ _ _ => False) (fun _ _ _ h => h.elim) ?_
          refine wp_region_tail_lit (S := fun V => V.cell? ⟨w.heap.size, 0, none⟩ = some (.int .i64 mi) ∧ V.cell? ⟨w.heap.size, 1, none⟩ = some (.int .i64 ma)) 13 (by kernel_rfl) (by kernel_rfl) ⟨x0, x1⟩ (fun hHeld => ?_)
          simp only [List.take, List.drop]
          refine wpAnyH_take (i := 0) (oi := _) (v := ?_) rfl (by kernel_rfl) (by kernel_rfl) (by kernel_rfl) (fun _ _ _ h => h) (Or.inl ⟨by rfl, ?_⟩) (by assumption) ?_
          rotate_left 1
          · (intro w9 hS9; (try dsimp only at hS9); go_simp <;> with_reducible rfl)
          try simp only [List.getElem_toArray, List.getElem_cons_succ, List.getElem_cons_zero, Act.put, List.setIfInBounds_toArray, List.set_cons_zero, List.set_cons_succ]
          refine wpAnyH_take (i := 1) (oi := _) (v := ?_) rfl (by kernel_rfl) (by kernel_rfl) (by kernel_rfl) (fun _ _ _ h => h) (Or.inl ⟨by rfl, ?_⟩) (by assumption) ?_
          rotate_left 1
          · (intro w9 hS9; (try dsimp only at hS9); go_simp <;> with_reducible rfl)
          try simp only [List.getElem_toArray, List.getElem_cons_succ, List.getElem_cons_zero, Act.put, List.setIfInBounds_toArray, List.set_cons_zero, List.set_cons_succ]
          refine wpAnyH_take (i := 2) (oi := _) (v := ?_) rfl (by kernel_rfl) (by kernel_rfl) (by kernel_rfl) (fun _ _ _ h => h) (Or.inl ⟨by rfl, ?_⟩) (by assumption) ?_
          rotate_left 1
          · (intro w9 hS9; (try dsimp only at hS9); go_simp <;> with_reducible rfl)
          try simp only [List.getElem_toArray, List.getElem_cons_succ, List.getElem_cons_zero, Act.put, List.setIfInBounds_toArray, List.set_cons_zero, List.set_cons_succ]
          refine wpAnyH_take (i := 3) (oi := _) (v := ?_) rfl (by kernel_rfl) (by kernel_rfl) (by kernel_rfl) (fun _ _ _ h => h) (Or.inl ⟨by rfl, ?_⟩) (by assumption) ?_
          rotate_left 1
          · (intro w9 hS9; (try dsimp only at hS9); go_simp <;> with_reducible rfl)
          try simp only [List.getElem_toArray, List.getElem_cons_succ, List.getElem_cons_zero, Act.put, List.setIfInBounds_toArray, List.set_cons_zero, List.set_cons_succ]
          refine wpAnyH_take (i := 4) (oi := _) (v := ?_) rfl (by kernel_rfl) (by kernel_rfl) (by kernel_rfl) (fun _ _ _ h => h) (Or.inl ⟨by rfl, ?_⟩) (by assumption) ?_
          rotate_left 1
          · (intro w9 hS9; (try dsimp only at hS9); go_simp <;> with_reducible rfl)
          try simp only [List.getElem_toArray, List.getElem_cons_succ, List.getElem_cons_zero, Act.put, List.setIfInBounds_toArray, List.set_cons_zero, List.set_cons_succ]
          refine wpAnyH_take (i := 5) (oi := _) (v := ?_) rfl (by kernel_rfl) (by kernel_rfl) (by kernel_rfl) (fun _ _ _ h => h) (Or.inl ⟨by rfl, ?_⟩) (by assumption) ?_
          rotate_left 1
          · (intro w9 hS9; (try dsimp only at hS9); go_simp <;> with_reducible rfl)
          try simp only [List.getElem_toArray, List.getElem_cons_succ, List.getElem_cons_zero, Act.put, List.setIfInBounds_toArray, List.set_cons_zero, List.set_cons_succ]
          refine wpAnyH_take (i := 6) (oi := _) (v := ?_) rfl (by kernel_rfl) (by kernel_rfl) (by kernel_rfl) (fun _ _ _ h => h) (Or.inl ⟨by rfl, ?_⟩) (by assumption) ?_
          rotate_left 1
          · (intro w9 hS9; (try dsimp only at hS9); go_simp <;> with_reducible rfl)
          try simp only [List.getElem_toArray, List.getElem_cons_succ, List.getElem_cons_zero, Act.put, List.setIfInBounds_toArray, List.set_cons_zero, List.set_cons_succ]
          refine wpAnyH_take (i := 7) (oi := _) (v := ?_) rfl (by kernel_rfl) (by kernel_rfl) (by kernel_rfl) (fun _ _ _ h => h) (Or.inl ⟨by rfl, ?_⟩) (by assumption) ?_
          rotate_left 1
          · (intro w9 hS9; (try dsimp only at hS9); go_simp <;> with_reducible rfl)
          try simp only [List.getElem_toArray, List.getElem_cons_succ, List.getElem_cons_zero, Act.put, List.setIfInBounds_toArray, List.set_cons_zero, List.set_cons_succ]
          refine wpAnyH_take (i := 8) (oi := _) (v := ?_) rfl (by kernel_rfl) (by kernel_rfl) (by kernel_rfl) (fun _ _ _ h => h) (Or.inl ⟨by rfl, ?_⟩) (by assumption) ?_
          rotate_left 1
          · (intro w9 hS9; (try dsimp only at hS9); go_simp <;> with_reducible rfl)
          try simp only [List.getElem_toArray, List.getElem_cons_succ, List.getElem_cons_zero, Act.put, List.setIfInBounds_toArray, List.set_cons_zero, List.set_cons_succ]
          refine wpAnyH_take (i := 9) (oi := _) (v := ?_) rfl (by kernel_rfl) (by kernel_rfl) (by kernel_rfl) (fun _ _ _ h => h) (Or.inl ⟨by rfl, ?_⟩) (by assumption) ?_
          rotate_left 1
          · (intro w9 hS9; (try dsimp only at hS9); go_simp <;> with_reducible rfl)
          try simp only [List.getElem_toArray, List.getElem_cons_succ, List.getElem_cons_zero, Act.put, List.setIfInBounds_toArray, List.set_cons_zero, List.set_cons_succ]
          refine wpAnyH_take (i := 10) (oi := _) (v := ?_) rfl (by kernel_rfl) (by kernel_rfl) (by kernel_rfl) (fun _ _ _ h => h) (Or.inl ⟨by rfl, ?_⟩) (by assumption) ?_
          rotate_left 1
          · (intro w9 hS9; (try dsimp only at hS9); go_simp <;> with_reducible rfl)
          try simp only [List.getElem_toArray, List.getElem_cons_succ, List.getElem_cons_zero, Act.put, List.setIfInBounds_toArray, List.set_cons_zero, List.set_cons_succ]
          refine wpAnyH_take (i := 11) (oi := _) (v := ?_) rfl (by kernel_rfl) (by kernel_rfl) (by kernel_rfl) (fun _ _ _ h => h) (Or.inl ⟨by rfl, ?_⟩) (by assumption) ?_
          rotate_left 1
          · (intro w9 hS9; (try dsimp only at hS9); go_simp <;> with_reducible rfl)
          try simp only [List.getElem_toArray, List.getElem_cons_succ, List.getElem_cons_zero, Act.put, List.setIfInBounds_toArray, List.set_cons_zero, List.set_cons_succ]
          refine wpAnyH_ready (rs := [12]) (by kernel_rfl) (by simp) ?_
          refine AllReadyH.cons (o := _) rfl (fun K hK => ?_) AllReadyH.nil
          try simp only [List.getElem_toArray, List.getElem_cons_succ, List.getElem_cons_zero]
          go_simp
          refine (decide_any gl r1 (ma - mi + 1) wr.drew HI1.out.ch (by omega) (by omega)).mono ?_
          rintro e w1 ⟨rfl, hch1, hg1, hz1⟩
          have hz1' : w1.heap.size = wr.heap.size := hz1
          have hdb1 := decV_b r1 (n := ma - mi + 1) (by omega)
          obtain ⟨d, hd⟩ : ∃ d, decV r1 (ma - mi + 1) = d := ⟨_, rfl⟩
          rw [hd] at hdb1 ⊢
          have HD := Lib.hid hd
          clear hd
          obtain ⟨A9, c9, hB9, _⟩ := HI1.out.ch.rd
          have hlow := HLOW.out
          have hglw : gl < wr.heap.size := hB9.lt
          have g1w : wr.grownBy w1 (some gl) := ⟨hg1.1, hg1.2, hg1.3, hg1.size, hg1.block⟩
          have b41 := HI1.out.b4.grown g1w (by intro e; injection e with e; omega)
          have b81 := HI1.out.b8.grown g1w (by intro e; injection e with e; omega)
          have bo1 := HI1.out.bo.grown g1w (by intro e; injection e with e; omega)
          have ho1 : OwnE w1 low (.slice B1 es1.length d1) es1 := HI1.out.own.put hB9 (by decide) (by intro i x hx; rcases i with _ | i <;> simp at hx) g1w
          have hw1 : Below w.heap.size w w1 := HI1.out.bel.grown g1w HI1.out.bel.size (fun k hk => by injection hk with hk; omega)
          have x0' : w1.cell? ⟨w.heap.size, 0, none⟩ = some (.int .i64 mi) := b41.cell 0
          have x1' : w1.cell? ⟨w.heap.size, 1, none⟩ = some (.int .i64 ma) := b41.cell 1
          have H8 : Hid (SdI w #[.int .i64 mi, .int .i64 ma, .int .i64 ra, .bool false, .int .i64 id, .int .i64 nx, .slice A m c] #[.int .i64 0, .int .i64 0, .int .i64 0, .bool false, .int .i64 0, .int .i64 0, .slice none 0 0] low go gl l1 (decR r1) (.slice B1 es1.length d1) es1 w1) := ⟨b41, b81, bo1, hch1, ho1, HI1.out.new, HI1.out.em, hw1⟩
          clear b41 b81 bo1 hch1 ho1 hw1 hg1 g1w hB9 hz1
          go_wp2_with fail
          refine hK.out _ _ ⟨x0', x1'⟩ (fun hHeld => ?_)
          clear hK K
          try simp only [List.getElem_toArray, List.getElem_cons_succ, List.getElem_cons_zero, Act.put, List.setIfInBounds_toArray, List.set_cons_zero, List.set_cons_succ]
          refine wpAnyH_done (by kernel_rfl) ?_ _
          have kw3 : IntKind.i64.wrap (mi + d) = mi + d := IntWalk.i64_in _ (by omega)
          refine tailQ_step rfl ?_
          go_wp2_with fail
          refine tailQ_step rfl ?_
          go_wp2_with fail
          refine tailQ_nil (panQ_normal ?_)
          go_wp2_with fail
          obtain ⟨M1, hM1⟩ : ∃ M1 : Int, nx + k = M1 := ⟨_, rfl⟩
          have hM2 : l1.nx = M1 := by rw [hnx1, hM1]
          have hMb : 0 ≤ M1 ∧ M1 ≤ 1073742000 := by omega
          have y6 : w1.cell? ⟨go, 6, none⟩ = some (.slice B1 es1.length d1) := H8.out.bo.cell 6
          have y5 : w1.cell? ⟨go, 5, none⟩ = some (.int .i64 M1) := by rw [← hM2]; exact H8.out.bo.cell 5
          have hlo1 := H8.out.bo.lt
          have hes1 : es1.length = m + k := by have := congrArg List.length HI1.out.em; rw [List.length_map, hfl1] at this; exact this
          have kw4 : IntKind.i64.wrap (E + (mi + d)) = E + (mi + d) := IntWalk.i64_in _ (by omega)
          have HNX := Lib.hid (And.intro hnx1 (And.intro hM1 hM2))
          have HES := Lib.hid hes1
          have hesb : es1.length ≤ 9000 := by omega
          clear x0 x1 kw1 kw2 kw3 hnx1 hM1 hM2 hes1 x0' x1'
          go_upto_region 23 with fail
          refine wp_pan (Pc := fun _ _ _ => False) (fun _ _ _ h => h.elim) ?_
          refine wp_region_tail_lit (S := fun V => V.cell? ⟨go, 6, none⟩ = some (.slice B1 es1.length d1) ∧ V.cell? ⟨go, 5, none⟩ = some (.int .i64 M1)) 11 (by kernel_rfl) (by kernel_rfl) ⟨y6, y5⟩ (fun hHeld => ?_)
          simp only [List.take, List.drop]
          refine wpAnyH_take (i := 0) (oi := _) (v := ?_) rfl (by kernel_rfl) (by kernel_rfl) (by kernel_rfl) (fun _ _ _ h => h) (Or.inl ⟨by rfl, ?_⟩) (by assumption) ?_
          rotate_left 1
          · (intro w9 hS9; (try dsimp only at hS9); go_simp <;> with_reducible rfl)
          try simp only [List.getElem_toArray, List.getElem_cons_succ, List.getElem_cons_zero, Act.put, List.setIfInBounds_toArray, List.set_cons_zero, List.set_cons_succ]
          refine wpAnyH_take (i := 1) (oi := _) (v := ?_) rfl (by kernel_rfl) (by kernel_rfl) (by kernel_rfl) (fun _ _ _ h => h) (Or.inl ⟨by rfl, ?_⟩) (by assumption) ?_
          rotate_left 1
          · (intro w9 hS9; (try dsimp only at hS9); go_simp <;> with_reducible rfl)
          try simp only [List.getElem_toArray, List.getElem_cons_succ, List.getElem_cons_zero, Act.put, List.setIfInBounds_toArray, List.set_cons_zero, List.set_cons_succ]
          refine wpAnyH_take (i := 2) (oi := _) (v := ?_) rfl (by kernel_rfl) (by kernel_rfl) (by kernel_rfl) (fun _ _ _ h => h) (Or.inl ⟨by rfl, ?_⟩) (by assumption) ?_
          rotate_left 1
          · (intro w9 hS9; (try dsimp only at hS9); go_simp <;> with_reducible rfl)
          try simp only [List.getElem_toArray, List.getElem_cons_succ, List.getElem_cons_zero, Act.put, List.setIfInBounds_toArray, List.set_cons_zero, List.set_cons_succ]
          refine wpAnyH_take (i := 3) (oi := _) (v := ?_) rfl (by kernel_rfl) (by kernel_rfl) (by kernel_rfl) (fun _ _ _ h => h) (Or.inl ⟨by rfl, ?_⟩) (by assumption) ?_
          rotate_left 1
          · (intro w9 hS9; (try dsimp only at hS9); go_simp <;> with_reducible rfl)
          try simp only [List.getElem_toArray, List.getElem_cons_succ, List.getElem_cons_zero, Act.put, List.setIfInBounds_toArray, List.set_cons_zero, List.set_cons_succ]
          refine wpAnyH_take (i := 4) (oi := _) (v := ?_) rfl (by kernel_rfl) (by kernel_rfl) (by kernel_rfl) (fun _ _ _ h => h) (Or.inl ⟨by rfl, ?_⟩) (by assumption) ?_
          rotate_left 1
          · (intro w9 hS9; (try dsimp only at hS9); go_simp <;> with_reducible rfl)
          try simp only [List.getElem_toArray, List.getElem_cons_succ, List.getElem_cons_zero, Act.put, List.setIfInBounds_toArray, List.set_cons_zero, List.set_cons_succ]
          refine wpAnyH_take (i := 5) (oi := _) (v := ?_) rfl (by kernel_rfl) (by kernel_rfl) (by kernel_rfl) (fun _ _ _ h => h) (Or.inl ⟨by rfl, ?_⟩) (by assumption) ?_
          rotate_left 1
          · (intro w9 hS9; (try dsimp only at hS9); go_simp <;> with_reducible rfl)
          try simp only [List.getElem_toArray, List.getElem_cons_succ, List.getElem_cons_zero, Act.put, List.setIfInBounds_toArray, List.set_cons_zero, List.set_cons_succ]
          refine wpAnyH_take (i := 6) (oi := _) (v := ?_) rfl (by kernel_rfl) (by kernel_rfl) (by kernel_rfl) (fun _ _ _ h => h) (Or.inl ⟨by rfl, ?_⟩) (by assumption) ?_
          rotate_left 1
          · (intro w9 hS9; (try dsimp only at hS9); go_simp <;> with_reducible rfl)
          try simp only [List.getElem_toArray, List.getElem_cons_succ, List.getElem_cons_zero, Act.put, List.setIfInBounds_toArray, List.set_cons_zero, List.set_cons_succ]
          refine wpAnyH_take (i := 7) (oi := _) (v := ?_) rfl (by kernel_rfl) (by kernel_rfl) (by kernel_rfl) (fun _ _ _ h => h) (Or.inl ⟨by rfl, ?_⟩) (by assumption) ?_
          rotate_left 1
          · (intro w9 hS9; (try dsimp only at hS9); go_simp <;> with_reducible rfl)
          try simp only [List.getElem_toArray, List.getElem_cons_succ, List.getElem_cons_zero, Act.put, List.setIfInBounds_toArray, List.set_cons_zero, List.set_cons_succ]
          refine wpAnyH_ready (rs := [8]) (by kernel_rfl) (by simp) ?_
          refine AllReadyH.cons (o := _) rfl (fun K hK => ?_) AllReadyH.nil
          try simp only [List.getElem_toArray, List.getElem_cons_succ, List.getElem_cons_zero]
          go_simp
          refine (Clone_any Ap p.length cp p w1.drew (Reads.drew (HX.out.2.2.1.up H8.out.bel)) (by omega)).mono ?_
          rintro e w9 ⟨⟨v9, rfl, hv9⟩, hb9⟩
          obtain ⟨P9, q9, rfl, _, _, hr9⟩ := own_slice hv9
          have hf9 := own_addr hv9
          have hbn : Below w1.heap.size w1 w9 := (Below.refl _ w1).drew.trans hb9
          have H9 := Lib.hid (H8.out.below hbn)
          have hf9' : ∀ ad, 0 < p.length → P9 = some ad → w1.heap.size ≤ ad.block := hf9
          have hs9 := hbn.size
          have y6' : w9.cell? ⟨go, 6, none⟩ = some (.slice B1 es1.length d1) := H9.out.bo.cell 6
          have y5' : w9.cell? ⟨go, 5, none⟩ = some (.int .i64 M1) := by rw [← HNX.out.2.2]; exact H9.out.bo.cell 5
          have HP := Lib.hid (And.intro hr9 hf9')
          clear hv9 hb9 hbn hr9 hf9 hf9'
          go_wp2_with fail
          refine hK.out _ _ ⟨y6', y5'⟩ (fun hHeld => ?_)
          clear hK K
          try simp only [List.getElem_toArray, List.getElem_cons_succ, List.getElem_cons_zero, Act.put, List.setIfInBounds_toArray, List.set_cons_zero, List.set_cons_succ]
          refine wpAnyH_take (i := 9) (oi := _) (v := ?_) rfl (by kernel_rfl) (by kernel_rfl) (by kernel_rfl) (fun _ _ _ h => h) (Or.inl ⟨by rfl, ?_⟩) (by assumption) ?_
          rotate_left 1
          · (intro w9 hS9; (try dsimp only at hS9); go_simp <;> with_reducible rfl)
          try simp only [List.getElem_toArray, List.getElem_cons_succ, List.getElem_cons_zero, Act.put, List.setIfInBounds_toArray, List.set_cons_zero, List.set_cons_succ]
          refine wpAnyH_ready (rs := [10]) (by kernel_rfl) (by simp) ?_
          refine AllReadyH.cons (o := _) rfl (fun K hK => ?_) AllReadyH.nil
          try simp only [List.getElem_toArray, List.getElem_cons_succ, List.getElem_cons_zero]
          go_simp
          refine (insert_any low (.slice B1 es1.length d1) es1 (E + (mi + d)) M1 P9 q9 p w9 H9.out.own H9.out.new HP.out.1 (fun ad h0 hA e => by have h1 := own_lt H8.out.own.own _ e; have h2 := HP.out.2 ad h0 hA; omega) (by omega) (by have := HLOW.out; omega)).mono ?_
          rintro e w10 ⟨v10, rfl, ho10, hg10, hv10⟩
          have hgt : ∀ b, (Value.slice B1 es1.length d1).ownBlock = some b → b ≠ go := fun b hb => by obtain ⟨cur, h9⟩ := own_tag H9.out.own.own hb; exact h9.tag H9.out.bo (by decide)
          have bo10 := H9.out.bo.grown hg10 (fun e => hgt go e.symm rfl)
          have y6'' : w10.cell? ⟨go, 6, none⟩ = some (.slice B1 es1.length d1) := bo10.cell 6
          have y5'' : w10.cell? ⟨go, 5, none⟩ = some (.int .i64 M1) := by rw [← HNX.out.2.2]; exact bo10.cell 5
          have f6 : w10.frozen? ⟨go, 6, none⟩ = false := bo10.frozen 6
          have f5 : w10.frozen? ⟨go, 5, none⟩ = false := bo10.frozen 5
          obtain ⟨B10, c10, rfl⟩ := ho10.form
          obtain ⟨es2, he2⟩ : ∃ es2, es1.take (atE (laterB (E + (mi + d))) (es1.map Ev.em)) ++ ⟨E + (mi + d), M1, P9, q9, p⟩ :: es1.drop (atE (laterB (E + (mi + d))) (es1.map Ev.em)) = es2 := ⟨_, rfl⟩
          rw [he2] at ho10 ⊢
          obtain ⟨n2, hn2⟩ : ∃ n2, es2.length = n2 := ⟨_, rfl⟩
          rw [hn2] at ho10 ⊢
          have H10 := Lib.hid (And.intro ho10 (And.intro hg10 he2))
          clear ho10 hg10 hv10 hgt bo10 he2 hn2
          go_wp2_with fail
          refine hK.out _ _ ⟨y6'', y5''⟩ (fun hHeld => ?_)
          clear hK K
          try simp only [List.getElem_toArray, List.getElem_cons_succ, List.getElem_cons_zero, Act.put, List.setIfInBounds_toArray, List.set_cons_zero, List.set_cons_succ]
          refine wpAnyH_done (by kernel_rfl) ?_ _
          refine tailQ_step rfl ?_
          go_wp2_with fail
          refine tailQ_step rfl ?_
          go_wp2_with fail
          refine tailQ_nil (panQ_normal ?_)
          go_wp2_with fail
          have kw5 : IntKind.i64.wrap (M1 + 1) = M1 + 1 := IntWalk.i64_in _ (by omega)
          go_wp2_with fail
          go_roundw
          case rel =>
            have hst := H9.out.step (t := E + (mi + d)) (A := P9) (c := q9) (p := p) (v' := .slice B10 n2 c10) (W' := w10) (by rw [HNX.out.2.2, H10.out.2.2]; exact H10.out.1) H10.out.2.1 HLOW.out.1 (by have := HLOW.out; omega) (fun ad h0 hA => by have h1 := HP.out.2 ad h0 hA; have h2 := HLOW.out; omega)
            rw [HNX.out.2.2, H10.out.2.2] at hst
            refine ⟨k + 1, _, _, _, _, by omega, by go_num, hst, ?_, hmi1, hma1, ?_, ?_⟩
            · rw [← HSN.out, show nk - k = (nk - (k + 1)) + 1 by omega, sendN_succ, hmi1, hma1, HD.out, HNX.out.2.2, Int.add_assoc]
            · dsimp only; have := HNX.out.2.1; omega
            · dsimp only; rw [insE_len, hfl1]; omega
          case measure => simp [intOf]; omega
        · obtain rfl : k = nk := by omega
          have hRR : R = ⟨l1, r1, 0⟩ := by
            have h2 : (⟨(sendN (timesOf (decV cs 3)) LL E p (decR cs)).1, (sendN (timesOf (decV cs 3)) LL E p (decR cs)).2, 0⟩ : SendA) = R := HR.out
            have h := HSN.out
            rw [Nat.sub_self] at h
            rw [← h2, HKW.out.1, HKW.out.2, ← h]
            rfl
          subst hRR
          clear HR HSN hmi1 hma1 hnx1 hfl1
          obtain ⟨A9, c9, hB9, hr9, hc9, hm9⟩ := HI1.out.ch.rd
          obtain ⟨nr, hnr⟩ : ∃ nr, r1.length = nr := ⟨_, rfl⟩
          obtain ⟨m1, hm1'⟩ : ∃ m1, es1.length = m1 := ⟨_, rfl⟩
          have HCR := Lib.hid (And.intro hr9 (And.intro hc9 (And.intro hm9 (And.intro hnr hm1'))))
          have gl0 : wr.cell? ⟨gl, 0, none⟩ = some (.slice A9 nr c9) := by rw [← hnr]; exact hB9.cell 0
          obtain ⟨mi1, ma1, ra1, dn1, id1, nx1, fl1⟩ := l1
          have z0 : wr.cell? ⟨go, 0, none⟩ = some (.int .i64 mi1) := HI1.out.bo.cell 0
          have z1 : wr.cell? ⟨go, 1, none⟩ = some (.int .i64 ma1) := HI1.out.bo.cell 1
          have z2 : wr.cell? ⟨go, 2, none⟩ = some (.int .i64 ra1) := HI1.out.bo.cell 2
          have z3 : wr.cell? ⟨go, 3, none⟩ = some (.bool dn1) := HI1.out.bo.cell 3
          have z4 : wr.cell? ⟨go, 4, none⟩ = some (.int .i64 id1) := HI1.out.bo.cell 4
          have z5 : wr.cell? ⟨go, 5, none⟩ = some (.int .i64 nx1) := HI1.out.bo.cell 5
          have z6 : wr.cell? ⟨go, 6, none⟩ = some (.slice B1 m1 d1) := by rw [← hm1']; exact HI1.out.bo.cell 6
          have HGL8 : Hid (gl ≠ w.heap.size + 1) := hB9.tag HI1.out.b8 (by decide)
          clear hB9 hr9 hc9 hm9 hnr hm1'
          have hk9 : ¬ (k : Int) < k := by omega
          go_upto_region 26 with fail
          refine wp_pan (Pc := fun _ _ _ => False) (fun _ _ _ h => h.elim) ?_
          refine wp_region_tail_lit (S := fun V => V.cell? ⟨go, 0, none⟩ = some (.int .i64 mi1) ∧ V.cell? ⟨go, 1, none⟩ = some (.int .i64 ma1) ∧ V.cell? ⟨go, 2, none⟩ = some (.int .i64 ra1) ∧ V.cell? ⟨go, 3, none⟩ = some (.bool dn1) ∧ V.cell? ⟨go, 4, none⟩ = some (.int .i64 id1) ∧ V.cell? ⟨go, 5, none⟩ = some (.int .i64 nx1) ∧ V.cell? ⟨go, 6, none⟩ = some (.slice B1 m1 d1) ∧ V.cell? ⟨gl, 0, none⟩ = some (.slice A9 nr c9)) 3 (by kernel_rfl) (by kernel_rfl) ⟨z0, z1, z2, z3, z4, z5, z6, gl0⟩ (fun hHeld => ?_)
          simp only [List.take, List.drop]
          refine wpAnyH_take (i := 0) (oi := _) (v := ?_) rfl (by kernel_rfl) (by kernel_rfl) (by kernel_rfl) (fun _ _ _ h => h) (Or.inl ⟨by rfl, ?_⟩) (by assumption) ?_
          rotate_left 1
          · (intro w9 hS9; (try dsimp only at hS9); go_simp <;> with_reducible rfl)
          try simp only [List.getElem_toArray, List.getElem_cons_succ, List.getElem_cons_zero, Act.put, List.setIfInBounds_toArray, List.set_cons_zero, List.set_cons_succ]
          refine wpAnyH_take (i := 1) (oi := _) (v := ?_) rfl (by kernel_rfl) (by kernel_rfl) (by kernel_rfl) (fun _ _ _ h => h) (Or.inl ⟨by rfl, ?_⟩) (by assumption) ?_
          rotate_left 1
          · (intro w9 hS9; (try dsimp only at hS9); go_simp <;> with_reducible rfl)
          try simp only [List.getElem_toArray, List.getElem_cons_succ, List.getElem_cons_zero, Act.put, List.setIfInBounds_toArray, List.set_cons_zero, List.set_cons_succ]
          have b8d : Blk wr.drew (w.heap.size + 1) 26 #[.int .i64 0, .int .i64 0, .int .i64 0, .bool false, .int .i64 0, .int .i64 0, .slice none 0 0] := HI1.out.b8
          have hgl8 : gl ≠ w.heap.size + 1 := HGL8.out
          have hgo8 : go ≠ w.heap.size + 1 := by have := HLOW.out; omega
          refine wpAnyH_ready (rs := [2]) (by kernel_rfl) (by simp) ?_
          refine AllReadyH.cons (o := _) rfl (fun K hK => ?_) AllReadyH.nil
          try simp only [List.getElem_toArray, List.getElem_cons_succ, List.getElem_cons_zero]
          rw [if_pos (show Region.wanted _ _ = true from rfl)]
          refine wp_store_row 26 _ _ (by rfl) (w.heap.size + 1) #[.int .i64 mi1, .int .i64 ma1, .int .i64 ra1, .bool dn1, .int .i64 id1, .int .i64 nx1, .slice B1 m1 d1] (by rfl) (by rfl) 26 _ b8d (by kernel_rfl) rfl (by simp [Value.oneCell']) ?_
          have hcr : ∀ b o, b ≠ w.heap.size + 1 → (wr.drew.setRow (w.heap.size + 1) #[.int .i64 mi1, .int .i64 ma1, .int .i64 ra1, .bool dn1, .int .i64 id1, .int .i64 nx1, .slice B1 m1 d1]).cell? ⟨b, o, none⟩ = wr.cell? ⟨b, o, none⟩ := fun b o hb => World.cell?_of_block (setRow_other _ _ _ _ hb)
          refine hK.out _ _ ⟨(hcr go 0 hgo8).trans z0, (hcr go 1 hgo8).trans z1, (hcr go 2 hgo8).trans z2, (hcr go 3 hgo8).trans z3, (hcr go 4 hgo8).trans z4, (hcr go 5 hgo8).trans z5, (hcr go 6 hgo8).trans z6, (hcr gl 0 hgl8).trans gl0⟩ (fun hHeld => ?_)
          clear hK K
          try simp only [List.getElem_toArray, List.getElem_cons_succ, List.getElem_cons_zero, Act.put, List.setIfInBounds_toArray, List.set_cons_zero, List.set_cons_succ]
          refine wpAnyH_done (by kernel_rfl) ?_ _
          refine tailQ_step rfl ?_
          go_wp2_with fail
          refine tailQ_step rfl ?_
          go_wp2_with fail
          refine tailQ_nil (panQ_normal ?_)
          go_wp2_with fail
          refine bodyPost_ret (results_cell_tmp2 (t := 26) (q := 9) (s := 10) rfl _ _ (w.heap.size + 1) _ _ rfl (b8d.setRow _) Try.underlying26 rfl (by kernel_rfl)) rfl ⟨below_setRow HI1.out.bel.drew (by omega) _, .slice B1 m1 d1, es1, A9, c9, ?_, ?_, HI1.out.em, HI1.out.new.low (by have := HLOW.out; omega), ?_, ?_, HCR.out.2.2.1⟩
          · dsimp only; rw [HCR.out.2.2.2.1]; rfl
          · have ho := HI1.out.own
            rw [HCR.out.2.2.2.2] at ho
            exact (OwnE.keepN (W := wr.drew) (⟨ho.own, ho.ev⟩ : OwnE wr.drew low (.slice B1 m1 d1) es1) HI1.out.new (fun g hg _ => setRow_other _ _ _ _ (by have := HLOW.out; omega)) (by simp)).low (by have := HLOW.out; omega)
          · dsimp only
            rw [HCR.out.2.2.2.1]
            obtain ⟨A8, c8, hB8, _, _, hA8⟩ := HI1.out.ch
            have hsl : A8 = A9 := by
              have h1 := hB8.cell 0
              rw [gl0] at h1
              simp at h1
              exact h1.1.symm
            subst hsl
            refine ⟨by rw [i64s_len, HCR.out.2.2.2.1]; omega, fun h0 => ?_⟩
            obtain ⟨ab, off, cur, hA, hcur, hcc⟩ := hA8 (by rw [HCR.out.2.2.2.1]; exact h0)
            have hab : ab ≠ w.heap.size + 1 := hcur.tag HI1.out.b8 (by decide)
            refine ⟨_, hA, by have := hcur.lt; simpa using this, fun j u hu => ?_⟩
            rw [Addr.add_lit]
            exact (hcr _ _ hab).trans ((hcur.cell _).trans (hcc j u hu))
          · dsimp only; rw [HCR.out.2.2.2.1]; have := HCR.out.2.1; rw [HCR.out.2.2.2.1] at this; exact this
end Go.Proofs.Ytjaoppopfeonhaa
