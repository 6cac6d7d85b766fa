/- The walk of the reference's Send. Conditions: at most 4000 flights, sizes as named. -/
import Derived.Test.YtjaoppopfeonhaaWm
namespace Go.Proofs.Ytjaoppopfeonhaa
open Go.RowKit
theorem bef_le {e f : Em} (h : befB e f = true) : e.t ≤ f.t := by
  unfold befB at h
  rw [decide_eq_true_iff] at h
  omega
theorem mono_of {l : Lm} (h : OkL l) : Mono l.fl := by
  have key : ∀ (d i : Nat) (e f : Em), l.fl[i]? = some e → l.fl[i + d + 1]? = some f → e.t ≤ f.t := by
    intro d
    induction d with
    | zero => intro i e f he hf; exact bef_le (h.ord i e f he hf)
    | succ d ih =>
      intro i e f he hf
      have hlt := (List.getElem?_eq_some_iff.1 hf).1
      have hg := List.getElem?_eq_getElem (l := l.fl) (i := i + d + 1) (by omega)
      rw [show i + (d + 1) + 1 = i + d + 1 + 1 by omega] at hf
      exact Int.le_trans (ih i e _ he hg) (bef_le (h.ord (i + d + 1) _ f hg hf))
  intro i j e f hij he hf
  exact key (j - i - 1) i e f he (by rw [show i + (j - i - 1) + 1 = j by omega]; exact hf)
theorem mono_ins {l : List Em} (h : Mono l) (x : Em) : Mono (insE x l) := by
  have hat : ∀ j y, j < atE (laterB x.t) l → l[j]? = some y → y.t ≤ x.t := by
    intro j y hj hy
    unfold atE at hj
    cases hq : idxB (laterB x.t) l with
    | none =>
      have := idxB_nil hq y (List.mem_of_getElem? hy)
      simp only [laterB, decide_eq_false_iff_not] at this
      omega
    | some k =>
      rw [hq] at hj
      have := (idxB_lt hq).2.1 j y hj hy
      simp only [laterB, decide_eq_false_iff_not] at this
      omega
  have haf : ∀ j y, atE (laterB x.t) l ≤ j → l[j]? = some y → x.t ≤ y.t := by
    intro j y hj hy
    unfold atE at hj
    cases hq : idxB (laterB x.t) l with
    | none => rw [hq] at hj; dsimp only at hj; have := (List.getElem?_eq_some_iff.1 hy).1; omega
    | some k =>
      rw [hq] at hj
      obtain ⟨_, _, z, hz, hzl⟩ := idxB_lt hq
      simp only [laterB, decide_eq_true_eq] at hzl
      rcases Nat.lt_or_ge k j with h1 | h1
      · have := h k j z y h1 hz hy
        omega
      · obtain rfl : j = k := by dsimp only at hj; omega
        rw [hz] at hy
        injection hy with hy
        subst hy
        omega
  have hle := atE_le (laterB x.t) l
  unfold insE
  generalize atE (laterB x.t) l = q at *
  have hget : ∀ i y, (l.take q ++ x :: l.drop q)[i]? = some y → (i < q ∧ l[i]? = some y) ∨ (i = q ∧ y = x) ∨ (q < i ∧ l[i - 1]? = some y) := by
    intro i y hy
    rcases Nat.lt_trichotomy i q with h1 | h1 | h1
    · rw [List.getElem?_append_left (by rw [List.length_take]; omega), List.getElem?_take_of_lt h1] at hy
      exact .inl ⟨h1, hy⟩
    · subst h1
      rw [List.getElem?_append_right (by rw [List.length_take]; omega), List.length_take, show i - min i l.length = 0 by omega] at hy
      simp at hy
      exact .inr (.inl ⟨rfl, hy.symm⟩)
    · rw [List.getElem?_append_right (by rw [List.length_take]; omega), List.length_take, show i - min q l.length = (i - q - 1) + 1 by omega, List.getElem?_cons_succ, List.getElem?_drop, show q + (i - q - 1) = i - 1 by omega] at hy
      exact .inr (.inr ⟨h1, hy⟩)
  intro i j e f hij he hf
  rcases hget i e he with ⟨a1, a2⟩ | ⟨a1, a2⟩ | ⟨a1, a2⟩ <;> rcases hget j f hf with ⟨b1, b2⟩ | ⟨b1, b2⟩ | ⟨b1, b2⟩
  · exact h i j e f hij a2 b2
  · subst b2; exact hat i e a1 a2
  · exact Int.le_trans (hat i e a1 a2) (haf (j - 1) f (by omega) b2)
  · omega
  · omega
  · subst a2; exact haf (j - 1) f (by omega) b2
  · omega
  · omega
  · exact h (i - 1) (j - 1) e f (by omega) a2 b2
/-- what the reference's loop has made -/
structure RdI (w : World) (C0 C8 : Array Value) (low go : Nat) (l : Lm) (r : List Int) (u v : Value) (es : List Ev) (W : World) : Prop where
  b4 : Blk W w.heap.size 26 C0
  b8 : Blk W (w.heap.size + 1) 26 C8
  bo : Blk W go 26 (lkV l v)
  rs : W.ownsRow 0 3 1 u (List.length r) (i64s r)
  own : OwnE W low v es
  new : NewP low es
  em : es.map Ev.em = l.fl
  bel : Below w.heap.size w W
theorem RdI.below {w : World} {C0 C8 : Array Value} {low go : Nat} {l : Lm} {r : List Int} {u v : Value} {es : List Ev} {W W' : World} (h : RdI w C0 C8 low go l r u v es W) (hb : Below W.heap.size W W') : RdI w C0 C8 low go l r u v es W' :=
  ⟨h.b4.below hb h.b4.lt, h.b8.below hb h.b8.lt, h.bo.below hb h.bo.lt, own_below h.rs hb, h.own.below hb, h.new, h.em, h.bel.trans (hb.mono h.bel.size)⟩
/-- a flight is put in, and the link's number rises -/
theorem RdI.step {w : World} {C0 C8 : Array Value} {low go : Nat} {l : Lm} {r : List Int} {u v v' : Value} {es es' : List Ev} {W : World} {x : Em} (h : RdI w C0 C8 low go l r u v es W)
    (ho : OwnE W low v' es') (hn : NewP low es') (hem : es'.map Ev.em = insE x l.fl) (hlow : w.heap.size + 2 ≤ low) (hgo : low ≤ go) :
    RdI w C0 C8 low go { l with fl := insE x l.fl, nx := l.nx + 1 } r u v' es' ((W.setCell ⟨go, 6, none⟩ v').setCell ⟨go, 5, none⟩ (.int .i64 (l.nx + 1))) := by
  have s1 : Blk (W.setCell ⟨go, 6, none⟩ v') go 26 (lkV l v') := h.bo.set_ 6 v'
  have s2 : Blk ((W.setCell ⟨go, 6, none⟩ v').setCell ⟨go, 5, none⟩ (.int .i64 (l.nx + 1))) go 26 (lkV { l with fl := insE x l.fl, nx := l.nx + 1 } v') := s1.set_ 5 (.int .i64 (l.nx + 1))
  have o1 := ho.put h.bo (by decide) (noU8v l h.own.own) (grown_set W go 6 v')
  have o2 := o1.put s1 (by decide) (noU8v l ho.own) (grown_set _ go 5 (.int .i64 (l.nx + 1)))
  have hw : w.heap.size ≠ go := by omega
  have hw1 : w.heap.size + 1 ≠ go := by omega
  have r1 : (W.setCell ⟨go, 6, none⟩ v').ownsRow 0 3 1 u (List.length r) (i64s r) := own_far h.rs (fun e => by obtain ⟨cur, h9⟩ := own_tag h.rs e; exact h9.tag h.bo (by decide) rfl) v'
  refine ⟨(h.b4.far (p := ⟨go, 6, none⟩) hw _).far (p := ⟨go, 5, none⟩) hw _, (h.b8.far (p := ⟨go, 6, none⟩) hw1 _).far (p := ⟨go, 5, none⟩) hw1 _, s2, own_far r1 (fun e => by obtain ⟨cur, h9⟩ := own_tag r1 e; exact h9.tag s1 (by decide) rfl) _, o2, hn, hem, (h.bel.setCell (by simp only; omega) _).setCell (by simp only; omega) _⟩
set_option linter.unusedSimpArgs false in
set_option maxRecDepth 100000 in
set_option maxHeartbeats 16000000 in
theorem refSend_any (mi ma ra : Int) (dn : Bool) (id nx : Int) (A : Option Addr) (m c : Nat) (l : List Ev) (now : Int) (Ap : Option Addr) (cp : Nat) (p : List Nat) (Ac : Option Addr) (cc : Nat) (cs : List Int) (w : World) (hR : Evs w A m l) (hm : m ≤ 4000)
    (hP : Reads w w.heap.size 1 Ap p.length (u8s p)) (hp : p.length ≤ 65536) (hC : Reads w w.heap.size 1 Ac cs.length (i64s cs)) (hcl : cs.length ≤ 10000) (hlp : ∀ e ∈ l, e.p.length ≤ 100000) (hcc : cs.length ≤ cc) (hcm : cc ≤ maxLen) :
    Calls Try.prog 19 #[.agg (lkC mi ma ra dn id nx A m c), .int .i64 now, .slice Ap p.length cp, .slice Ac cs.length cc] w (SendR w (sendM ⟨mi, ma, ra, dn, id, nx, l.map Ev.em⟩ now p cs)) := by
  unfold lkC
  obtain ⟨R, hR0⟩ : ∃ R, sendM ⟨mi, ma, ra, dn, id, nx, l.map Ev.em⟩ now p cs = R := ⟨_, rfl⟩
  rw [hR0]
  unfold sendM at hR0
  have HR := Lib.hid hR0
  clear hR0
  have hlen := hR.count
  have hb0 : Below w.heap.size w ((w.alloc (.cells #[.int .i64 mi, .int .i64 ma, .int .i64 ra, .bool dn, .int .i64 id, .int .i64 nx, .slice A m c] 26)).alloc (.cells #[.int .i64 0, .int .i64 0, .int .i64 0, .bool false, .int .i64 0, .int .i64 0, .slice none 0 0] 26)) := ((Below.refl _ _).alloc (Nat.le_refl _) _).alloc (by simp) _
  have g0 : Blk ((w.alloc (.cells #[.int .i64 mi, .int .i64 ma, .int .i64 ra, .bool dn, .int .i64 id, .int .i64 nx, .slice A m c] 26)).alloc (.cells #[.int .i64 0, .int .i64 0, .int .i64 0, .bool false, .int .i64 0, .int .i64 0, .slice none 0 0] 26)) w.heap.size 26 #[.int .i64 mi, .int .i64 ma, .int .i64 ra, .bool dn, .int .i64 id, .int .i64 nx, .slice A m c] := (Blk.new w 26 #[.int .i64 mi, .int .i64 ma, .int .i64 ra, .bool dn, .int .i64 id, .int .i64 nx, .slice A m c]).alloc _
  have g1 := Blk.new (w.alloc (.cells #[.int .i64 mi, .int .i64 ma, .int .i64 ra, .bool dn, .int .i64 id, .int .i64 nx, .slice A m c] 26)) 26 #[.int .i64 0, .int .i64 0, .int .i64 0, .bool false, .int .i64 0, .int .i64 0, .slice none 0 0]
  rw [World.size_alloc] at g1
  have hs0 : ((w.alloc (.cells #[.int .i64 mi, .int .i64 ma, .int .i64 ra, .bool dn, .int .i64 id, .int .i64 nx, .slice A m c] 26)).alloc (.cells #[.int .i64 0, .int .i64 0, .int .i64 0, .bool false, .int .i64 0, .int .i64 0, .slice none 0 0] 26)).heap.size = w.heap.size + 2 := by simp
  have HX := Lib.hid (And.intro hR (And.intro hlen (And.intro hP (And.intro hC hlp))))
  clear hR hlen hP hC hlp
  go_enter Try.func19, Try.ntmps19
  go_upto_region 1 with fail
  generalize ((w.alloc (.cells #[.int .i64 mi, .int .i64 ma, .int .i64 ra, .bool dn, .int .i64 id, .int .i64 nx, .slice A m c] 26)).alloc (.cells #[.int .i64 0, .int .i64 0, .int .i64 0, .bool false, .int .i64 0, .int .i64 0, .slice none 0 0] 26)) = V at *
  have c0 : V.cell? ⟨w.heap.size, 0, none⟩ = some (.int .i64 mi) := g0.cell 0
  have c1 : V.cell? ⟨w.heap.size, 1, none⟩ = some (.int .i64 ma) := g0.cell 1
  have c2 : V.cell? ⟨w.heap.size, 2, none⟩ = some (.int .i64 ra) := g0.cell 2
  have c3 : V.cell? ⟨w.heap.size, 3, none⟩ = some (.bool dn) := g0.cell 3
  have c4 : V.cell? ⟨w.heap.size, 4, none⟩ = some (.int .i64 id) := g0.cell 4
  have c5 : V.cell? ⟨w.heap.size, 5, none⟩ = some (.int .i64 nx) := g0.cell 5
  have c6 : V.cell? ⟨w.heap.size, 6, none⟩ = some (.slice A m c) := g0.cell 6
  go_wp2_with fail
  have hE := HX.out.1.up hb0
  refine (refCheck_any mi ma ra dn id nx A m c l V hE (by omega)).mono ?_
  rintro e w1 ⟨rfl, hb1⟩
  have G0 := g0.below hb1 (by omega)
  have G1 := g1.below hb1 (by omega)
  have hs1 : w.heap.size + 2 ≤ w1.heap.size := by have := hb1.size; omega
  have HB := Lib.hid (And.intro (hb0.trans (hb1.mono hb0.size)) (And.intro G0 G1))
  clear c0 c1 c2 c3 c4 c5 c6 g0 g1 hb0 hb1 hs0 hE G0 G1
  obtain ⟨r, hr⟩ : ∃ r, chkL ⟨mi, ma, ra, dn, id, nx, l.map Ev.em⟩ = r := ⟨_, rfl⟩
  rw [hr]
  by_cases hr0 : r = 0
  rotate_left 1
  · have hr1 : ((r : Int) != 0) = true := by rw [bne_iff_ne]; omega
    have hRR : R = ⟨zeroL, [], r⟩ := by rw [← HR.out, if_pos (by rw [hr]; exact hr0), hr]
    clear HR hr
    have HR0 := Lib.hid hr0
    clear hr0
    subst hRR
    go_wp2_with (refine wpList_store_row rfl _ _ _ rfl (w.heap.size + 1) _ rfl rfl 26 _ HB.out.2.2 (by kernel_rfl) rfl (by simp [Value.oneCell']) ?_)
    exact bodyPost_ret (results_cell_tmp2 (t := 26) (q := 9) (s := 10) rfl _ _ (w.heap.size + 1) _ _ rfl (HB.out.2.2.setRow _) Try.underlying26 rfl (by kernel_rfl)) rfl (send_err (code := r) (below_setRow HB.out.1 (by omega) _))
  subst hr0
  have HOK := Lib.hid (okL_of hr)
  have HR := Lib.hid ((show _ = R from by have h := HR.out; rw [if_neg (by rw [hr]; simp)] at h; exact h) : (if now < 0 ∨ 1073741824 < now then (⟨zeroL, [], 24⟩ : SendA) else _) = R)
  clear hr
  by_cases hn1 : now < 0
  · have hRR : R = ⟨zeroL, [], 24⟩ := by rw [← HR.out, if_pos (by omega)]
    clear HR
    subst hRR
    go_wp2_with (refine wpList_store_row rfl _ _ _ rfl (w.heap.size + 1) _ rfl rfl 26 _ HB.out.2.2 (by kernel_rfl) rfl (by simp [Value.oneCell']) ?_)
    exact bodyPost_ret (results_cell_tmp2 (t := 26) (q := 9) (s := 10) rfl _ _ (w.heap.size + 1) _ _ rfl (HB.out.2.2.setRow _) Try.underlying26 rfl (by kernel_rfl)) rfl (send_err (code := 24) (below_setRow HB.out.1 (by omega) _))
  by_cases hn2 : 1073741824 < now
  · have hRR : R = ⟨zeroL, [], 24⟩ := by rw [← HR.out, if_pos (by omega)]
    clear HR
    subst hRR
    go_wp2_with (refine wpList_store_row rfl _ _ _ rfl (w.heap.size + 1) _ rfl rfl 26 _ HB.out.2.2 (by kernel_rfl) rfl (by simp [Value.oneCell']) ?_)
    exact bodyPost_ret (results_cell_tmp2 (t := 26) (q := 9) (s := 10) rfl _ _ (w.heap.size + 1) _ _ rfl (HB.out.2.2.setRow _) Try.underlying26 rfl (by kernel_rfl)) rfl (send_err (code := 24) (below_setRow HB.out.1 (by omega) _))
  have hnow : 0 ≤ now ∧ now ≤ 1073741824 := ⟨by omega, by omega⟩
  have HNW := Lib.hid hnow
  have HR := Lib.hid ((show _ = R from by have h := HR.out; rw [if_neg (by omega), if_neg (by omega)] at h; exact h) : (if dn = true then (⟨⟨mi, ma, ra, dn, id, nx, l.map Ev.em⟩, cs, 0⟩ : SendA) else _) = R)
  clear hnow
  have hp1 : ¬ (65536 : Int) < p.length := by omega
  go_upto_region 8 with fail
  clear hn1 hn2
  have c0 : w1.cell? ⟨w.heap.size, 0, none⟩ = some (.int .i64 mi) := HB.out.2.1.cell 0
  have c1 : w1.cell? ⟨w.heap.size, 1, none⟩ = some (.int .i64 ma) := HB.out.2.1.cell 1
  have c2 : w1.cell? ⟨w.heap.size, 2, none⟩ = some (.int .i64 ra) := HB.out.2.1.cell 2
  have c3 : w1.cell? ⟨w.heap.size, 3, none⟩ = some (.bool dn) := HB.out.2.1.cell 3
  have c4 : w1.cell? ⟨w.heap.size, 4, none⟩ = some (.int .i64 id) := HB.out.2.1.cell 4
  have c5 : w1.cell? ⟨w.heap.size, 5, none⟩ = some (.int .i64 nx) := HB.out.2.1.cell 5
  have c6 : w1.cell? ⟨w.heap.size, 6, none⟩ = some (.slice A m c) := HB.out.2.1.cell 6
  cases dn with
  | true =>
    have hRR : R = ⟨⟨mi, ma, ra, true, id, nx, l.map Ev.em⟩, cs, 0⟩ := by rw [← HR.out, if_pos rfl]
    clear HR
    subst hRR
    go_wp2_with fail
    refine (Copy_any mi ma ra true id nx A m c l w1 (HX.out.1.up HB.out.1) (by omega) HX.out.2.2.2.2).mono ?_
    rintro e w3 ⟨hb3, v3, es3, rfl, hE3, hm3, hN3⟩
    obtain ⟨B3, d3, rfl⟩ := hE3.form
    have hs3 := hb3.size
    have H3 := Lib.hid (And.intro (HB.out.1.trans (hb3.mono HB.out.1.size)) (And.intro hE3 (And.intro hm3 (And.intro hN3 (HB.out.2.2.below hb3 (by omega))))))
    clear hb3 hE3 hm3 hN3 c0 c1 c2 c3 c4 c5 c6
    unfold lkV
    dsimp only
    go_wp2_with (refine wpList_store_row rfl _ _ _ rfl (w.heap.size + 1) _ rfl rfl 26 _ H3.out.2.2.2.2 (by kernel_rfl) rfl (by simp [Value.oneCell']) ?_)
    refine bodyPost_ret (results_cell_tmp2 (t := 26) (q := 9) (s := 10) rfl _ _ (w.heap.size + 1) _ _ rfl (H3.out.2.2.2.2.setRow _) Try.underlying26 rfl (by kernel_rfl)) rfl ⟨below_setRow H3.out.1 (by omega) _, .slice B3 es3.length d3, es3, Ac, cc, rfl, ?_, H3.out.2.2.1, H3.out.2.2.2.1.low (by omega), ?_, hcc, hcm⟩
    · exact (H3.out.2.1.keepN (H3.out.2.2.2.1) (fun g hg _ => setRow_other _ _ _ _ (by omega)) (by simp)).low (by omega)
    · exact HX.out.2.2.2.1.up (below_setRow H3.out.1 (by omega) _)
  | false =>
    have hok := HOK.out
    obtain ⟨E, hE⟩ : ∃ E, endM ⟨mi, ma, ra, false, id, nx, l.map Ev.em⟩ now p.length = E := ⟨_, rfl⟩
    have hEE : E = max now id + ticksM p.length ra := by rw [← hE]; rfl
    obtain ⟨T, hT⟩ : ∃ T, ticksM p.length ra = T := ⟨_, rfl⟩
    have htb := ticks_b p.length ra (by omega) hok.ra0 hok.ra
    rw [hT] at hEE htb
    have HT := Lib.hid hT
    have HEE := Lib.hid hEE
    have HRA : Hid (0 ≤ ra ∧ ra ≤ 65536) := ⟨hok.ra0, hok.ra⟩
    have HR := Lib.hid ((show _ = R from by have h := HR.out; rw [if_neg (by simp), hE] at h; exact h) : (if 1073741824 < E + ma then (⟨zeroL, [], 24⟩ : SendA) else _) = R)
    have hi0 : 0 ≤ id ∧ id ≤ 1073741824 := ⟨hok.idle0, hok.idle⟩
    have hnw := HNW.out
    clear hT hok hEE
    have HE := Lib.hid hE
    clear hE
    go_upto_if 45 with (fail)
    go_cut [12] from 46 to 56 (fun s wx => s = .int .i64 T ∧ wx = w1)
    case first =>
      by_cases hra : 0 < ra
      · have hne : (ra == 0) = false := by rw [beq_eq_false_iff_ne]; omega
        have hra2 := HRA.out
        have hT2 : T = ((p.length : Int) + ra - 1).tdiv ra := by rw [← HT.out]; unfold ticksM; rw [if_neg (by omega)]
        have kw : IntKind.i64.wrap (((p.length : Int) + ra - 1).tdiv ra) = ((p.length : Int) + ra - 1).tdiv ra := by rw [← hT2]; exact IntWalk.i64_in _ (by omega)
        have kw2 : IntKind.i64.wrap ((p.length : Int) + ra) = (p.length : Int) + ra := IntWalk.i64_in _ (by omega)
        have kw3 : IntKind.i64.wrap ((p.length : Int) + ra - 1) = (p.length : Int) + ra - 1 := IntWalk.i64_in _ (by omega)
        go_wp2_with fail
        go_meet
        exact ⟨by first | rfl | rw [hT2], rfl⟩
      · have hT2 : T = 0 := by rw [← HT.out]; unfold ticksM; rw [if_pos (by have := HRA.out; omega)]
        go_wp2_with fail
        go_meet
        exact ⟨by first | rfl | rw [hT2], rfl⟩
    case rest =>
      obtain ⟨rfl, hwx⟩ := hcut
      subst wc
      go_upto_region 13 with fail
      go_cut [13] from 57 to 62 (fun s wx => s = .int .i64 E ∧ wx = w1)
      case first =>
        rcases Int.lt_trichotomy now id with hlt | hlt | hlt
        · have hv : E = id + T := by rw [HEE.out, Int.max_eq_right (by omega)]
          have kw : IntKind.i64.wrap (id + T) = id + T := IntWalk.i64_in _ (by omega)
          go_wp2_with fail
          go_meet
          exact ⟨by first | rfl | rw [hv], rfl⟩
        · have hv : E = id + T := by rw [HEE.out, Int.max_eq_right (by omega)]
          have kw : IntKind.i64.wrap (id + T) = id + T := IntWalk.i64_in _ (by omega)
          go_wp2_with fail
          all_goals (go_meet; exact ⟨by first | rfl | rw [hv] | (rw [hv, hlt]), rfl⟩)
        · have hv : E = now + T := by rw [HEE.out, Int.max_eq_left (by omega)]
          have kw : IntKind.i64.wrap (now + T) = now + T := IntWalk.i64_in _ (by omega)
          go_wp2_with fail
          go_meet
          exact ⟨by first | rfl | rw [hv], rfl⟩
      case rest =>
        obtain ⟨rfl, hwx⟩ := hcut
        subst wc
        have hok := HOK.out
        have hEb : 0 ≤ E ∧ E ≤ 1073941824 := by have := HEE.out; rw [Int.max_def] at this; split at this <;> omega
        have hma : 0 ≤ ma ∧ ma ≤ 1073741824 := by have h1 := hok.mi0; have h2 := hok.mima; have h3 := hok.ma; dsimp only at h1 h2 h3; omega
        have hnx : 0 ≤ nx ∧ nx ≤ 1073741824 := ⟨hok.nx0, hok.nx⟩
        have hmi : 0 ≤ mi ∧ mi ≤ ma := ⟨hok.mi0, hok.mima⟩
        have HMO : Hid (Mono (l.map Ev.em)) := mono_of hok
        clear hok hi0 hnw htb
        by_cases hE1 : 1073741824 < E + ma
        · have hRR : R = ⟨zeroL, [], 24⟩ := by rw [← HR.out, if_pos hE1]
          clear HR
          subst hRR
          go_wp2_with (refine wpList_store_row rfl _ _ _ rfl (w.heap.size + 1) _ rfl rfl 26 _ HB.out.2.2 (by kernel_rfl) rfl (by simp [Value.oneCell']) ?_)
          exact bodyPost_ret (results_cell_tmp2 (t := 26) (q := 9) (s := 10) rfl _ _ (w.heap.size + 1) _ _ rfl (HB.out.2.2.setRow _) Try.underlying26 rfl (by kernel_rfl)) rfl (send_err (code := 24) (below_setRow HB.out.1 (by omega) _))
        have HR := Lib.hid ((show _ = R from by have h := HR.out; rw [if_neg hE1] at h; exact h) : (if 4094 < (l.map Ev.em).length ∨ 1073741822 < nx then (⟨zeroL, [], 11⟩ : SendA) else _) = R)
        have hm1 : ¬ (4094 : Int) < m := by omega
        by_cases hn1 : 1073741822 < nx
        · have hRR : R = ⟨zeroL, [], 11⟩ := by rw [← HR.out, if_pos (.inr hn1)]
          clear HR
          subst hRR
          go_wp2_with (refine wpList_store_row rfl _ _ _ rfl (w.heap.size + 1) _ rfl rfl 26 _ HB.out.2.2 (by kernel_rfl) rfl (by simp [Value.oneCell']) ?_)
          exact bodyPost_ret (results_cell_tmp2 (t := 26) (q := 9) (s := 10) rfl _ _ (w.heap.size + 1) _ _ rfl (HB.out.2.2.setRow _) Try.underlying26 rfl (by kernel_rfl)) rfl (send_err (code := 11) (below_setRow HB.out.1 (by omega) _))
        have hrr := HR.out
        rw [if_neg (by have h1 := HX.out.2.1; rw [List.length_map]; omega)] at hrr
        clear HR
        have HR := Lib.hid hrr
        clear hrr
        go_wp2_with fail
        refine (Copy_any mi ma ra false id nx A m c l w1 (HX.out.1.up HB.out.1) (by omega) HX.out.2.2.2.2).mono ?_
        rintro e w4 ⟨hb4, v4, es4, rfl, hE4, hm4, hN4⟩
        obtain ⟨B4, d4, rfl⟩ := hE4.form
        have hs4 := hb4.size
        clear c0 c1 c2 c3 c4 c5 c6
        unfold lkV
        dsimp only
        have bo := Blk.new w4 26 #[.int .i64 mi, .int .i64 ma, .int .i64 ra, .bool false, .int .i64 id, .int .i64 nx, .slice B4 es4.length d4]
        have hb5 : Below w4.heap.size w4 (w4.alloc (.cells #[.int .i64 mi, .int .i64 ma, .int .i64 ra, .bool false, .int .i64 id, .int .i64 nx, .slice B4 es4.length d4] 26)) := (Below.refl _ _).alloc (Nat.le_refl _) _
        have hs5 : (w4.alloc (.cells #[.int .i64 mi, .int .i64 ma, .int .i64 ra, .bool false, .int .i64 id, .int .i64 nx, .slice B4 es4.length d4] 26)).heap.size = w4.heap.size + 1 := by simp
        have H4 := Lib.hid (And.intro hb4 (And.intro hE4 (And.intro hm4 (And.intro hN4 (And.intro bo (And.intro hb5 hs5))))))
        clear hb4 hE4 hm4 hN4 bo hb5 hs5
        go_upto_region 19 with fail
        have b4 : (w4.alloc (.cells #[.int .i64 mi, .int .i64 ma, .int .i64 ra, .bool false, .int .i64 id, .int .i64 nx, .slice B4 es4.length d4] 26)).cell? ⟨w4.heap.size, 4, none⟩ = some (.int .i64 id) := H4.out.2.2.2.2.1.cell 4
        have f4 : (w4.alloc (.cells #[.int .i64 mi, .int .i64 ma, .int .i64 ra, .bool false, .int .i64 id, .int .i64 nx, .slice B4 es4.length d4] 26)).frozen? ⟨w4.heap.size, 4, none⟩ = false := H4.out.2.2.2.2.1.frozen 4
        generalize (w4.alloc (.cells #[.int .i64 mi, .int .i64 ma, .int .i64 ra, .bool false, .int .i64 id, .int .i64 nx, .slice B4 es4.length d4] 26)) = V4 at *
        have HZV := Lib.hid H4.out.2.2.2.2.2.2
        go_upto_region 20 with fail
        have hgS : V4.grownBy (V4.setCell ⟨w4.heap.size, 4, none⟩ (.int .i64 E)) (some w4.heap.size) := grown_set _ _ _ _
        have bo5 : Blk (V4.setCell ⟨w4.heap.size, 4, none⟩ (.int .i64 E)) w4.heap.size 26 #[.int .i64 mi, .int .i64 ma, .int .i64 ra, .bool false, .int .i64 E, .int .i64 nx, .slice B4 es4.length d4] := H4.out.2.2.2.2.1.set_ 4 _
        have hE5 : OwnE (V4.setCell ⟨w4.heap.size, 4, none⟩ (.int .i64 E)) w1.heap.size (.slice B4 es4.length d4) es4 := (H4.out.2.1.below H4.out.2.2.2.2.2.1).put H4.out.2.2.2.2.1 (by decide) (noU8 _ _ _ _ _ _ _ _ _) hgS
        have hb5 : Below w1.heap.size w1 (V4.setCell ⟨w4.heap.size, 4, none⟩ (.int .i64 E)) := ((H4.out.1.trans (H4.out.2.2.2.2.2.1.mono hs4))).setCell hs4 _
        have hz5 : (V4.setCell ⟨w4.heap.size, 4, none⟩ (.int .i64 E)).heap.size = w4.heap.size + 1 := by simp [HZV.out]
        generalize (V4.setCell ⟨w4.heap.size, 4, none⟩ (.int .i64 E)) = V5 at *
        have H5 := Lib.hid (And.intro bo5 (And.intro hE5 (And.intro hb5 hz5)))
        clear hgS bo5 hE5 hb5 hz5 b4 f4
        go_wp2_with fail
        refine (Decide_any Ac cc cs 3 V5 (HX.out.2.2.2.1.up (HB.out.1.trans (H5.out.2.2.1.mono HB.out.1.size))) hcc hcm hcl (by omega) (by omega)).mono ?_
        rintro e w6 ⟨⟨v6, rfl, hv6⟩, hb6⟩
        have hdb := decV_b cs (n := 3) (by omega)
        obtain ⟨hw, hhw⟩ : ∃ hw, decV cs 3 = hw := ⟨_, rfl⟩
        rw [hhw] at hdb ⊢
        obtain ⟨nk, hK⟩ : ∃ nk, timesOf hw = nk := ⟨_, rfl⟩
        have HKW := Lib.hid (And.intro hhw hK)
        have hs6 := hb6.size
        have hz5 := H5.out.2.2.2
        obtain ⟨A6, c6, rfl, _, _, _⟩ := own_slice hv6
        have H6 : Hid (RdI w #[.int .i64 mi, .int .i64 ma, .int .i64 ra, .bool false, .int .i64 id, .int .i64 nx, .slice A m c] #[.int .i64 0, .int .i64 0, .int .i64 0, .bool false, .int .i64 0, .int .i64 0, .slice none 0 0] w1.heap.size w4.heap.size ⟨mi, ma, ra, false, E, nx, l.map Ev.em⟩ (decR cs) (.slice A6 (decR cs).length c6) (.slice B4 es4.length d4) es4 w6) := ⟨HB.out.2.1.below (H5.out.2.2.1.trans (hb6.mono (by omega))) (by omega), HB.out.2.2.below (H5.out.2.2.1.trans (hb6.mono (by omega))) (by omega), H5.out.1.below hb6 (by omega), own_base hv6 (Nat.zero_le _), H5.out.2.1.below hb6, H4.out.2.2.2.1, H4.out.2.2.1, HB.out.1.trans ((H5.out.2.2.1.trans (hb6.mono (by omega))).mono HB.out.1.size)⟩
        have HLOW : Hid (w.heap.size + 2 ≤ w1.heap.size ∧ w1.heap.size ≤ w4.heap.size) := ⟨by omega, by omega⟩
        have hlm : (l.map Ev.em).length = m := by rw [List.length_map]; exact HX.out.2.1
        have hK2 : nk ≤ 2 := by
          rw [← hK]
          unfold timesOf
          split
          · omega
          · split <;> omega
        clear hv6 hb6 hhw
        obtain ⟨tv, htv⟩ : ∃ tv : Int, (if hw = 1 then (0 : Int) else 1) = tv := ⟨_, rfl⟩
        have HTV := Lib.hid htv
        clear htv
        go_upto_if 90 with (fail)
        go_cut [17] from 89 to 92 (fun s wx => s = .int .i64 tv ∧ wx = w6)
        case first =>
          by_cases h1 : hw = 1
          · have ht : tv = 0 := by rw [← HTV.out, if_pos h1]
            subst h1
            go_wp2_with fail
            go_meet
            exact ⟨by first | rfl | rw [ht], rfl⟩
          · have h1' : (hw == 1) = false := by rw [beq_eq_false_iff_ne]; exact h1
            have ht : tv = 1 := by rw [← HTV.out, if_neg h1]
            clear h1
            go_wp2_with fail
            go_meet
            exact ⟨by first | rfl | rw [ht], rfl⟩
        case rest =>
          obtain ⟨rfl, hwx⟩ := hcut
          subst wc
          go_upto_if 92 with (fail)
          go_cut [17] from 89 to 92 (fun s wx => s = .int .i64 (nk : Nat) ∧ wx = w6)
          case first =>
            by_cases h2 : hw = 2
            · subst h2
              have hk2 : nk = 2 := by rw [← hK]; rfl
              subst hk2
              go_wp2_with fail
              go_meet
              exact ⟨rfl, rfl⟩
            · have h1' : (hw == 2) = false := by rw [beq_eq_false_iff_ne]; exact h2
              have ht : tv = (nk : Nat) := by
                rw [← hK, ← HTV.out]
                unfold timesOf
                by_cases h3 : hw = 1
                · rw [if_pos h3, if_pos h3]; rfl
                · rw [if_neg h3, if_neg h3, if_neg h2]; rfl
              clear h2
              go_wp2_with fail
              go_meet
              exact ⟨by first | rfl | rw [ht], rfl⟩
          case rest =>
            obtain ⟨rfl, hwx⟩ := hcut
            subst wc
            clear hK
            generalize hLL : (⟨mi, ma, ra, false, E, nx, l.map Ev.em⟩ : Lm) = LL at *
            have HLL : Hid (LL.mi = mi ∧ LL.ma = ma ∧ LL.nx = nx ∧ LL.fl.length = m ∧ Mono LL.fl) := by subst hLL; exact ⟨rfl, rfl, rfl, hlm, HMO.out⟩
            have hrl : (decR cs).length ≤ 10000 := by unfold decR; rw [List.length_drop]; omega
            go_wp2_with fail
            generalize hgo' : w4.heap.size = go at *
            generalize hlow' : w1.heap.size = low at *
            generalize hu0 : Value.slice A6 (decR cs).length c6 = u0 at *
            go_loopw [16, 18, 19] (fun u16 u18 _ W => ∃ (k : Nat) (l1 : Lm) (r1 : List Int) (v1 : Value) (es1 : List Ev), k ≤ nk ∧ u18 = .int .i64 (k : Nat) ∧ RdI w #[.int .i64 mi, .int .i64 ma, .int .i64 ra, .bool false, .int .i64 id, .int .i64 nx, .slice A m c] #[.int .i64 0, .int .i64 0, .int .i64 0, .bool false, .int .i64 0, .int .i64 0, .slice none 0 0] low go l1 r1 u16 v1 es1 W ∧ sendN (nk - k) l1 E p r1 = sendN nk LL E p (decR cs) ∧ (l1.mi = mi ∧ l1.ma = ma ∧ l1.nx = nx + k ∧ l1.fl.length = m + k) ∧ Mono l1.fl ∧ r1.length ≤ 10000) (fun _ u18 _ _ => nk + 1 - (intOf u18).toNat)
            case atStart => exact ⟨0, _, _, _, _, by omega, rfl, H6.out, rfl, ⟨HLL.out.1, HLL.out.2.1, by rw [HLL.out.2.2.1]; simp, HLL.out.2.2.2.1⟩, HLL.out.2.2.2.2, hrl⟩
            case round =>
              obtain ⟨k, l1, r1, v1, es1, hk, rfl, hI, hsn, ⟨hmi1, hma1, hnx1, hfl1⟩, hmo1, hr1l⟩ := hrel
              obtain ⟨B1, d1, rfl⟩ := hI.own.form
              obtain ⟨A16, c16, hu, hca16, hcm16, hr16⟩ := own_slice hI.rs
              subst hu
              have HI1 := Lib.hid hI
              have HSN := Lib.hid hsn
              have HMO1 := Lib.hid hmo1
              have hlt4 := hI.b4.lt
              have hlto := hI.bo.lt
              clear hI hsn hmo1
              by_cases hkK : k < nk
              · have hkK' : (k : Int) < nk := by omega
                have x0 : wr.cell? ⟨w.heap.size, 0, none⟩ = some (.int .i64 mi) := HI1.out.b4.cell 0
                have x1 : wr.cell? ⟨w.heap.size, 1, none⟩ = some (.int .i64 ma) := HI1.out.b4.cell 1
                have kw1 : IntKind.i64.wrap (ma - mi) = ma - mi := IntWalk.i64_in _ (by omega)
                have kw2 : IntKind.i64.wrap (ma - mi + 1) = ma - mi + 1 := IntWalk.i64_in _ (by omega)
                have HR16 := Lib.hid hr16
                clear hr16
                go_wp2_with fail
                refine (Decide_any A16 c16 r1 (ma - mi + 1) wr HR16.out hca16 hcm16 hr1l (by omega) (by omega)).mono ?_
                rintro e w7 ⟨⟨v17, rfl, hv17⟩, hb7⟩
                have hdb1 := decV_b r1 (n := ma - mi + 1) (by omega)
                obtain ⟨d, hd⟩ : ∃ d, decV r1 (ma - mi + 1) = d := ⟨_, rfl⟩
                rw [hd] at hdb1 ⊢
                have HD := Lib.hid hd
                clear hd
                have h7 := HI1.out.below hb7
                have H8 : Hid (RdI w #[.int .i64 mi, .int .i64 ma, .int .i64 ra, .bool false, .int .i64 id, .int .i64 nx, .slice A m c] #[.int .i64 0, .int .i64 0, .int .i64 0, .bool false, .int .i64 0, .int .i64 0, .slice none 0 0] low go l1 (decR r1) v17 (.slice B1 es1.length d1) es1 w7) := ⟨h7.b4, h7.b8, h7.bo, own_base hv17 (Nat.zero_le _), h7.own, h7.new, h7.em, h7.bel⟩
                have hs7 := hb7.size
                clear h7 hb7 hv17
                obtain ⟨M1, hM1⟩ : ∃ M1 : Int, nx + k = M1 := ⟨_, rfl⟩
                have hM2 : l1.nx = M1 := by rw [hnx1, hM1]
                have hMb : 0 ≤ M1 ∧ M1 ≤ 1073742000 := by omega
                have y6 : w7.cell? ⟨go, 6, none⟩ = some (.slice B1 es1.length d1) := H8.out.bo.cell 6
                have y5 : w7.cell? ⟨go, 5, none⟩ = some (.int .i64 M1) := by rw [← hM2]; exact H8.out.bo.cell 5
                have z0 : w7.cell? ⟨w.heap.size, 0, none⟩ = some (.int .i64 mi) := H8.out.b4.cell 0
                have hlo1 := H8.out.bo.lt
                have hes1 : es1.length = m + k := by have := congrArg List.length HI1.out.em; rw [List.length_map, hfl1] at this; exact this
                have kw3 : IntKind.i64.wrap (E + mi) = E + mi := IntWalk.i64_in _ (by omega)
                have kw4 : IntKind.i64.wrap (E + mi + d) = E + mi + d := IntWalk.i64_in _ (by omega)
                have HNX := Lib.hid (And.intro hnx1 (And.intro hM1 hM2))
                have HES := Lib.hid hes1
                have hesb : es1.length ≤ 9000 := by omega
                clear x0 x1 hnx1 hM1 hM2 hes1
                go_upto_region 31 with fail
                clear kw1 kw2
                refine wp_pan (Pc := fun _ _ _ => False) (fun _ _ _ h => h.elim) ?_
                refine wp_region_tail_lit (S := fun V => V.cell? ⟨go, 6, none⟩ = some (.slice B1 es1.length d1) ∧ V.cell? ⟨go, 5, none⟩ = some (.int .i64 M1) ∧ V.cell? ⟨w.heap.size, 0, none⟩ = some (.int .i64 mi)) 15 (by kernel_rfl) (by kernel_rfl) ⟨y6, y5, z0⟩ (fun hHeld => ?_)
                simp only [List.take, List.drop]
                refine wpAnyH_take (i := 0) (oi := _) (v := ?_) rfl (by kernel_rfl) (by kernel_rfl) (by kernel_rfl) (fun _ _ _ h => h) (Or.inl ⟨by rfl, ?_⟩) (by assumption) ?_
                rotate_left 1
                · (intro w9 hS9; (try dsimp only at hS9); go_simp <;> with_reducible rfl)
                try simp only [List.getElem_toArray, List.getElem_cons_succ, List.getElem_cons_zero, Act.put, List.setIfInBounds_toArray, List.set_cons_zero, List.set_cons_succ]
                refine wpAnyH_take (i := 1) (oi := _) (v := ?_) rfl (by kernel_rfl) (by kernel_rfl) (by kernel_rfl) (fun _ _ _ h => h) (Or.inl ⟨by rfl, ?_⟩) (by assumption) ?_
                rotate_left 1
                · (intro w9 hS9; (try dsimp only at hS9); go_simp <;> with_reducible rfl)
                try simp only [List.getElem_toArray, List.getElem_cons_succ, List.getElem_cons_zero, Act.put, List.setIfInBounds_toArray, List.set_cons_zero, List.set_cons_succ]
                refine wpAnyH_take (i := 2) (oi := _) (v := ?_) rfl (by kernel_rfl) (by kernel_rfl) (by kernel_rfl) (fun _ _ _ h => h) (Or.inl ⟨by rfl, ?_⟩) (by assumption) ?_
                rotate_left 1
                · (intro w9 hS9; (try dsimp only at hS9); go_simp <;> with_reducible rfl)
                try simp only [List.getElem_toArray, List.getElem_cons_succ, List.getElem_cons_zero, Act.put, List.setIfInBounds_toArray, List.set_cons_zero, List.set_cons_succ]
                refine wpAnyH_take (i := 3) (oi := _) (v := ?_) rfl (by kernel_rfl) (by kernel_rfl) (by kernel_rfl) (fun _ _ _ h => h) (Or.inl ⟨by rfl, ?_⟩) (by assumption) ?_
                rotate_left 1
                · (intro w9 hS9; (try dsimp only at hS9); go_simp <;> with_reducible rfl)
                try simp only [List.getElem_toArray, List.getElem_cons_succ, List.getElem_cons_zero, Act.put, List.setIfInBounds_toArray, List.set_cons_zero, List.set_cons_succ]
                refine wpAnyH_take (i := 4) (oi := _) (v := ?_) rfl (by kernel_rfl) (by kernel_rfl) (by kernel_rfl) (fun _ _ _ h => h) (Or.inl ⟨by rfl, ?_⟩) (by assumption) ?_
                rotate_left 1
                · (intro w9 hS9; (try dsimp only at hS9); go_simp <;> with_reducible rfl)
                try simp only [List.getElem_toArray, List.getElem_cons_succ, List.getElem_cons_zero, Act.put, List.setIfInBounds_toArray, List.set_cons_zero, List.set_cons_succ]
                refine wpAnyH_take (i := 5) (oi := _) (v := ?_) rfl (by kernel_rfl) (by kernel_rfl) (by kernel_rfl) (fun _ _ _ h => h) (Or.inl ⟨by rfl, ?_⟩) (by assumption) ?_
                rotate_left 1
                · (intro w9 hS9; (try dsimp only at hS9); go_simp <;> with_reducible rfl)
                try simp only [List.getElem_toArray, List.getElem_cons_succ, List.getElem_cons_zero, Act.put, List.setIfInBounds_toArray, List.set_cons_zero, List.set_cons_succ]
                refine wpAnyH_take (i := 6) (oi := _) (v := ?_) rfl (by kernel_rfl) (by kernel_rfl) (by kernel_rfl) (fun _ _ _ h => h) (Or.inl ⟨by rfl, ?_⟩) (by assumption) ?_
                rotate_left 1
                · (intro w9 hS9; (try dsimp only at hS9); go_simp <;> with_reducible rfl)
                try simp only [List.getElem_toArray, List.getElem_cons_succ, List.getElem_cons_zero, Act.put, List.setIfInBounds_toArray, List.set_cons_zero, List.set_cons_succ]
                refine wpAnyH_take (i := 7) (oi := _) (v := ?_) rfl (by kernel_rfl) (by kernel_rfl) (by kernel_rfl) (fun _ _ _ h => h) (Or.inl ⟨by rfl, ?_⟩) (by assumption) ?_
                rotate_left 1
                · (intro w9 hS9; (try dsimp only at hS9); go_simp <;> with_reducible rfl)
                try simp only [List.getElem_toArray, List.getElem_cons_succ, List.getElem_cons_zero, Act.put, List.setIfInBounds_toArray, List.set_cons_zero, List.set_cons_succ]
                refine wpAnyH_take (i := 8) (oi := _) (v := ?_) rfl (by kernel_rfl) (by kernel_rfl) (by kernel_rfl) (fun _ _ _ h => h) (Or.inl ⟨by rfl, ?_⟩) (by assumption) ?_
                rotate_left 1
                · (intro w9 hS9; (try dsimp only at hS9); go_simp <;> with_reducible rfl)
                try simp only [List.getElem_toArray, List.getElem_cons_succ, List.getElem_cons_zero, Act.put, List.setIfInBounds_toArray, List.set_cons_zero, List.set_cons_succ]
                refine wpAnyH_take (i := 9) (oi := _) (v := ?_) rfl (by kernel_rfl) (by kernel_rfl) (by kernel_rfl) (fun _ _ _ h => h) (Or.inl ⟨by rfl, ?_⟩) (by assumption) ?_
                rotate_left 1
                · (intro w9 hS9; (try dsimp only at hS9); go_simp <;> with_reducible rfl)
                try simp only [List.getElem_toArray, List.getElem_cons_succ, List.getElem_cons_zero, Act.put, List.setIfInBounds_toArray, List.set_cons_zero, List.set_cons_succ]
                refine wpAnyH_take (i := 10) (oi := _) (v := ?_) rfl (by kernel_rfl) (by kernel_rfl) (by kernel_rfl) (fun _ _ _ h => h) (Or.inl ⟨by rfl, ?_⟩) (by assumption) ?_
                rotate_left 1
                · (intro w9 hS9; (try dsimp only at hS9); go_simp <;> with_reducible rfl)
                try simp only [List.getElem_toArray, List.getElem_cons_succ, List.getElem_cons_zero, Act.put, List.setIfInBounds_toArray, List.set_cons_zero, List.set_cons_succ]
                refine wpAnyH_take (i := 11) (oi := _) (v := ?_) rfl (by kernel_rfl) (by kernel_rfl) (by kernel_rfl) (fun _ _ _ h => h) (Or.inl ⟨by rfl, ?_⟩) (by assumption) ?_
                rotate_left 1
                · (intro w9 hS9; (try dsimp only at hS9); go_simp <;> with_reducible rfl)
                try simp only [List.getElem_toArray, List.getElem_cons_succ, List.getElem_cons_zero, Act.put, List.setIfInBounds_toArray, List.set_cons_zero, List.set_cons_succ]
                refine wpAnyH_ready (rs := [12]) (by kernel_rfl) (by simp) ?_
                refine AllReadyH.cons (o := _) rfl (fun K hK => ?_) AllReadyH.nil
                try simp only [List.getElem_toArray, List.getElem_cons_succ, List.getElem_cons_zero]
                go_simp
                refine (refcopied_any Ap p.length cp p w7.drew (Reads.drew (HX.out.2.2.1.up H8.out.bel)) (by omega)).mono ?_
                rintro e w9 ⟨⟨v9, rfl, hv9⟩, hb9⟩
                obtain ⟨P9, q9, rfl, _, _, hr9⟩ := own_slice hv9
                have hf9 := own_addr hv9
                have hbn : Below w7.heap.size w7 w9 := (Below.refl _ w7).drew.trans hb9
                have H9 := Lib.hid (H8.out.below hbn)
                have hf9' : ∀ ad, 0 < p.length → P9 = some ad → w7.heap.size ≤ ad.block := hf9
                have hs9 := hbn.size
                have y6' : w9.cell? ⟨go, 6, none⟩ = some (.slice B1 es1.length d1) := H9.out.bo.cell 6
                have y5' : w9.cell? ⟨go, 5, none⟩ = some (.int .i64 M1) := by rw [← HNX.out.2.2]; exact H9.out.bo.cell 5
                have z0' : w9.cell? ⟨w.heap.size, 0, none⟩ = some (.int .i64 mi) := H9.out.b4.cell 0
                have HP := Lib.hid (And.intro hr9 hf9')
                clear hv9 hb9 hbn hr9 hf9 hf9'
                go_wp2_with fail
                refine hK.out _ _ ⟨y6', y5', z0'⟩ (fun hHeld => ?_)
                clear hK K
                try simp only [List.getElem_toArray, List.getElem_cons_succ, List.getElem_cons_zero, Act.put, List.setIfInBounds_toArray, List.set_cons_zero, List.set_cons_succ]
                refine wpAnyH_take (i := 13) (oi := _) (v := ?_) rfl (by kernel_rfl) (by kernel_rfl) (by kernel_rfl) (fun _ _ _ h => h) (Or.inl ⟨by rfl, ?_⟩) (by assumption) ?_
                rotate_left 1
                · (intro w9 hS9; (try dsimp only at hS9); go_simp <;> with_reducible rfl)
                try simp only [List.getElem_toArray, List.getElem_cons_succ, List.getElem_cons_zero, Act.put, List.setIfInBounds_toArray, List.set_cons_zero, List.set_cons_succ]
                refine wpAnyH_ready (rs := [14]) (by kernel_rfl) (by simp) ?_
                refine AllReadyH.cons (o := _) rfl (fun K hK => ?_) AllReadyH.nil
                try simp only [List.getElem_toArray, List.getElem_cons_succ, List.getElem_cons_zero]
                go_simp
                have hev := H9.out.own.evs
                refine (refinsert_any B1 es1.length d1 es1 (E + mi + d) M1 P9 q9 p w9 hev.1 (by rw [H9.out.em]; exact HMO1.out) HP.out.1 (by omega) hev.2.2.1 hev.2.2.2).mono ?_
                rintro e w10 ⟨v10, rfl, ho10, hb10⟩
                have hs10 := hb10.size
                have H10b := Lib.hid (H9.out.below hb10)
                have y6'' : w10.cell? ⟨go, 6, none⟩ = some (.slice B1 es1.length d1) := H10b.out.bo.cell 6
                have y5'' : w10.cell? ⟨go, 5, none⟩ = some (.int .i64 M1) := by rw [← HNX.out.2.2]; exact H10b.out.bo.cell 5
                have z0'' : w10.cell? ⟨w.heap.size, 0, none⟩ = some (.int .i64 mi) := H10b.out.b4.cell 0
                have f6 : w10.frozen? ⟨go, 6, none⟩ = false := H10b.out.bo.frozen 6
                have f5 : w10.frozen? ⟨go, 5, none⟩ = false := H10b.out.bo.frozen 5
                obtain ⟨B10, c10, rfl⟩ := ho10.form
                obtain ⟨es2, he2⟩ : ∃ es2, es1.take (atE (laterB (E + mi + d)) (es1.map Ev.em)) ++ ⟨E + mi + d, M1, P9, q9, p⟩ :: es1.drop (atE (laterB (E + mi + d)) (es1.map Ev.em)) = es2 := ⟨_, rfl⟩
                rw [he2] at ho10 ⊢
                obtain ⟨n2, hn2⟩ : ∃ n2, es2.length = n2 := ⟨_, rfl⟩
                rw [hn2] at ho10 ⊢
                have H10 := Lib.hid (And.intro ho10 he2)
                clear ho10 he2 hn2 hev hb10
                go_wp2_with fail
                refine hK.out _ _ ⟨y6'', y5'', z0''⟩ (fun hHeld => ?_)
                clear hK K
                try simp only [List.getElem_toArray, List.getElem_cons_succ, List.getElem_cons_zero, Act.put, List.setIfInBounds_toArray, List.set_cons_zero, List.set_cons_succ]
                refine wpAnyH_done (by kernel_rfl) ?_ _
                refine tailQ_step rfl ?_
                go_wp2_with fail
                refine tailQ_step rfl ?_
                go_wp2_with fail
                refine tailQ_nil (panQ_normal ?_)
                go_wp2_with fail
                have kw5 : IntKind.i64.wrap (M1 + 1) = M1 + 1 := IntWalk.i64_in _ (by omega)
                go_wp2_with fail
                go_roundw
                case rel =>
                  have hem2 : es2.map Ev.em = insE ⟨E + mi + d, M1, p⟩ l1.fl := by
                    rw [← H10.out.2, List.map_append, List.map_cons, List.map_take, List.map_drop, H9.out.em]
                    rfl
                  have hnew2 : NewP low es2 := by
                    rw [← H10.out.2]
                    intro e he
                    rcases List.mem_append.1 he with he | he
                    · exact H9.out.new e (List.mem_of_mem_take he)
                    · rcases List.mem_cons.1 he with rfl | he
                      · intro ad h0 hA
                        have h1 := HP.out.2 ad h0 hA
                        have h2 := HLOW.out
                        omega
                      · exact H9.out.new e (List.mem_of_mem_drop he)
                  have hst := H10b.out.step (v' := .slice B10 n2 c10) (H10.out.1.low (by have := HLOW.out; omega)) hnew2 hem2 HLOW.out.1 (by have := HLOW.out; omega)
                  rw [HNX.out.2.2] at hst
                  refine ⟨k + 1, _, _, _, _, by omega, by go_num, hst, ?_, ⟨hmi1, hma1, ?_, ?_⟩, mono_ins HMO1.out _, ?_⟩
                  · rw [← HSN.out, show nk - k = (nk - (k + 1)) + 1 by omega, sendN_succ, hmi1, hma1, HD.out, HNX.out.2.2]
                  · dsimp only; have := HNX.out.2.1; omega
                  · dsimp only; rw [insE_len, hfl1]; omega
                  · unfold decR; rw [List.length_drop]; omega
                case measure => simp [intOf]; omega
              · obtain rfl : k = nk := by omega
                have hRR : R = ⟨l1, r1, 0⟩ := by
                  have h2 : (⟨(sendN (timesOf (decV cs 3)) LL E p (decR cs)).1, (sendN (timesOf (decV cs 3)) LL E p (decR cs)).2, 0⟩ : SendA) = R := HR.out
                  have h := HSN.out
                  rw [Nat.sub_self] at h
                  rw [← h2, HKW.out.1, HKW.out.2, ← h]
                  rfl
                subst hRR
                clear HR HSN hmi1 hma1 hnx1 hfl1
                obtain ⟨m1, hm1'⟩ : ∃ m1, es1.length = m1 := ⟨_, rfl⟩
                have HCR := Lib.hid (And.intro hr16 hm1')
                obtain ⟨mi1, ma1, ra1, dn1, id1, nx1, fl1⟩ := l1
                have z0 : wr.cell? ⟨go, 0, none⟩ = some (.int .i64 mi1) := HI1.out.bo.cell 0
                have z1 : wr.cell? ⟨go, 1, none⟩ = some (.int .i64 ma1) := HI1.out.bo.cell 1
                have z2 : wr.cell? ⟨go, 2, none⟩ = some (.int .i64 ra1) := HI1.out.bo.cell 2
                have z3 : wr.cell? ⟨go, 3, none⟩ = some (.bool dn1) := HI1.out.bo.cell 3
                have z4 : wr.cell? ⟨go, 4, none⟩ = some (.int .i64 id1) := HI1.out.bo.cell 4
                have z5 : wr.cell? ⟨go, 5, none⟩ = some (.int .i64 nx1) := HI1.out.bo.cell 5
                have z6 : wr.cell? ⟨go, 6, none⟩ = some (.slice B1 m1 d1) := by rw [← hm1']; exact HI1.out.bo.cell 6
                clear hr16 hm1'
                have hk9 : ¬ (k : Int) < k := by omega
                go_wp2_with (refine wpList_store_row rfl _ _ _ rfl (w.heap.size + 1) _ rfl rfl 26 _ HI1.out.b8 (by kernel_rfl) rfl (by simp [Value.oneCell']) ?_)
                refine bodyPost_ret (results_cell_tmp2 (t := 26) (q := 9) (s := 10) rfl _ _ (w.heap.size + 1) _ _ rfl (HI1.out.b8.setRow _) Try.underlying26 rfl (by kernel_rfl)) rfl ⟨below_setRow HI1.out.bel (by omega) _, .slice B1 m1 d1, es1, A16, c16, rfl, ?_, HI1.out.em, HI1.out.new.low (by have := HLOW.out; omega), ?_, hca16, hcm16⟩
                · have ho := HI1.out.own
                  rw [HCR.out.2] at ho
                  exact (ho.keepN HI1.out.new (fun g hg _ => setRow_other _ _ _ _ (by have := HLOW.out; omega)) (by simp)).low (by have := HLOW.out; omega)
                · have hkp := own_keep HI1.out.rs (w' := wr.setRow (w.heap.size + 1) #[.int .i64 mi1, .int .i64 ma1, .int .i64 ra1, .bool dn1, .int .i64 id1, .int .i64 nx1, .slice B1 m1 d1]) (fun g hg => setRow_other _ _ _ _ (fun e => by subst e; obtain ⟨cur, h9⟩ := own_tag HI1.out.rs hg; exact h9.tag HI1.out.b8 (by decide) rfl))
                  obtain ⟨A0, c0, hv0, _, _, hr0⟩ := own_slice hkp
                  injection hv0 with e1 e2 e3
                  subst e1
                  exact hr0
end Go.Proofs.Ytjaoppopfeonhaa
