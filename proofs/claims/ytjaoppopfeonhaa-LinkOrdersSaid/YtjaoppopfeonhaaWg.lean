/- The walk of Check. Condition: at most 4096 flights. -/
import Derived.Test.YtjaoppopfeonhaaWf
import Derived.Maps.OwnSet
import Derived.Deep.CutRange
namespace Go.Proofs.Ytjaoppopfeonhaa
open Go.RowKit
open Go.Maps (Keyed)
theorem below_step {X W w' : World} (h : Below X.heap.size X W) (hb : Below W.heap.size W w') : Below X.heap.size X w' := h.trans (hb.mono h.size)
/-! ### a map of truth values -/
theorem plainElem_bool_inv {H : Type} {P : Program} {e : TypeId} (he : P.underlying e = some .bool) {v : Value} {z : DataW H × List MemPlace} (h : plainElem P e v = some z) : ∃ x, v = .bool x ∧ z = (.lit (.bool x), []) := by
  unfold plainElem at h
  rw [he] at h
  cases v <;> simp at h
  subst h
  exact ⟨_, rfl, rfl⟩
theorem wpList_lookup_own_bool {H : Type} {P : Program} (w : World) {ops : Array Oper} {rest : List Oper} {o : Oper} {a : Act} {Q : Exit → Act → World → Prop}
    (hg : o.guard = none) (m x : Operand) (t : TypeId) (hop : o.op = Op.lookup t m x false)
    (k e : TypeId) (K : Keyed P k) (ht : P.underlying t = some (.map k e)) (he : P.underlying e = some .bool) (hz : (zeroValue e).run P w = .ok (.bool false) w) (b n : Nat) (D : DataW H)
    (hm : a.eval m = .map (some b)) (hown : w.ownsMap P k (plainElem P e) b n D) (key : Value) (kl : Lit) (hx : a.eval x = key) (hkey : keyOf P k key = some kl)
    (hK : ∀ c : Bool, D.atKey kl (.lit (.bool false)) = .lit (.bool c) → wpList P ops Q rest (a.put o.dst (.bool c)) w) :
    wpList P ops Q (o :: rest) a w := by
  refine wpList_plain hg fun K' hK' => ?_
  obtain ⟨v, ps, hrun, hv⟩ := hown.lookup K ht hz (plainElem_bool he false) hkey
  obtain ⟨c, rfl, hc⟩ := plainElem_bool_inv he hv
  simp only [Prod.mk.injEq] at hc
  unfold Oper.wp
  simp [execOp, hop, hm, hx, hrun, Result.andThen]
  exact hK' _ _ (hK c hc.1)
theorem law3 : Keyed Try.prog 3 := Maps.int_keyed Try.underlying3
theorem zero4 (w : World) : (zeroValue 4).run Try.prog w = .ok (.bool false) w := by kernel_rfl
/-- the numbers that were met -/
def MetD (D : DataW Unit) (l : List Em) : Prop := Maps.IsMap D ∧ ∀ x : Int, D.atKey (.int .i64 x) (.lit (.bool false)) = .lit (.bool (l.any (fun f => f.n == x)))
theorem MetD.nil : MetD (.map []) [] := ⟨⟨_, rfl⟩, fun _ => rfl⟩
theorem MetD.put {D : DataW Unit} {l : List Em} (h : MetD D l) (e : Em) : MetD (D.put (.int .i64 e.n) (.lit (.bool true))) (l ++ [e]) := by
  refine ⟨?_, fun x => ?_⟩
  · obtain ⟨es, rfl⟩ := h.1
    exact ⟨_, rfl⟩
  · rw [List.any_append]
    by_cases hx : x = e.n
    · subst hx
      rw [Maps.atKey_put_same h.1 (by simp [WideAt.IsKeyLit])]
      simp
    · rw [Maps.atKey_put_other (by simpa using hx), h.2]
      have : (e.n == x) = false := by simpa using fun h => hx h.symm
      simp [this]
theorem order_z (t n t' n' : Int) (A A' : Option Addr) (m c m' c' : Nat) (z : Int) (hz : orI (cmpI t t') (cmpI n n') = z) (w : World) :
    Calls Try.prog 36 #[.agg (evC t n A m c), .agg (evC t' n' A' m' c')] w fun e w' => e = .returned (.int .i64 z) ∧ Below w.heap.size w w' := by
  subst hz
  exact order_any t n t' n' A A' m c m' c' w
/-- an event does not stand behind another -/
theorem order_bef (e f : Em) : decide (0 ≤ orI (cmpI e.t f.t) (cmpI e.n f.n)) = !befB e f := by
  unfold orI cmpI befB
  rcases Int.lt_trichotomy e.t f.t with h | h | h
  · have h1 : ¬ f.t < e.t := by omega
    simp [h]
  · by_cases h2 : e.n < f.n
    · simp [h, h2]
    · have h3 : ¬ (e.t < f.t ∨ (e.t = f.t ∧ e.n < f.n)) := by omega
      rw [decide_eq_false h3]
      simp [h, h2]
      split <;> simp
  · have h1 : ¬ e.t < f.t := by omega
    have h3 : ¬ (e.t < f.t ∨ (e.t = f.t ∧ e.n < f.n)) := by omega
    rw [decide_eq_false h3]
    simp [h, h1]
/-- what the comparison loads -/
structure CkX (X : World) (bq be b off : Nat) (A : Option Addr) (m c : Nat) (x y : Ev) : Prop where
  q : X.cell? ⟨bq, 6, none⟩ = some (.slice A m c)
  e0 : X.cell? ⟨be, 0, none⟩ = some (.int .i64 x.t)
  e1 : X.cell? ⟨be, 1, none⟩ = some (.int .i64 x.n)
  e2 : X.cell? ⟨be, 2, none⟩ = some (.slice x.A x.p.length x.c)
  f0 : X.cell? ⟨b, off, none⟩ = some (.int .i64 y.t)
  f1 : X.cell? ⟨b, off + 1, none⟩ = some (.int .i64 y.n)
  f2 : X.cell? ⟨b, off + 2, none⟩ = some (.slice y.A y.p.length y.c)
  lq : bq < X.heap.size
  le : be < X.heap.size
  lb : b < X.heap.size
theorem CkX.held {X w' : World} {bq be b off : Nat} {A : Option Addr} {m c : Nat} {x y : Ev} (h : CkX X bq be b off A m c x y) (hb : Below X.heap.size X w') : w'.cell? ⟨bq, 6, none⟩ = some (.slice A m c) ∧ w'.cell? ⟨be, 0, none⟩ = some (.int .i64 x.t) ∧ w'.cell? ⟨be, 1, none⟩ = some (.int .i64 x.n) ∧ w'.cell? ⟨be, 2, none⟩ = some (.slice x.A x.p.length x.c) ∧ w'.cell? ⟨b, off, none⟩ = some (.int .i64 y.t) ∧ w'.cell? ⟨b, off + 1, none⟩ = some (.int .i64 y.n) ∧ w'.cell? ⟨b, off + 2, none⟩ = some (.slice y.A y.p.length y.c) ∧ Below X.heap.size X w' :=
  ⟨(hb.cell (p := ⟨bq, 6, none⟩) h.lq).trans h.q, (hb.cell (p := ⟨be, 0, none⟩) h.le).trans h.e0, (hb.cell (p := ⟨be, 1, none⟩) h.le).trans h.e1, (hb.cell (p := ⟨be, 2, none⟩) h.le).trans h.e2, (hb.cell (p := ⟨b, off, none⟩) h.lb).trans h.f0, (hb.cell (p := ⟨b, off + 1, none⟩) h.lb).trans h.f1, (hb.cell (p := ⟨b, off + 2, none⟩) h.lb).trans h.f2, hb⟩
theorem cfg_cases (mi ma ra : Int) : cfgE mi ma ra = 0 ∨ cfgE mi ma ra = 2 := by unfold cfgE; split <;> simp
/-- what a round of Check finds -/
structure ChI (w : World) (L : List Em) (mi ma ra : Int) (dn : Bool) (id nx : Int) (A : Option Addr) (m c mb k : Nat) (W : World) (D : DataW Unit) : Prop where
  blk : Blk W w.heap.size 26 #[.int .i64 mi, .int .i64 ma, .int .i64 ra, .bool dn, .int .i64 id, .int .i64 nx, .slice A m c]
  map : W.ownsMap Try.prog 3 (plainElem Try.prog 4) mb k D
  met : MetD D (L.take k)
  bad : ∀ j, j < k → badAt nx L j = 0
  bel : Below w.heap.size w W
  low : w.heap.size < mb
  lt : w.heap.size < W.heap.size
theorem ChI.step {w : World} {L : List Em} {mi ma ra : Int} {dn : Bool} {id nx : Int} {A : Option Addr} {m c mb k : Nat} {W W' : World} {D : DataW Unit} (h : ChI w L mi ma ra dn id nx A m c mb k W D) (hb : Below W.heap.size W W') : ChI w L mi ma ra dn id nx A m c mb k W' D :=
  ⟨h.blk.below hb h.lt, by obtain ⟨es, cl, h1, h2⟩ := h.map; exact ⟨es, cl, (hb.block _ h.map.lt).trans h1, h2⟩, h.met, h.bad, h.bel.trans (hb.mono h.bel.size), h.low, Nat.lt_of_lt_of_le h.lt hb.size⟩
theorem chkL_head {l : Lm} {r : Nat} (h : chkH l = r) (hr : r ≠ 0) : chkL l = r := by unfold chkL; rw [h, if_pos hr]
theorem chkL_tail {l : Lm} (h : chkH l = 0) : chkL l = chkE l.nx l.fl := by unfold chkL; rw [h, if_neg (by simp)]
set_option linter.unusedSimpArgs false in
set_option maxRecDepth 100000 in
set_option maxHeartbeats 8000000 in
theorem Check_any (mi ma ra : Int) (dn : Bool) (id nx : Int) (A : Option Addr) (m c : Nat) (l : List Ev) (w : World) (hR : Evs w A m l) (hm : m ≤ 4096) (hmc : m ≤ c) :
    Calls Try.prog 16 #[.agg (lkC mi ma ra dn id nx A m c)] w fun e w' => e = .returned (.int .i64 (chkL ⟨mi, ma, ra, dn, id, nx, l.map Ev.em⟩ : Nat)) ∧ Below w.heap.size w w' := by
  unfold lkC
  have hlen := hR.count
  have hmk := @run_makeMap Try.prog
  have hb0 : Below w.heap.size w (w.alloc (.cells #[.int .i64 mi, .int .i64 ma, .int .i64 ra, .bool dn, .int .i64 id, .int .i64 nx, .slice A m c] 26)) := (Below.refl _ _).alloc (Nat.le_refl _) _
  have g0 := Blk.new w 26 #[.int .i64 mi, .int .i64 ma, .int .i64 ra, .bool dn, .int .i64 id, .int .i64 nx, .slice A m c]
  have hm1 : ¬ (4096 : Int) < m := by omega
  have hs0 : (w.alloc (.cells #[.int .i64 mi, .int .i64 ma, .int .i64 ra, .bool dn, .int .i64 id, .int .i64 nx, .slice A m c] 26)).heap.size = w.heap.size + 1 := by simp
  obtain ⟨r, hr⟩ : ∃ r, chkL ⟨mi, ma, ra, dn, id, nx, l.map Ev.em⟩ = r := ⟨_, rfl⟩
  rw [hr]
  have HR := Lib.hid hr
  have HX := Lib.hid (And.intro hR hlen)
  clear hr hR hlen
  go_enter Try.func16, Try.ntmps16
  go_upto_region 1 with fail
  generalize (w.alloc (.cells #[.int .i64 mi, .int .i64 ma, .int .i64 ra, .bool dn, .int .i64 id, .int .i64 nx, .slice A m c] 26)) = V at *
  have c0 : V.cell? ⟨w.heap.size, 0, none⟩ = some (.int .i64 mi) := g0.cell 0
  have c1 : V.cell? ⟨w.heap.size, 1, none⟩ = some (.int .i64 ma) := g0.cell 1
  have c2 : V.cell? ⟨w.heap.size, 2, none⟩ = some (.int .i64 ra) := g0.cell 2
  go_wp2_with fail
  refine (config_any _ _ _ _).mono ?_
  rintro e w1 ⟨rfl, hb1⟩
  have g1 := g0.below hb1 (by omega)
  have hs1 : w.heap.size + 1 ≤ w1.heap.size := by have := hb1.size; omega
  have HB1 := Lib.hid (And.intro (hb0.trans (hb1.mono hb0.size)) g1)
  clear c0 c1 c2 g0 hb0 hb1 hs0
  clear V
  have c3 : w1.cell? ⟨w.heap.size, 3, none⟩ = some (.bool dn) := g1.cell 3
  have c4 : w1.cell? ⟨w.heap.size, 4, none⟩ = some (.int .i64 id) := g1.cell 4
  have c5 : w1.cell? ⟨w.heap.size, 5, none⟩ = some (.int .i64 nx) := g1.cell 5
  have c6 : w1.cell? ⟨w.heap.size, 6, none⟩ = some (.slice A m c) := g1.cell 6
  clear g1
  rcases cfg_cases mi ma ra with hc | hc
  rotate_left 1
  · rw [hc]
    have hr : r = 2 := by rw [← HR.out]; exact chkL_head (by unfold chkH; dsimp only; rw [if_pos (by omega)]) (by simp)
    subst hr
    go_wp2_with fail
    go_ret
    exact ⟨rfl, HB1.out.1⟩
  rw [hc]
  have HCF := Lib.hid hc
  clear hc
  by_cases h2 : 0 ≤ id ∧ id ≤ 1073741824
  rotate_left 1
  · have hr : r = 24 := by rw [← HR.out]; exact chkL_head (by unfold chkH; dsimp only; rw [HCF.out, if_neg (by simp), if_pos (by omega)]) (by simp)
    subst hr
    have H2 := Lib.hid h2
    clear h2
    go_wp2_with fail
    refine (betw_any _ _ _ (decide_eq_false H2.out) _).mono ?_
    rintro e w2 ⟨rfl, rfl⟩
    go_wp2_with fail
    go_ret
    exact ⟨rfl, HB1.out.1⟩
  have H2 := Lib.hid h2
  clear h2
  by_cases h3 : 0 ≤ nx ∧ nx ≤ 1073741824
  rotate_left 1
  · have hr : r = 2 := by rw [← HR.out]; exact chkL_head (by unfold chkH; dsimp only; rw [HCF.out, if_neg (by simp), if_neg (by have := H2.out; omega), if_pos (by omega)]) (by simp)
    subst hr
    have H3 := Lib.hid h3
    clear h3
    go_wp2_with fail
    refine (betw_any _ _ _ (decide_eq_true H2.out) _).mono ?_
    rintro e w2 ⟨rfl, rfl⟩
    go_wp2_with fail
    refine (betw_any _ _ _ (decide_eq_false H3.out) _).mono ?_
    rintro e w2 ⟨rfl, rfl⟩
    go_wp2_with fail
    go_ret
    exact ⟨rfl, HB1.out.1⟩
  have H3 := Lib.hid h3
  clear h3
  go_wp2_with fail
  refine (betw_any _ _ _ (decide_eq_true H2.out) _).mono ?_
  rintro e w2 ⟨rfl, rfl⟩
  go_wp2_with fail
  refine (betw_any _ _ _ (decide_eq_true H3.out) _).mono ?_
  rintro e w2 ⟨rfl, rfl⟩
  by_cases h4 : dn = true ∧ 0 < m
  · have hr : r = 12 := by
      rw [← HR.out]
      refine chkL_head ?_ (by simp)
      unfold chkH
      dsimp only
      rw [HCF.out, if_neg (by simp), if_neg (by have := H2.out; omega), if_neg (by have := H3.out; omega), if_neg (by rw [List.length_map, HX.out.2]; omega), if_pos (by rw [List.length_map, HX.out.2]; exact h4)]
    subst hr
    obtain ⟨rfl, hm0⟩ := h4
    have hm0' : (0 : Int) < m := by omega
    go_wp2_with fail
    go_ret
    exact ⟨rfl, HB1.out.1⟩
  have hr : r = chkE nx (l.map Ev.em) := by
    rw [← HR.out]
    refine chkL_tail ?_
    unfold chkH
    dsimp only
    rw [HCF.out, if_neg (by simp), if_neg (by have := H2.out; omega), if_neg (by have := H3.out; omega), if_neg (by rw [List.length_map, HX.out.2]; omega), if_neg (by rw [List.length_map, HX.out.2]; exact h4)]
  have HC := Lib.hid hr
  clear hr HR
  go_upto_region 9 with fail
  go_cut [26] from 27 to 34 (fun s wx => s = .bool false ∧ wx = w2)
  case first =>
    cases dn with
    | false =>
      go_wp2_with fail
      go_meet
      exact ⟨rfl, rfl⟩
    | true =>
      have hm0 : m = 0 := by
        rcases Nat.eq_zero_or_pos m with h | h
        · exact h
        · exact absurd ⟨rfl, h⟩ h4
      subst hm0
      go_wp2_with fail
      go_meet
      exact ⟨rfl, rfl⟩
  case rest =>
    obtain ⟨rfl, hwx⟩ := hcut
    subst wc
    clear h4
    have hbM : Below w.heap.size w (w2.alloc (.map #[] 0)) := HB1.out.1.alloc HB1.out.1.size _
    have H0 : Hid (ChI w (l.map Ev.em) mi ma ra dn id nx A m c w2.heap.size 0 (w2.alloc (.map #[] 0)) (.map [])) := ⟨HB1.out.2.alloc _, World.ownsMap_made _ _ _ _, MetD.nil, nofun, hbM, by omega, by simp; omega⟩
    clear hbM c3 c4 c5 c6
    have c6 : (w2.alloc (.map #[] 0)).cell? ⟨w.heap.size, 6, none⟩ = some (.slice A m c) := H0.out.blk.cell 6
    go_wp2_with fail
    generalize w2.alloc (.map #[] 0) = V at *
    clear c6
    go_loopw [4, 5, 39] (fun _ _ u39 W => ∃ (k : Nat) (D : DataW Unit), k ≤ m ∧ u39 = .int .i64 (k : Nat) ∧ ChI w (l.map Ev.em) mi ma ra dn id nx A m c w2.heap.size k W D) (fun _ _ u39 _ => m + 1 - (intOf u39).toNat)
    case atStart => exact ⟨0, _, by omega, rfl, H0.out⟩
    case round =>
      obtain ⟨k, D, hk, rfl, hCh⟩ := hrel
      have hsr := hCh.lt
      have HCh := Lib.hid hCh
      clear hCh
      by_cases hlt : k < m
      · have hkl : k < l.length := by have := HX.out.2; omega
        have hR1 := HX.out.1.up HCh.out.bel
        obtain ⟨b, off, rfl, hbw, hcl⟩ := hR1.cells (by omega)
        obtain ⟨d0, d1, d2⟩ := hcl k _ (List.getElem?_eq_getElem hkl)
        have HCL := Lib.hid hcl
        have HS : Hid ((l.map Ev.em)[k]? = some l[k].em) := by
          show _ = _
          rw [List.getElem?_map, List.getElem?_eq_getElem hkl]
          rfl
        clear hcl hR1
        generalize hlk : l[k] = ev at *
        obtain ⟨xt, xn, xA, xc, xp⟩ := ev
        dsimp only at d0 d1 d2
        dsimp only [Ev.em] at HS
        clear hlk
        have ik : (k : Int) < m := by omega
        go_upto_region 15 with fail
        have hW1 := HCh.out.step ((Below.refl _ wr).alloc (Nat.le_refl _) (.cells #[.int .i64 xt, .int .i64 xn, .slice xA xp.length xc] 69))
        have b1 := Blk.new wr 69 #[.int .i64 xt, .int .i64 xn, .slice xA xp.length xc]
        have hb1 : Below wr.heap.size wr (wr.alloc (.cells #[.int .i64 xt, .int .i64 xn, .slice xA xp.length xc] 69)) := (Below.refl _ _).alloc (Nat.le_refl _) _
        have hs2 : (wr.alloc (.cells #[.int .i64 xt, .int .i64 xn, .slice xA xp.length xc] 69)).heap.size = wr.heap.size + 1 := by simp
        generalize (wr.alloc (.cells #[.int .i64 xt, .int .i64 xn, .slice xA xp.length xc] 69)) = W1 at *
        clear d0 d1 d2
        have e0 : W1.cell? ⟨wr.heap.size, 0, none⟩ = some (.int .i64 xt) := b1.cell 0
        have e1 : W1.cell? ⟨wr.heap.size, 1, none⟩ = some (.int .i64 xn) := b1.cell 1
        have e2 : W1.cell? ⟨wr.heap.size, 2, none⟩ = some (.slice xA xp.length xc) := b1.cell 2
        have q5 : W1.cell? ⟨w.heap.size, 5, none⟩ = some (.int .i64 nx) := hW1.blk.cell 5
        have q6 : W1.cell? ⟨w.heap.size, 6, none⟩ = some (.slice (some ⟨b, off, none⟩) m c) := hW1.blk.cell 6
        have HW1 := Lib.hid (And.intro hW1 (And.intro b1 (And.intro hb1 hs2)))
        have hs2' : wr.heap.size < W1.heap.size := by omega
        have hs3' : w.heap.size < W1.heap.size := by omega
        clear hW1 b1 hb1 hs2
        have hbad : ∀ (x : Nat), badAt nx (l.map Ev.em) k = x → x ≠ 0 → r = x := fun x h1 h2 => by
          rw [HC.out]
          exact chkE_at (k := k) HCh.out.bad (by rw [List.length_map]; exact hkl) h1 h2
        have HBAD := Lib.hid hbad
        clear hbad
        by_cases h5 : 0 ≤ xt ∧ xt ≤ 1073741824
        rotate_left 1
        · have hr := HBAD.out 24 (by unfold badAt; rw [HS.out]; dsimp only; rw [show wrongE ⟨xt, xn, xp⟩ nx = 24 by unfold wrongE; rw [if_pos (by dsimp only; omega)]]; rw [if_pos (by simp)]) (by simp)
          clear HC HBAD
          subst hr
          have H5 := Lib.hid h5
          clear h5
          go_wp2_with fail
          refine (betw_any _ _ _ (decide_eq_false H5.out) _).mono ?_
          rintro e w3 ⟨rfl, rfl⟩
          go_wp2_with fail
          go_ret
          exact ⟨rfl, HW1.out.1.bel⟩
        have H5 := Lib.hid h5
        clear h5
        have hnr := H3.out
        have kw : IntKind.i64.wrap (nx - 1) = nx - 1 := IntWalk.i64_in _ (by omega)
        clear hnr
        by_cases h6 : 0 ≤ xn ∧ xn ≤ nx - 1
        rotate_left 1
        · have hr := HBAD.out 2 (by unfold badAt; rw [HS.out]; dsimp only; rw [show wrongE ⟨xt, xn, xp⟩ nx = 2 by unfold wrongE; rw [if_neg (by have := H5.out; dsimp only; omega), if_pos (by dsimp only; omega)]]; rw [if_pos (by simp)]) (by simp)
          clear HC HBAD
          subst hr
          have H6 := Lib.hid h6
          clear h6
          go_wp2_with fail
          refine (betw_any _ _ _ (decide_eq_true H5.out) _).mono ?_
          rintro e w3 ⟨rfl, rfl⟩
          go_wp2_with fail
          refine (betw_any _ _ _ (decide_eq_false H6.out) _).mono ?_
          rintro e w3 ⟨rfl, rfl⟩
          go_wp2_with fail
          go_ret
          exact ⟨rfl, HW1.out.1.bel⟩
        have H6 := Lib.hid h6
        clear h6
        by_cases h7 : 65536 < xp.length
        · have hr := HBAD.out 5 (by unfold badAt; rw [HS.out]; dsimp only; rw [show wrongE ⟨xt, xn, xp⟩ nx = 5 by unfold wrongE; rw [if_neg (by have := H5.out; dsimp only; omega), if_neg (by have := H6.out; dsimp only; omega), if_pos h7]]; rw [if_pos (by simp)]) (by simp)
          clear HC HBAD
          subst hr
          have h7' : (65536 : Int) < xp.length := by omega
          go_wp2_with fail
          refine (betw_any _ _ _ (decide_eq_true H5.out) _).mono ?_
          rintro e w3 ⟨rfl, rfl⟩
          go_wp2_with fail
          refine (betw_any _ _ _ (decide_eq_true H6.out) _).mono ?_
          rintro e w3 ⟨rfl, rfl⟩
          go_wp2_with fail
          go_ret
          exact ⟨rfl, HW1.out.1.bel⟩
        have h7' : ¬ (65536 : Int) < xp.length := by omega
        have HWR : Hid (wrongE ⟨xt, xn, xp⟩ nx = 0) := by
          show _ = _
          unfold wrongE
          rw [if_neg (by have := H5.out; dsimp only; omega), if_neg (by have := H6.out; dsimp only; omega), if_neg h7]
        clear h7
        go_wp2_with fail
        refine (betw_any _ _ _ (decide_eq_true H5.out) _).mono ?_
        rintro e w3 ⟨rfl, rfl⟩
        go_wp2_with fail
        refine (betw_any _ _ _ (decide_eq_true H6.out) _).mono ?_
        rintro e w3 ⟨rfl, rfl⟩
        clear kw
        go_upto_region 21 with fail
        obtain ⟨ob, hob⟩ : ∃ ob, ordBad (l.map Ev.em) k ⟨xt, xn, xp⟩ = ob := ⟨_, rfl⟩
        have HOB := Lib.hid hob
        clear hob
        go_cut [62] from 63 to 75 (fun s wx => s = .bool ob ∧ Below w3.heap.size w3 wx)
        case first =>
          by_cases hk0 : k = 0
          · have hk0' : decide ((0 : Int) < (k : Int)) = false := by rw [decide_eq_false]; omega
            have hk0n : decide (0 < k) = false := by rw [decide_eq_false]; omega
            have ho : ob = false := by
              rw [← HOB.out]
              unfold ordBad
              subst hk0
              cases (l.map Ev.em)[0 - 1]? with
              | none => rfl
              | some f => simp
            subst ho
            clear hk0
            go_quiet (fail)
            go_wp2_with fail
            go_meet
            exact ⟨rfl, below_drewN (Below.refl _ _) _⟩
          · have hkp : 0 < k := by omega
            have hkp' : (0 : Int) < k := by omega
            have hl1 : k - 1 < l.length := by omega
            obtain ⟨f0, f1, f2⟩ := HCL.out (k - 1) _ (List.getElem?_eq_getElem hl1)
            have HS1 : Hid ((l.map Ev.em)[k - 1]? = some l[k - 1].em) := by
              show _ = _
              rw [List.getElem?_map, List.getElem?_eq_getElem hl1]
              rfl
            generalize hlk : l[k - 1] = ev at *
            obtain ⟨yt, yn, yA, yc, yp⟩ := ev
            dsimp only at f0 f1 f2
            clear hlk
            have hck : CkX w3 w.heap.size wr.heap.size b (off + (k - 1) * 3) (some ⟨b, off, none⟩) m c ⟨xt, xn, xA, xc, xp⟩ ⟨yt, yn, yA, yc, yp⟩ :=
              ⟨q6, e0, e1, e2, (HW1.out.2.2.1.cell (p := ⟨b, off + (k - 1) * 3, none⟩) hbw).trans f0, (HW1.out.2.2.1.cell (p := ⟨b, off + (k - 1) * 3 + 1, none⟩) hbw).trans f1, (HW1.out.2.2.1.cell (p := ⟨b, off + (k - 1) * 3 + 2, none⟩) hbw).trans f2, hs3', hs2', by omega⟩
            have HCK := Lib.hid hck
            have hz := order_bef ⟨yt, yn, yp⟩ ⟨xt, xn, xp⟩
            dsimp only at hz
            obtain ⟨z, hzz⟩ : ∃ z, orI (cmpI yt xt) (cmpI yn xn) = z := ⟨_, rfl⟩
            rw [hzz] at hz
            have HZ := Lib.hid hzz
            have ho : ob = decide (0 ≤ z) := by
              rw [← HOB.out]
              unfold ordBad
              rw [HS1.out, hz]
              show (decide (0 < k) && !befB ⟨yt, yn, yp⟩ _) = _
              rw [decide_eq_true hkp, Bool.true_and]
            have kw : IntKind.i64.wrap ((k : Int) - 1) = (k : Int) - 1 := by rw [IntWalk.i64_in _ (by omega)]
            have kw0 : (0 : Int) ≤ (k : Int) - 1 := by omega
            have kw1 : ((k : Int) - 1).toNat = k - 1 := by omega
            have kw2 : (k : Int) - 1 < m := by omega
            have kw3 : (1 : Int) ≤ k := by omega
            have kw4 : (k : Int) < (m : Int) + 1 := by omega
            subst ho
            clear f0 f1 f2 hck hz hzz
            go_region_held3 (fun w' => w'.cell? ⟨w.heap.size, 6, none⟩ = some (.slice (some ⟨b, off, none⟩) m c) ∧ w'.cell? ⟨wr.heap.size, 0, none⟩ = some (.int .i64 xt) ∧ w'.cell? ⟨wr.heap.size, 1, none⟩ = some (.int .i64 xn) ∧ w'.cell? ⟨wr.heap.size, 2, none⟩ = some (.slice xA xp.length xc) ∧ w'.cell? ⟨b, off + (k - 1) * 3, none⟩ = some (.int .i64 yt) ∧ w'.cell? ⟨b, off + (k - 1) * 3 + 1, none⟩ = some (.int .i64 yn) ∧ w'.cell? ⟨b, off + (k - 1) * 3 + 2, none⟩ = some (.slice yA yp.length yc) ∧ Below w3.heap.size w3 w')
              (first
                | exact HCK.out.held ((Below.refl _ w3).drew)
                | (go_split_ands; exact HCK.out.held (below_step (by assumption) hb'))
                | (go_split_ands; exact HCK.out.held (by assumption)))
              (first
                | (go_at_call 36; refine (order_z yt yn xt xn yA xA yp.length yc xp.length xc z HZ.out _).mono ?_; rintro e w' ⟨rfl, hb'⟩))
            go_wp2_with fail
            go_meet
            exact ⟨rfl, (Below.refl _ w3).drew.trans hb'⟩
        case rest =>
          obtain ⟨rfl, hb4⟩ := hcut
          have hs4 := hb4.size
          have hW4 := HW1.out.1.step hb4
          have b4 := HW1.out.2.1.below hb4 hs2'
          have hb4w : Below wr.heap.size wr wc := HW1.out.2.2.1.trans (hb4.mono HW1.out.2.2.1.size)
          have HW4 := Lib.hid (And.intro hW4 (And.intro b4 hb4w))
          have hs5 : wr.heap.size < wc.heap.size := by omega
          clear hW4 b4 hb4w hb4 e0 e1 e2 q5 q6
          cases ob with
          | true =>
            have hr := HBAD.out 3 (by unfold badAt; rw [HS.out]; dsimp only; rw [HWR.out, if_neg (by simp), if_pos HOB.out]) (by simp)
            clear HC HBAD
            subst hr
            go_wp2_with fail
            go_ret
            exact ⟨rfl, HW4.out.1.bel⟩
          | false =>
            have hnn := H6.out
            have hnx := H3.out
            have hwf : (Lit.int .i64 xn).wf = true := WalkArith.wf_i64 (by omega)
            clear hnn hnx
            have hkey := Maps.keyOf_int_mk Try.underlying3 hwf
            have hlook : (Instr.lookup 73 (.map (some w2.heap.size)) (.int .i64 xn) false).run Try.prog wc = .ok (.bool (((l.map Ev.em).take k).any (fun f => f.n == xn))) wc := by
              obtain ⟨v, ps, hrun, hv⟩ := HW4.out.1.map.lookup law3 Try.underlying73 (zero4 _) (plainElem_bool Try.underlying4 false) hkey
              obtain ⟨cb, rfl, hc⟩ := plainElem_bool_inv Try.underlying4 hv
              rw [HW4.out.1.met.2] at hc
              simp only [Prod.mk.injEq, DataW.lit.injEq, Lit.bool.injEq] at hc
              rw [hrun, hc.1]
            obtain ⟨dv, hdv⟩ : ∃ dv, ((l.map Ev.em).take k).any (fun f => f.n == xn) = dv := ⟨_, rfl⟩
            rw [hdv] at hlook
            have HDV := Lib.hid hdv
            have HKEY := Lib.hid hkey
            clear hdv hkey hwf
            have e1 : wc.cell? ⟨wr.heap.size, 1, none⟩ = some (.int .i64 xn) := HW4.out.2.1.cell 1
            have hbk : Hid (badAt nx (l.map Ev.em) k = if dv = true then 8 else 0) := by
              show _ = _
              unfold badAt
              rw [HS.out]
              dsimp only
              rw [HWR.out, if_neg (by simp), if_neg (by rw [HOB.out]; simp), HDV.out]
            cases dv with
            | true =>
              have hr := HBAD.out 8 (by rw [hbk.out]; rfl) (by simp)
              clear HC HBAD
              subst hr
              go_wp2_with fail
              go_ret
              exact ⟨rfl, HW4.out.1.bel⟩
            | false =>
              go_wp2_with (at_mapUpdate; refine wpList_mapUpdate_own _ rfl _ _ _ 73 rfl 3 4 law3 Try.underlying73 _ w2.heap.size k _ rfl HW4.out.1.map (by unfold maxLen; omega) _ _ _ rfl rfl HKEY.out _ [] (plainElem_bool Try.underlying4 true) ?_; intro w5 hown5 hgrow5)
              go_roundw
              case rel =>
                have h4 := HW4.out.1
                have hlow := h4.low
                refine ⟨k + 1, _, by omega, by go_num, h4.blk.grown hgrow5 (by simp; omega), hown5, ?_, ?_, h4.bel.grown hgrow5 h4.bel.size (fun j hj => by cases hj; omega), hlow, Nat.lt_of_lt_of_le h4.lt hgrow5.size⟩
                · rw [List.take_add_one, HS.out]
                  exact h4.met.put ⟨xt, xn, xp⟩
                · intro j hj
                  rcases Nat.lt_or_ge j k with h | h
                  · exact h4.bad j h
                  · obtain rfl : j = k := by omega
                    rw [hbk.out]; rfl
              case measure => simp [intOf]; omega
      · go_wp2_with fail
        go_ret
        refine ⟨ret_int ?_, HCh.out.bel⟩
        rw [HC.out, chkE_ok (fun j hj => HCh.out.bad j (by rw [List.length_map] at hj; have := HX.out.2; omega))]
        rfl
end Go.Proofs.Ytjaoppopfeonhaa
