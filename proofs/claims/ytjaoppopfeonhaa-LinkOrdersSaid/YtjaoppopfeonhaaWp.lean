/- The walk of Deliver. Condition: at most 4000 flights, sizes as named. -/
import Derived.Test.YtjaoppopfeonhaaWo
namespace Go.Proofs.Ytjaoppopfeonhaa
open Go.RowKit
theorem DvI.below {w : World} {low go : Nat} {cs C8 : Array Value} {es : List Ev} {k : Nat} {u : Value} {W W' : World} (h : DvI w low go cs C8 es k u W) (hb : Below W.heap.size W W') : DvI w low go cs C8 es k u W' :=
  ⟨h.b8.below hb h.b8.lt, h.bo.below hb h.bo.lt, own_below h.row hb, h.bel.trans (hb.mono h.bel.size), fun e he => (h.ev e he).up hb⟩
theorem DvI.alloc {w : World} {low go : Nat} {cs C8 : Array Value} {es : List Ev} {k : Nat} {u : Value} {W : World} (h : DvI w low go cs C8 es k u W) (o : Obj) : DvI w low go cs C8 es k u (W.alloc o) := h.below ((Below.refl _ _).alloc (Nat.le_refl _) o)
theorem DvI.push {w : World} {low go : Nat} {cs C8 : Array Value} {es : List Ev} {k : Nat} {u v : Value} {W W' : World} (h : DvI w low go cs C8 es k u W) (hr : W'.ownsRow low 37 1 v (k + 1) ((es.take (k + 1)).map (fun e => encPl e.pl))) (hg : W.grownBy W' u.ownBlock) (hlow : w.heap.size + 2 ≤ go ∧ go < low) (hev : ∀ e ∈ es, ∀ ad, 0 < e.p.length → e.A = some ad → ad.block < low) : DvI w low go cs C8 es (k + 1) v W' := by
  have hrow : ∀ b, u.ownBlock = some b → low ≤ b := fun b hb => own_block_ge h.row b hb
  refine ⟨h.b8.grown hg (fun e => by have := hrow _ e.symm; omega), h.bo.grown hg (fun e => by have := hrow _ e.symm; omega), hr, h.bel.grown hg h.bel.size (fun b hb => by have := hrow b hb; omega), fun e he => ?_⟩
  exact evR_grown (h.ev e he) (fun ad h0 hA e9 => by have h1 := hrow _ e9; have h2 := hev e he ad h0 hA; omega) hg
set_option linter.unusedSimpArgs false in
set_option maxRecDepth 100000 in
set_option maxHeartbeats 4000000 in
theorem Deliver_any (mi ma ra : Int) (dn : Bool) (id nx : Int) (A : Option Addr) (m c : Nat) (l : List Ev) (now : Int) (w : World) (hR : Evs w A m l) (hm : m ≤ 4000) (hmc : m ≤ c) (hlp : ∀ e ∈ l, e.p.length ≤ 100000) :
    Calls Try.prog 23 #[.agg (lkC mi ma ra dn id nx A m c), .int .i64 now] w (DelivR w (delivM ⟨mi, ma, ra, dn, id, nx, l.map Ev.em⟩ now)) := by
  unfold lkC
  obtain ⟨R, hR0⟩ : ∃ R, delivM ⟨mi, ma, ra, dn, id, nx, l.map Ev.em⟩ now = R := ⟨_, rfl⟩
  rw [hR0]
  unfold delivM at hR0
  have HR := Lib.hid hR0
  clear hR0
  have hlen := hR.count
  obtain ⟨i2, hi2, hy0, hy1, hy2⟩ := info_parts info53e
  have HI0 := Lib.hid (And.intro hi2 (And.intro hy0 (And.intro hy1 hy2)))
  clear hi2 hy0 hy1 hy2
  have hb0 : Below w.heap.size w ((w.alloc (.cells #[.int .i64 mi, .int .i64 ma, .int .i64 ra, .bool dn, .int .i64 id, .int .i64 nx, .slice A m c] 26)).alloc (.cells #[.int .i64 0, .int .i64 0, .int .i64 0, .bool false, .int .i64 0, .int .i64 0, .slice none 0 0] 26)) := ((Below.refl _ _).alloc (Nat.le_refl _) _).alloc (by simp) _
  have g0 : Blk ((w.alloc (.cells #[.int .i64 mi, .int .i64 ma, .int .i64 ra, .bool dn, .int .i64 id, .int .i64 nx, .slice A m c] 26)).alloc (.cells #[.int .i64 0, .int .i64 0, .int .i64 0, .bool false, .int .i64 0, .int .i64 0, .slice none 0 0] 26)) w.heap.size 26 #[.int .i64 mi, .int .i64 ma, .int .i64 ra, .bool dn, .int .i64 id, .int .i64 nx, .slice A m c] := (Blk.new w 26 #[.int .i64 mi, .int .i64 ma, .int .i64 ra, .bool dn, .int .i64 id, .int .i64 nx, .slice A m c]).alloc _
  have g1 := Blk.new (w.alloc (.cells #[.int .i64 mi, .int .i64 ma, .int .i64 ra, .bool dn, .int .i64 id, .int .i64 nx, .slice A m c] 26)) 26 #[.int .i64 0, .int .i64 0, .int .i64 0, .bool false, .int .i64 0, .int .i64 0, .slice none 0 0]
  rw [World.size_alloc] at g1
  have hs0 : ((w.alloc (.cells #[.int .i64 mi, .int .i64 ma, .int .i64 ra, .bool dn, .int .i64 id, .int .i64 nx, .slice A m c] 26)).alloc (.cells #[.int .i64 0, .int .i64 0, .int .i64 0, .bool false, .int .i64 0, .int .i64 0, .slice none 0 0] 26)).heap.size = w.heap.size + 2 := by simp
  have HX := Lib.hid (And.intro hR (And.intro hlen hlp))
  clear hR hlen hlp
  go_enter Try.func23, Try.ntmps23
  go_upto_region 1 with fail
  generalize ((w.alloc (.cells #[.int .i64 mi, .int .i64 ma, .int .i64 ra, .bool dn, .int .i64 id, .int .i64 nx, .slice A m c] 26)).alloc (.cells #[.int .i64 0, .int .i64 0, .int .i64 0, .bool false, .int .i64 0, .int .i64 0, .slice none 0 0] 26)) = V at *
  have c0 : V.cell? ⟨w.heap.size, 0, none⟩ = some (.int .i64 mi) := g0.cell 0
  have c1 : V.cell? ⟨w.heap.size, 1, none⟩ = some (.int .i64 ma) := g0.cell 1
  have c2 : V.cell? ⟨w.heap.size, 2, none⟩ = some (.int .i64 ra) := g0.cell 2
  have c3 : V.cell? ⟨w.heap.size, 3, none⟩ = some (.bool dn) := g0.cell 3
  have c4 : V.cell? ⟨w.heap.size, 4, none⟩ = some (.int .i64 id) := g0.cell 4
  have c5 : V.cell? ⟨w.heap.size, 5, none⟩ = some (.int .i64 nx) := g0.cell 5
  have c6 : V.cell? ⟨w.heap.size, 6, none⟩ = some (.slice A m c) := g0.cell 6
  go_wp2_with fail
  have hE := HX.out.1.up hb0
  refine (own_any mi ma ra dn id nx A m c l V hE (by omega) HX.out.2.2).mono ?_
  rintro e w3 ⟨hb3, v3, es, rfl, hE3, hm3, hN3⟩
  obtain ⟨B4, d4, rfl⟩ := hE3.form
  obtain ⟨m4, hm4⟩ : ∃ m4, es.length = m4 := ⟨_, rfl⟩
  have hm4m : m4 = m := by rw [← hm4, ← HX.out.2.1]; have := congrArg List.length hm3; simpa using this
  rw [hm4] at hE3 ⊢
  have hm44 : m4 ≤ 4000 := by omega
  clear hm4m
  have hs3 := hb3.size
  unfold lkV
  dsimp only
  have b3 : Below V.heap.size V (w3.alloc (.cells #[.int .i64 mi, .int .i64 ma, .int .i64 ra, .bool dn, .int .i64 id, .int .i64 nx, .slice B4 m4 d4] 26)) := hb3.alloc hb3.size _
  have bo3 := Blk.new w3 26 #[.int .i64 mi, .int .i64 ma, .int .i64 ra, .bool dn, .int .i64 id, .int .i64 nx, .slice B4 m4 d4]
  have hz3 : (w3.alloc (.cells #[.int .i64 mi, .int .i64 ma, .int .i64 ra, .bool dn, .int .i64 id, .int .i64 nx, .slice B4 m4 d4] 26)).heap.size = w3.heap.size + 1 := by simp
  have HV3 := Lib.hid (And.intro (hb0.trans (b3.mono hb0.size)) (And.intro (g0.below b3 (by omega)) (And.intro (g1.below b3 (by omega)) (And.intro bo3 (And.intro hE3 (And.intro hm3 (And.intro hN3 (And.intro hm4 (Below.refl w3.heap.size w3 |>.alloc (Nat.le_refl _) (.cells #[.int .i64 mi, .int .i64 ma, .int .i64 ra, .bool dn, .int .i64 id, .int .i64 nx, .slice B4 m4 d4] 26))))))))))
  have HEV : Hid (es.map Ev.em = l.map Ev.em ∧ (∀ e ∈ es, ∀ ad, 0 < e.p.length → e.A = some ad → w.heap.size + 2 ≤ ad.block ∧ ad.block < w3.heap.size)) := by
    refine ⟨hm3, fun e he ad h0 hA => ⟨by have := hN3 e he ad h0 hA; omega, ?_⟩⟩
    obtain ⟨ad', hA', hlt, _⟩ := (hE3.ev e he).1.2 h0
    rw [hA] at hA'
    cases hA'
    exact hlt
  clear c0 c1 c2 c3 c4 c5 c6 g0 g1 hb0 hb3 hE3 hm3 hN3 b3 bo3 hE hm4
  go_upto_region 2 with fail
  generalize (w3.alloc (.cells #[.int .i64 mi, .int .i64 ma, .int .i64 ra, .bool dn, .int .i64 id, .int .i64 nx, .slice B4 m4 d4] 26)) = W3 at *
  have c0 : W3.cell? ⟨w.heap.size, 0, none⟩ = some (.int .i64 mi) := HV3.out.2.1.cell 0
  have c1 : W3.cell? ⟨w.heap.size, 1, none⟩ = some (.int .i64 ma) := HV3.out.2.1.cell 1
  have c2 : W3.cell? ⟨w.heap.size, 2, none⟩ = some (.int .i64 ra) := HV3.out.2.1.cell 2
  have c3 : W3.cell? ⟨w.heap.size, 3, none⟩ = some (.bool dn) := HV3.out.2.1.cell 3
  have c4 : W3.cell? ⟨w.heap.size, 4, none⟩ = some (.int .i64 id) := HV3.out.2.1.cell 4
  have c5 : W3.cell? ⟨w.heap.size, 5, none⟩ = some (.int .i64 nx) := HV3.out.2.1.cell 5
  have c6 : W3.cell? ⟨w.heap.size, 6, none⟩ = some (.slice A m c) := HV3.out.2.1.cell 6
  go_wp2_with fail
  refine (Check_any mi ma ra dn id nx A m c l W3 (HX.out.1.up HV3.out.1) (by omega) hmc).mono ?_
  rintro e w4 ⟨rfl, hb4⟩
  have hs4 := hb4.size
  have hE4 := (HV3.out.2.2.2.2.1.below HV3.out.2.2.2.2.2.2.2.2).below hb4
  have H4 := Lib.hid (And.intro (HV3.out.1.trans (hb4.mono HV3.out.1.size)) (And.intro (HV3.out.2.2.1.below hb4 (by omega)) (And.intro (HV3.out.2.2.2.1.below hb4 (by omega)) hE4)))
  clear c0 c1 c2 c3 c4 c5 c6 hb4 hE4
  have HLOW : Hid (w.heap.size + 2 ≤ w3.heap.size ∧ w3.heap.size < w4.heap.size) := ⟨by omega, by omega⟩
  obtain ⟨r, hr⟩ : ∃ r, chkL ⟨mi, ma, ra, dn, id, nx, l.map Ev.em⟩ = r := ⟨_, rfl⟩
  rw [hr]
  have HM4 := Lib.hid H4.out.2.2.2.evs
  have hmd4 : m4 ≤ d4 := HM4.out.2.2.1
  have hd4m := HM4.out.2.2.2
  have a0 : w4.cell? ⟨w3.heap.size, 0, none⟩ = some (.int .i64 mi) := H4.out.2.2.1.cell 0
  have a1 : w4.cell? ⟨w3.heap.size, 1, none⟩ = some (.int .i64 ma) := H4.out.2.2.1.cell 1
  have a2 : w4.cell? ⟨w3.heap.size, 2, none⟩ = some (.int .i64 ra) := H4.out.2.2.1.cell 2
  have a3 : w4.cell? ⟨w3.heap.size, 3, none⟩ = some (.bool dn) := H4.out.2.2.1.cell 3
  have a4 : w4.cell? ⟨w3.heap.size, 4, none⟩ = some (.int .i64 id) := H4.out.2.2.1.cell 4
  have a5 : w4.cell? ⟨w3.heap.size, 5, none⟩ = some (.int .i64 nx) := H4.out.2.2.1.cell 5
  have a6 : w4.cell? ⟨w3.heap.size, 6, none⟩ = some (.slice B4 m4 d4) := H4.out.2.2.1.cell 6
  by_cases hr0 : r = 0
  rotate_left 1
  · have hr1 : ((r : Int) != 0) = true := by rw [bne_iff_ne]; omega
    have hRR : R = (⟨mi, ma, ra, dn, id, nx, l.map Ev.em⟩, []) := by rw [← HR.out, if_pos (by rw [hr]; exact hr0)]
    clear HR hr
    have HR0 := Lib.hid hr0
    clear hr0
    subst hRR
    go_wp2_with (refine wpList_store_row rfl _ _ _ rfl (w.heap.size + 1) _ rfl rfl 26 _ H4.out.2.1 (by kernel_rfl) rfl (by simp [Value.oneCell']) ?_)
    refine bodyPost_ret (results_cell_tmp (t := 26) (q := 5) rfl _ _ (w.heap.size + 1) _ _ rfl (H4.out.2.1.setRow _) Try.underlying26 rfl (by kernel_rfl)) rfl ⟨below_setRow H4.out.1 (by omega) _, .slice B4 m4 d4, .slice none 0 0, rfl, ?_, PlV.nil _ _⟩
    have h1 := FlV.of_own H4.out.2.2.2 HV3.out.2.2.2.2.2.2.1
    rw [HEV.out.1] at h1
    exact (h1.keep (fun g hg _ => setRow_other _ _ _ _ (by omega)) (by simp)).low (by omega)
  subst hr0
  have hrr := HR.out
  rw [if_neg (by rw [hr]; simp)] at hrr
  clear HR
  have HR := Lib.hid hrr
  clear hrr hr
  have H0 : Hid (DvI w w4.heap.size w3.heap.size #[.int .i64 mi, .int .i64 ma, .int .i64 ra, .bool dn, .int .i64 id, .int .i64 nx, .slice B4 m4 d4] #[.int .i64 0, .int .i64 0, .int .i64 0, .bool false, .int .i64 0, .int .i64 0, .slice none 0 0] es 0 (.slice none 0 0) w4) := ⟨H4.out.2.1, H4.out.2.2.1, by simpa using World.ownsRow_nil w4 _ 37 1, H4.out.1, fun e he => (H4.out.2.2.2.ev e he).1⟩
  go_wp2_with fail
  clear a0 a1 a2 a3 a4 a5 a6
  go_loopw [7, 8, 10, 20] (fun u7 u8 _ u20 W => ∃ (k : Nat), k ≤ m4 ∧ u8 = .int .i64 (k : Nat) ∧ u20 = .int .i64 (k : Nat) ∧ DvI w w4.heap.size w3.heap.size #[.int .i64 mi, .int .i64 ma, .int .i64 ra, .bool dn, .int .i64 id, .int .i64 nx, .slice B4 m4 d4] #[.int .i64 0, .int .i64 0, .int .i64 0, .bool false, .int .i64 0, .int .i64 0, .slice none 0 0] es k u7 W ∧ (∀ j x, j < k → (es.map Ev.em)[j]? = some x → laterB now x = false) ∧ Below w4.heap.size w4 W) (fun _ _ _ u20 _ => m4 + 1 - (intOf u20).toNat)
  case atStart => exact ⟨0, by omega, rfl, rfl, H0.out, fun j x hj => absurd hj (by omega), Below.refl _ _⟩
  case round =>
    obtain ⟨k, hk, rfl, rfl, hI, hlate, hb⟩ := hrel
    obtain ⟨A7, c7, hu7, hca7, hcm7, _⟩ := own_slice hI.row
    subst hu7
    have HI := Lib.hid hI
    have HL := Lib.hid (And.intro hlate hb)
    have hwr := hI.bel.size
    have hwr4 := hb.size
    have hlt3 := hI.bo.lt
    have hes : es.length = m4 := HV3.out.2.2.2.2.2.2.2.1
    have HES := Lib.hid hes
    have hEw := HM4.out.1.up hb
    have q6 : wr.cell? ⟨w3.heap.size, 6, none⟩ = some (.slice B4 m4 d4) := hI.bo.cell 6
    have HEW := Lib.hid hEw
    have p0 : wr.cell? ⟨w3.heap.size, 0, none⟩ = some (.int .i64 mi) := hI.bo.cell 0
    have p1 : wr.cell? ⟨w3.heap.size, 1, none⟩ = some (.int .i64 ma) := hI.bo.cell 1
    have p2 : wr.cell? ⟨w3.heap.size, 2, none⟩ = some (.int .i64 ra) := hI.bo.cell 2
    have p3 : wr.cell? ⟨w3.heap.size, 3, none⟩ = some (.bool dn) := hI.bo.cell 3
    have p4 : wr.cell? ⟨w3.heap.size, 4, none⟩ = some (.int .i64 id) := hI.bo.cell 4
    have p5 : wr.cell? ⟨w3.heap.size, 5, none⟩ = some (.int .i64 nx) := hI.bo.cell 5
    clear hI hlate hb hes hEw
    by_cases hlt : k < m4
    · have hkl : k < es.length := by rw [HES.out]; exact hlt
      obtain ⟨b, off, hB, hbw, hc⟩ := HEW.out.cells (by omega)
      subst hB
      obtain ⟨x0, x1, x2⟩ := hc k _ (List.getElem?_eq_getElem hkl)
      have HS : Hid ((es.map Ev.em)[k]? = some es[k].em ∧ (es.take (k + 1)).map (fun e => encPl e.pl) = (es.take k).map (fun e => encPl e.pl) ++ [encPl es[k].pl]) := by
        refine ⟨?_, ?_⟩
        · rw [List.getElem?_map, List.getElem?_eq_getElem hkl]; rfl
        · rw [List.take_succ_eq_append_getElem hkl, List.map_append]; rfl
      clear hc
      generalize hlk : es[k] = ev at *
      obtain ⟨xt, xn, xA, xc, xp⟩ := ev
      dsimp only at x0 x1 x2
      dsimp only [Ev.em, Ev.pl, encPl] at HS
      clear hlk
      have ik : (k : Int) < m4 := by omega
      by_cases hgt : now < xt
      · have hq : atE (laterB now) (l.map Ev.em) = k := by rw [← HEV.out.1]; exact atE_some HL.out.1 HS.out.1 (by simpa [laterB] using hgt)
        have HRR : Hid (R = (⟨mi, ma, ra, dn, id, nx, (l.map Ev.em).drop k⟩, ((l.map Ev.em).take k).map Em.p)) := by show _ = _; rw [← HR.out, hq]
        have HED : Hid (Evs wr (some ⟨b, off + k * 3, none⟩) (m4 - k) (es.drop k) ∧ m4 - k ≤ d4 - k ∧ d4 - k ≤ maxLen ∧ ∀ ad, 0 < m4 - k → some (⟨b, off + k * 3, none⟩ : Addr) = some ad → w.heap.size + 2 ≤ ad.block ∧ ad.block < w3.heap.size) := by
          refine ⟨HEW.out.drop hlt, by omega, by omega, fun ad _ hA => ?_⟩
          injection hA with hA
          subst hA
          have h9 := HV3.out.2.2.2.2.1.own
          rw [HES.out] at h9
          have h1 := own_addr h9 ⟨b, off, none⟩ (by omega) rfl
          have h2 : b < w3.heap.size := by
            obtain ⟨g', e1⟩ : ∃ g', (Value.slice (some ⟨b, off, none⟩) m4 d4).ownBlock = some g' := ⟨b, rfl⟩
            have := own_lt HV3.out.2.2.2.2.1.own b rfl
            exact this
          exact ⟨by simp only at h1 ⊢; omega, h2⟩
        clear hq
        have hdk : (k : Int) ≤ d4 := by omega
        go_upto_region 13 with fail
        have HIx : Hid (DvI w w4.heap.size w3.heap.size #[.int .i64 mi, .int .i64 ma, .int .i64 ra, .bool dn, .int .i64 id, .int .i64 nx, .slice (some ⟨b, off, none⟩) m4 d4] #[.int .i64 0, .int .i64 0, .int .i64 0, .bool false, .int .i64 0, .int .i64 0, .slice none 0 0] es k (.slice A7 k c7) (wr.alloc (.cells #[.int .i64 xt, .int .i64 xn, .slice xA xp.length xc] 69))) := HI.out.alloc _
        have HEDx := Lib.hid (And.intro (HED.out.1.up ((Below.refl _ wr).alloc (Nat.le_refl _) (.cells #[.int .i64 xt, .int .i64 xn, .slice xA xp.length xc] 69))) HED.out.2)
        clear q6 p0 p1 p2 p3 p4 p5 HI HED
        generalize (wr.alloc (.cells #[.int .i64 xt, .int .i64 xn, .slice xA xp.length xc] 69)) = wz at *
        have q6 : wz.cell? ⟨w3.heap.size, 6, none⟩ = some (.slice (some ⟨b, off, none⟩) m4 d4) := HIx.out.bo.cell 6
        have f6 : wz.frozen? ⟨w3.heap.size, 6, none⟩ = false := HIx.out.bo.frozen 6
        go_upto_region 14 with fail
        have s1 : Blk (wz.setCell ⟨w3.heap.size, 6, none⟩ (.slice (some ⟨b, off + k * 3, none⟩) (m4 - k) (d4 - k))) w3.heap.size 26 #[.int .i64 mi, .int .i64 ma, .int .i64 ra, .bool dn, .int .i64 id, .int .i64 nx, .slice (some ⟨b, off + k * 3, none⟩) (m4 - k) (d4 - k)] := HIx.out.bo.set_ 6 _
        have b8 : Blk (wz.setCell ⟨w3.heap.size, 6, none⟩ (.slice (some ⟨b, off + k * 3, none⟩) (m4 - k) (d4 - k))) (w.heap.size + 1) 26 #[.int .i64 0, .int .i64 0, .int .i64 0, .bool false, .int .i64 0, .int .i64 0, .slice none 0 0] := HIx.out.b8.far (p := ⟨w3.heap.size, 6, none⟩) (by have := HLOW.out; simp only; omega) _
        have hbw : Below w.heap.size w (wz.setCell ⟨w3.heap.size, 6, none⟩ (.slice (some ⟨b, off + k * 3, none⟩) (m4 - k) (d4 - k))) := HIx.out.bel.setCell (by have := HLOW.out; simp only; omega) _
        have hkp : ∀ g, g ≠ w3.heap.size → (wz.setCell ⟨w3.heap.size, 6, none⟩ (.slice (some ⟨b, off + k * 3, none⟩) (m4 - k) (d4 - k))).heap[g]? = wz.heap[g]? := fun g hg => Below.heap_setCell _ _ _ _ (by simp only; exact hg)
        have hszk : (wz.setCell ⟨w3.heap.size, 6, none⟩ (.slice (some ⟨b, off + k * 3, none⟩) (m4 - k) (d4 - k))).heap.size = wz.heap.size := by simp
        have HK := Lib.hid (And.intro b8 (And.intro hbw (And.intro hkp hszk)))
        clear q6 f6 b8 hbw hkp hszk
        generalize (wz.setCell ⟨w3.heap.size, 6, none⟩ (.slice (some ⟨b, off + k * 3, none⟩) (m4 - k) (d4 - k))) = W2 at *
        have a0 : W2.cell? ⟨w3.heap.size, 0, none⟩ = some (.int .i64 mi) := s1.cell 0
        have a1 : W2.cell? ⟨w3.heap.size, 1, none⟩ = some (.int .i64 ma) := s1.cell 1
        have a2 : W2.cell? ⟨w3.heap.size, 2, none⟩ = some (.int .i64 ra) := s1.cell 2
        have a3 : W2.cell? ⟨w3.heap.size, 3, none⟩ = some (.bool dn) := s1.cell 3
        have a4 : W2.cell? ⟨w3.heap.size, 4, none⟩ = some (.int .i64 id) := s1.cell 4
        have a5 : W2.cell? ⟨w3.heap.size, 5, none⟩ = some (.int .i64 nx) := s1.cell 5
        have a6 : W2.cell? ⟨w3.heap.size, 6, none⟩ = some (.slice (some ⟨b, off + k * 3, none⟩) (m4 - k) (d4 - k)) := s1.cell 6
        clear s1
        go_wp2_with (refine wpList_store_row rfl _ _ _ rfl (w.heap.size + 1) _ rfl rfl 26 _ HK.out.1 (by kernel_rfl) rfl (by simp [Value.oneCell']) ?_)
        refine bodyPost_ret (results_cell_tmp (t := 26) (q := 5) rfl _ _ (w.heap.size + 1) _ _ rfl (HK.out.1.setRow _) Try.underlying26 rfl (by kernel_rfl)) rfl ?_
        exact deliv_end HIx.out HK.out.1 HK.out.2.1 HK.out.2.2.1 HK.out.2.2.2 HLOW.out HEV.out HRR.out HEDx.out
      · have HGT := Lib.hid hgt
        clear p0 p1 p2 p3 p4 p5
        go_upto_region 9 with fail
        have HIx : Hid (DvI w w4.heap.size w3.heap.size #[.int .i64 mi, .int .i64 ma, .int .i64 ra, .bool dn, .int .i64 id, .int .i64 nx, .slice (some ⟨b, off, none⟩) m4 d4] #[.int .i64 0, .int .i64 0, .int .i64 0, .bool false, .int .i64 0, .int .i64 0, .slice none 0 0] es k (.slice A7 k c7) (wr.alloc (.cells #[.int .i64 xt, .int .i64 xn, .slice xA xp.length xc] 69))) := HI.out.alloc _
        have bx := Blk.new wr 69 #[.int .i64 xt, .int .i64 xn, .slice xA xp.length xc]
        have hbz : Below w4.heap.size w4 (wr.alloc (.cells #[.int .i64 xt, .int .i64 xn, .slice xA xp.length xc] 69)) := HL.out.2.alloc HL.out.2.size _
        clear x0 x1 x2 q6
        generalize (wr.alloc (.cells #[.int .i64 xt, .int .i64 xn, .slice xA xp.length xc] 69)) = wz at *
        have x0 : wz.cell? ⟨wr.heap.size, 0, none⟩ = some (.int .i64 xt) := bx.cell 0
        have x2 : wz.cell? ⟨wr.heap.size, 2, none⟩ = some (.slice xA xp.length xc) := bx.cell 2
        have HBZ := Lib.hid hbz
        have hsz4 := hbz.size
        have hr2 := own_alloc HIx.out.row (.cells #[.slice xA xp.length xc] 37)
        have her := elem_reads wz #[.slice xA xp.length xc] 37
        have hsz : (wz.alloc (.cells #[.slice xA xp.length xc] 37)).heap.size = wz.heap.size + 1 := by simp
        clear bx hbz
        go_wp2_with (at_builtin; go_must (refine wpList_append_any (wz.alloc (.cells #[.slice xA xp.length xc] 37)) rfl (.tmp 28) (.tmp 31) _ rfl w4.heap.size 37 i2 _ 1 24 Try.underlying53 HI0.out.1 HI0.out.2.1 HI0.out.2.2.1 HI0.out.2.2.2 rfl (by omega) (.slice A7 k c7) k ((es.take k).map (fun e => encPl e.pl)) rfl hr2 (wz.heap.size + 1) (some ⟨wz.heap.size, 0, none⟩) 1 1 [.slice xA xp.length xc] rfl her (by simp [Value.oneCell']) (by simp only [maxLen]; omega) (by omega) (by omega) ?_; intro v9 w9 ho9 hg9 hv9))
        go_roundw
        case rel =>
          have hp := (HIx.out.alloc (.cells #[.slice xA xp.length xc] 37)).push (v := v9) (W' := w9) (by have h2 : (es.take (k + 1)).map (fun e => encPl e.pl) = (es.take k).map (fun e => encPl e.pl) ++ [.slice xA xp.length xc] := HS.out.2; rw [h2]; exact ho9) hg9 HLOW.out (fun e he ad h0 hA => by have := HEV.out.2 e he ad h0 hA; have := HLOW.out; omega)
          refine ⟨k + 1, by omega, by go_num, by go_num, hp, fun j x hj hx => ?_, (HBZ.out.alloc HBZ.out.size _).grown hg9 (by omega) (fun g hg => own_block_ge HIx.out.row g hg)⟩
          rcases Nat.lt_or_ge j k with h | h
          · exact HL.out.1 j x h hx
          · obtain rfl : j = k := by omega
            rw [HS.out.1] at hx
            injection hx with hx
            rw [← hx]
            simpa [laterB] using HGT.out
        case measure => simp [intOf]; omega
    · obtain rfl : k = m4 := by omega
      have hq : atE (laterB now) (l.map Ev.em) = k := by rw [← HEV.out.1, atE_none (by rw [HES.out]; exact HL.out.1), HES.out]
      have HRR : Hid (R = (⟨mi, ma, ra, dn, id, nx, (l.map Ev.em).drop k⟩, ((l.map Ev.em).take k).map Em.p)) := by show _ = _; rw [← HR.out, hq]
      obtain ⟨AZ, hAZ⟩ : ∃ AZ, (if d4 = k then B4 else Option.map (fun x => x.add (k * 3)) B4) = AZ := ⟨_, rfl⟩
      have HED : Hid (Evs wr AZ 0 (es.drop k) ∧ 0 ≤ d4 - k ∧ d4 - k ≤ maxLen ∧ ∀ ad, 0 < 0 → AZ = some ad → w.heap.size + 2 ≤ ad.block ∧ ad.block < w3.heap.size) := by
        have hd0 : es.drop k = [] := List.drop_of_length_le (by rw [HES.out]; exact Nat.le_refl _)
        rw [hd0]
        exact ⟨⟨⟨rfl, fun h => absurd h (by omega)⟩, nofun⟩, by omega, by omega, fun ad h => absurd h (by omega)⟩
      clear hq p0 p1 p2 p3 p4 p5
      have hdk : (k : Int) ≤ d4 := by omega
      have f6 : wr.frozen? ⟨w3.heap.size, 6, none⟩ = false := HI.out.bo.frozen 6
      go_upto_region 14 with fail
      have s1 : Blk (wr.setCell ⟨w3.heap.size, 6, none⟩ (.slice AZ 0 (d4 - k))) w3.heap.size 26 #[.int .i64 mi, .int .i64 ma, .int .i64 ra, .bool dn, .int .i64 id, .int .i64 nx, .slice AZ 0 (d4 - k)] := HI.out.bo.set_ 6 _
      have b8 : Blk (wr.setCell ⟨w3.heap.size, 6, none⟩ (.slice AZ 0 (d4 - k))) (w.heap.size + 1) 26 #[.int .i64 0, .int .i64 0, .int .i64 0, .bool false, .int .i64 0, .int .i64 0, .slice none 0 0] := HI.out.b8.far (p := ⟨w3.heap.size, 6, none⟩) (by have := HLOW.out; simp only; omega) _
      have hbw : Below w.heap.size w (wr.setCell ⟨w3.heap.size, 6, none⟩ (.slice AZ 0 (d4 - k))) := HI.out.bel.setCell (by have := HLOW.out; simp only; omega) _
      have hkp : ∀ g, g ≠ w3.heap.size → (wr.setCell ⟨w3.heap.size, 6, none⟩ (.slice AZ 0 (d4 - k))).heap[g]? = wr.heap[g]? := fun g hg => Below.heap_setCell _ _ _ _ (by simp only; exact hg)
      have hszk : (wr.setCell ⟨w3.heap.size, 6, none⟩ (.slice AZ 0 (d4 - k))).heap.size = wr.heap.size := by simp
      have HK := Lib.hid (And.intro b8 (And.intro hbw (And.intro hkp hszk)))
      clear q6 f6 b8 hbw hkp hszk
      generalize (wr.setCell ⟨w3.heap.size, 6, none⟩ (.slice AZ 0 (d4 - k))) = W2 at *
      have a0 : W2.cell? ⟨w3.heap.size, 0, none⟩ = some (.int .i64 mi) := s1.cell 0
      have a1 : W2.cell? ⟨w3.heap.size, 1, none⟩ = some (.int .i64 ma) := s1.cell 1
      have a2 : W2.cell? ⟨w3.heap.size, 2, none⟩ = some (.int .i64 ra) := s1.cell 2
      have a3 : W2.cell? ⟨w3.heap.size, 3, none⟩ = some (.bool dn) := s1.cell 3
      have a4 : W2.cell? ⟨w3.heap.size, 4, none⟩ = some (.int .i64 id) := s1.cell 4
      have a5 : W2.cell? ⟨w3.heap.size, 5, none⟩ = some (.int .i64 nx) := s1.cell 5
      have a6 : W2.cell? ⟨w3.heap.size, 6, none⟩ = some (.slice AZ 0 (d4 - k)) := s1.cell 6
      clear s1
      go_wp2_with (refine wpList_store_row rfl _ _ _ rfl (w.heap.size + 1) _ rfl rfl 26 _ HK.out.1 (by kernel_rfl) rfl (by simp [Value.oneCell']) ?_)
      refine bodyPost_ret (results_cell_tmp (t := 26) (q := 5) rfl _ _ (w.heap.size + 1) _ _ rfl (HK.out.1.setRow _) Try.underlying26 rfl (by kernel_rfl)) rfl ?_
      exact deliv_end HI.out HK.out.1 HK.out.2.1 HK.out.2.2.1 HK.out.2.2.2 HLOW.out HEV.out HRR.out HED.out
end Go.Proofs.Ytjaoppopfeonhaa
