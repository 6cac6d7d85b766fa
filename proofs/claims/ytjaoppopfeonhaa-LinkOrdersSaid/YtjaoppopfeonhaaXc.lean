/- The walk of run. Conditions: what fit says, sizes as named. -/
import Derived.Test.YtjaoppopfeonhaaXe
import Derived.Test.YtjaoppopfeonhaaLibZ
namespace Go.Proofs.Ytjaoppopfeonhaa
open Go.RowKit
theorem results_cell_tmp4 {P : Program} {fn : Func} {p q s t x : Tmp} {ty : TypeId} (h : fn.results = #[.cell p ty, .tmp q, .tmp s, .tmp t, .tmp x]) (tmps : Array Value) (w : World) (g : Nat) (tt : TypeId) (cs : Array Value) (d : TypeDesc)
    (hp : tmps.getD p undef = .pointer (some ⟨g, 0, none⟩)) (hg : Blk w g tt cs)
    (hu : P.underlying ty = some d) (hd : (match d with | .struct _ | .array _ _ => true | _ => false) = true) (hi : (P.info? ty).map (·.size) = some cs.size) :
    (results fn tmps).run P w = .ok (.tuple #[.agg cs, tmps.getD q undef, tmps.getD s undef, tmps.getD t undef, tmps.getD x undef]) w := by
  have hp' : tmps[p]?.getD undef = .pointer (some ⟨g, 0, none⟩) := by simpa using hp
  simp [results, h, hp', asAddr, run_loadVar_row w g tt ty cs (0, 0) d hg hu hd hi]
theorem apart_nil (u : Value) : Apart (.slice none 0 0) u := fun b h => by cases h
theorem farE_nil (es : List Ev) : FarE (.slice none 0 0) es := fun _ _ _ _ _ h => by cases h
theorem farA_nil (A : Option Addr) (n : Nat) : FarA (.slice none 0 0) A n := fun _ _ _ h => by cases h
/-- what run answers -/
structure RunV (w : World) (r : RunS) (e : Ending) (w' : World) : Prop where
  bel : Below w.heap.size w w'
  val : ∃ v es u3 u4 u5, e = .returned (.tuple #[.agg (lkV r.l v), u3, u4, u5, .bool true]) ∧ OwnE w' w.heap.size v es ∧ NewP w.heap.size es ∧ es.map Ev.em = r.l.fl ∧ Tri w' w.heap.size es none 0 u3 u4 u5 r.tm r.id r.cp
set_option linter.unusedSimpArgs false in
set_option maxRecDepth 100000 in
set_option maxHeartbeats 16000000 in
theorem run_any (mi ma ra : Int) (As : Option Addr) (ns c1 : Nat) (st : List Sp) (Ac : Option Addr) (cc : Nat) (cs : List Int) (w : World) (hfit : 0 ≤ mi ∧ mi ≤ ma ∧ ma ≤ 100 ∧ 0 ≤ ra ∧ ra ≤ 100) (hns : ns ≤ 20) (hnc : cs.length ≤ 100)
    (hS : Reads w w.heap.size 2 As ns (st.flatMap encSp)) (hst : ∀ x ∈ st, x.s < 256 ∧ x.t < 256) (hC : Reads w w.heap.size 1 Ac cs.length (i64s cs)) (hcc : cs.length ≤ cc) (hcm : cc ≤ maxLen) :
    Calls Try.prog 22 #[.agg #[.int .i64 mi, .int .i64 ma, .int .i64 ra, .slice As ns c1, .slice Ac cs.length cc]] w (RunV w (runK mi ma ra cs st ns)) := by
  obtain ⟨i0, hi0, hz0, hz1, hz2⟩ := info_parts info3b
  have HI := Lib.hid (And.intro hi0 (And.intro hz0 (And.intro hz1 hz2)))
  clear hi0 hz0 hz1 hz2
  have hlen : st.length = ns := hS.count (fun _ => rfl) (by omega)
  have hb0 : Below w.heap.size w ((w.alloc (.cells #[.int .i64 mi, .int .i64 ma, .int .i64 ra, .slice As ns c1, .slice Ac cs.length cc] 49)).alloc (.cells #[.int .i64 0, .int .i64 0, .int .i64 0, .bool false, .int .i64 0, .int .i64 0, .slice none 0 0] 26)) := (((Below.refl _ _).alloc (Nat.le_refl _) _).alloc (by simp) _)
  have g0 : Blk ((w.alloc (.cells #[.int .i64 mi, .int .i64 ma, .int .i64 ra, .slice As ns c1, .slice Ac cs.length cc] 49)).alloc (.cells #[.int .i64 0, .int .i64 0, .int .i64 0, .bool false, .int .i64 0, .int .i64 0, .slice none 0 0] 26)) w.heap.size 49 #[.int .i64 mi, .int .i64 ma, .int .i64 ra, .slice As ns c1, .slice Ac cs.length cc] := ((Blk.new w 49 #[.int .i64 mi, .int .i64 ma, .int .i64 ra, .slice As ns c1, .slice Ac cs.length cc]).alloc _)
  have g1 : Blk ((w.alloc (.cells #[.int .i64 mi, .int .i64 ma, .int .i64 ra, .slice As ns c1, .slice Ac cs.length cc] 49)).alloc (.cells #[.int .i64 0, .int .i64 0, .int .i64 0, .bool false, .int .i64 0, .int .i64 0, .slice none 0 0] 26)) (w.alloc (.cells #[.int .i64 mi, .int .i64 ma, .int .i64 ra, .slice As ns c1, .slice Ac cs.length cc] 49)).heap.size 26 #[.int .i64 0, .int .i64 0, .int .i64 0, .bool false, .int .i64 0, .int .i64 0, .slice none 0 0] := (Blk.new (w.alloc (.cells #[.int .i64 mi, .int .i64 ma, .int .i64 ra, .slice As ns c1, .slice Ac cs.length cc] 49)) 26 #[.int .i64 0, .int .i64 0, .int .i64 0, .bool false, .int .i64 0, .int .i64 0, .slice none 0 0])
  simp only [World.size_alloc] at g0 g1
  have hs0 : ((w.alloc (.cells #[.int .i64 mi, .int .i64 ma, .int .i64 ra, .slice As ns c1, .slice Ac cs.length cc] 49)).alloc (.cells #[.int .i64 0, .int .i64 0, .int .i64 0, .bool false, .int .i64 0, .int .i64 0, .slice none 0 0] 26)).heap.size = w.heap.size + 2 := by simp
  have hce : cfgE mi ma ra = 0 := by unfold cfgE; rw [if_neg (by omega)]
  have hnew : newC mi ma ra = lkC mi ma ra false 0 0 none 0 0 := by unfold newC; rw [if_pos hce]
  have HOKR : Hid (∀ k, k ≤ ns → OkR mi ma ra cs.length k (runK mi ma ra cs st k)) := fun k hk => runK_ok hfit (by omega) k (by omega)
  have HSX := Lib.hid (And.intro hS (And.intro hst (And.intro hC (And.intro hlen hfit))))
  clear hS hst hC hlen hfit
  go_enter Try.func22, Try.ntmps22
  go_upto_region 1 with fail
  generalize ((w.alloc (.cells #[.int .i64 mi, .int .i64 ma, .int .i64 ra, .slice As ns c1, .slice Ac cs.length cc] 49)).alloc (.cells #[.int .i64 0, .int .i64 0, .int .i64 0, .bool false, .int .i64 0, .int .i64 0, .slice none 0 0] 26)) = V at *
  have c0 : V.cell? ⟨w.heap.size, 0, none⟩ = some (.int .i64 mi) := g0.cell 0
  have c1' : V.cell? ⟨w.heap.size, 1, none⟩ = some (.int .i64 ma) := g0.cell 1
  have c2 : V.cell? ⟨w.heap.size, 2, none⟩ = some (.int .i64 ra) := g0.cell 2
  go_wp2_with fail
  refine (New_any mi ma ra V).mono ?_
  rintro e w1 ⟨rfl, hb1⟩
  rw [hce, hnew]
  have G0 := g0.below hb1 (by omega)
  have G1 := g1.below hb1 (by omega)
  have hs1 : w.heap.size + 2 ≤ w1.heap.size := by have := hb1.size; omega
  have hb1w := hb0.trans (hb1.mono hb0.size)
  clear c0 c1' c2 g0 g1 hb0 hb1 hs0 hce hnew
  have HG1 := Lib.hid G1
  unfold lkC
  go_upto_region 4 with (refine wpList_store_row rfl _ _ _ rfl (w.heap.size + 1) _ rfl rfl 26 _ HG1.out (by kernel_rfl) rfl (by simp [Value.oneCell']) ?_)
  have hR0 : Hid (RnI w #[.int .i64 mi, .int .i64 ma, .int .i64 ra, .slice As ns c1, .slice Ac cs.length cc] (w.heap.size + 2) ⟨mi, ma, ra, false, 0, 0, []⟩ (.slice none 0 0) [] Ac cc cs (.slice none 0 0) (.slice none 0 0) (.slice none 0 0) [] [] [] (w1.setRow (w.heap.size + 1) #[.int .i64 mi, .int .i64 ma, .int .i64 ra, .bool false, .int .i64 0, .int .i64 0, .slice none 0 0])) := by
    have hbw := below_setRow hb1w (g := w.heap.size + 1) (by omega) #[.int .i64 mi, .int .i64 ma, .int .i64 ra, .bool false, .int .i64 0, .int .i64 0, .slice none 0 0]
    exact ⟨G0.grown (grown_setRow _ _ _) (by intro e; injection e with e; omega), HG1.out.setRow _, OwnE.nil _ _, nofun, rfl, ⟨World.ownsRow_nil _ _ _ _, World.ownsRow_nil _ _ _ _, World.ownsRow_nil _ _ _ _, apart_nil _, apart_nil _, apart_nil _, farE_nil _, farE_nil _, farE_nil _, farA_nil _ _, farA_nil _ _, farA_nil _ _⟩, HSX.out.2.2.1.up hbw, hcc, hcm, fun ad h0 hA => by obtain ⟨ad', hA', hb, _⟩ := HSX.out.2.2.1.2 h0; rw [hA] at hA'; cases hA'; omega, hbw⟩
  generalize w1.setRow (w.heap.size + 1) #[.int .i64 mi, .int .i64 ma, .int .i64 ra, .bool false, .int .i64 0, .int .i64 0, .slice none 0 0] = V2 at *
  have c4 : V2.cell? ⟨w.heap.size, 4, none⟩ = some (.slice Ac cs.length cc) := hR0.out.b1.cell 4
  clear G0 HG1 hb1w hs1
  go_quiet (fail)
  generalize hV3 : V2.drewN nq = V3 at *
  have hR1 : RnI w #[.int .i64 mi, .int .i64 ma, .int .i64 ra, .slice As ns c1, .slice Ac cs.length cc] (w.heap.size + 2) ⟨mi, ma, ra, false, 0, 0, []⟩ (.slice none 0 0) [] Ac cc cs (.slice none 0 0) (.slice none 0 0) (.slice none 0 0) [] [] [] V3 := hR0.out.below (by rw [← hV3]; exact below_drewN (Below.refl _ V2) nq)
  clear hV3 hR0
  have HR1 := Lib.hid hR1
  clear hR1
  go_wp2_with fail
  go_loopw [3, 4, 5, 8, 9, 10] (fun u3 u4 u5 u8 u9 u10 W => ∃ (k : Nat) (v : Value) (es : List Ev) (A : Option Addr) (c : Nat), k ≤ ns ∧ u10 = .int .i64 (k : Nat) ∧ u8 = .int .i64 (runK mi ma ra cs st k).now ∧ u9 = .slice A (runK mi ma ra cs st k).rs.length c ∧ RnI w #[.int .i64 mi, .int .i64 ma, .int .i64 ra, .slice As ns c1, .slice Ac cs.length cc] (w.heap.size + 2) (runK mi ma ra cs st k).l v es A c (runK mi ma ra cs st k).rs u3 u4 u5 (runK mi ma ra cs st k).tm (runK mi ma ra cs st k).id (runK mi ma ra cs st k).cp W) (fun _ _ _ _ _ u10 _ => ns + 1 - (intOf u10).toNat)
  case atStart => exact ⟨0, .slice none 0 0, [], Ac, cc, by omega, rfl, rfl, rfl, HR1.out⟩
  case round =>
    obtain ⟨k, v, es, A, c, hk, rfl, rfl, rfl, hI⟩ := hrel
    have hok := HOKR.out k hk
    have HSTEP : Hid (∀ x, st[k]? = some x → runK mi ma ra cs st (k + 1) = stepR (runK mi ma ra cs st k) k x) := fun x hx => runK_succ hx
    obtain ⟨r, hr⟩ : ∃ r, runK mi ma ra cs st k = r := ⟨_, rfl⟩
    have HRR := Lib.hid hr
    rw [hr] at hI hok HSTEP ⊢
    clear hr
    obtain ⟨Av, cv, rfl⟩ := hI.own.form
    have b1 : wr.cell? ⟨w.heap.size, 3, none⟩ = some (.slice As ns c1) := hI.b1.cell 3
    have HI1 := Lib.hid hI
    have HOK := Lib.hid hok
    clear hI hok
    by_cases hkn : k < ns
    · have hkn' : (k : Int) < ns := by omega
      have hkl : k < st.length := by have := HSX.out.2.2.2.1; omega
      obtain ⟨b, off, rfl, hbw, hcs⟩ := (HSX.out.1.up HI1.out.bel).elems (E := encSp) (fun _ => rfl) (by omega) (by omega)
      have d0 := hcs k hkl 0 _ rfl
      have d1 := hcs k hkl 1 _ rfl
      have hxx := HSX.out.2.1 _ (List.getElem_mem hkl)
      have hstep := HSTEP.out _ (List.getElem?_eq_getElem hkl)
      have hso := step_ok HOK.out st[k] (by omega) HSX.out.2.2.2.2.2.2.1
      have hnb := endR_b HOK.out st[k]
      have hnr : nowR r st[k] = r.now + ((st[k].t % 20 : Nat) : Int) := rfl
      generalize st[k] = x at *
      obtain ⟨xs, xt⟩ := x
      dsimp only at d0 d1 hxx hnr
      rw [Nat.add_zero] at d0
      rw [← Nat.add_assoc] at d1
      have hrem : (xt : Int).tmod 20 = ((xt % 20 : Nat) : Int) := by rw [Int.tmod_eq_emod_of_nonneg (by omega)]; simp
      obtain ⟨q, hq⟩ : ∃ q, xt % 20 = q := ⟨_, rfl⟩
      rw [hq] at hnr hrem
      have hq20 : q < 20 := by rw [← hq]; exact Nat.mod_lt _ (by omega)
      have kwq : IntKind.u8.wrap (q : Int) = (q : Int) := IntWalk.u8_in _ (by omega)
      have hn0 := HOK.out.now0
      have hn1 := HOK.out.now
      have kwn : IntKind.i64.wrap (r.now + (q : Int)) = r.now + (q : Int) := IntWalk.i64_in _ (by omega)
      obtain ⟨NW, hNW⟩ : ∃ NW, nowR r ⟨xs, xt⟩ = NW := ⟨_, rfl⟩
      have HNW := Lib.hid (And.intro hNW (And.intro hstep (And.intro hso hnb)))
      rw [hNW] at hnr
      clear hNW hstep hso hnb hcs
      have hlr := HOK.out.lrs
      go_wp2_with fail
      refine (Decide_any A c r.rs 3 wr HI1.out.rd HI1.out.rc HI1.out.rm (by omega) (by omega) (by omega)).mono ?_
      rintro e X ⟨⟨v12, rfl, hv12⟩, hbX⟩
      clear hv12
      have hsX := hbX.size
      have HIX := Lib.hid (HI1.out.below hbX)
      clear HI1
      have hdb := decV_b r.rs (n := 3) (by omega)
      obtain ⟨hw, hhw⟩ : ∃ hw, decV r.rs 3 = hw := ⟨_, rfl⟩
      rw [hhw] at hdb ⊢
      have HW := Lib.hid hhw
      clear hhw
      go_upto_region 10 with fail
      obtain ⟨SR, hSR⟩ : ∃ SR, sendR r k ⟨xs, xt⟩ = SR := ⟨_, rfl⟩
      have d0X := (hbX.cell (p := ⟨b, off + k * 2, none⟩) (by exact hbw)).trans d0
      have d1X := (hbX.cell (p := ⟨b, off + k * 2 + 1, none⟩) (by exact hbw)).trans d1
      have b1X : X.cell? ⟨w.heap.size, 3, none⟩ = some (.slice (some ⟨b, off, none⟩) ns c1) := HIX.out.b1.cell 3
      have e0 : X.cell? ⟨w.heap.size + 1, 0, none⟩ = some (.int .i64 r.l.mi) := HIX.out.b2.cell 0
      have e1 : X.cell? ⟨w.heap.size + 1, 1, none⟩ = some (.int .i64 r.l.ma) := HIX.out.b2.cell 1
      have e2 : X.cell? ⟨w.heap.size + 1, 2, none⟩ = some (.int .i64 r.l.ra) := HIX.out.b2.cell 2
      have e3 : X.cell? ⟨w.heap.size + 1, 3, none⟩ = some (.bool r.l.dn) := HIX.out.b2.cell 3
      have e4 : X.cell? ⟨w.heap.size + 1, 4, none⟩ = some (.int .i64 r.l.idle) := HIX.out.b2.cell 4
      have e5 : X.cell? ⟨w.heap.size + 1, 5, none⟩ = some (.int .i64 r.l.nx) := HIX.out.b2.cell 5
      have e6 : X.cell? ⟨w.heap.size + 1, 6, none⟩ = some (.slice Av es.length cv) := HIX.out.b2.cell 6
      have hl0 : w.heap.size < X.heap.size := HIX.out.b1.lt
      have hl1 : w.heap.size + 1 < X.heap.size := HIX.out.b2.lt
      have hbX2 : b < X.heap.size := by omega
      obtain ⟨pp, hpp⟩ : ∃ pp, payM xs k = pp := ⟨_, rfl⟩
      have KP : Hid (∀ W, Calls Try.prog 24 #[.agg #[.int .u8 (xs : Nat), .int .u8 (xt : Nat)], .int .i64 (k : Nat)] W fun e w' => (∃ v, e = .returned v ∧ w'.ownsRow W.heap.size 5 1 v pp.length (u8s pp)) ∧ Below W.heap.size W w') := fun W => by rw [← hpp]; exact payload_any xs xt k W hxx.1 (by omega)
      have KS : Hid (∀ W Ap cp, Below X.heap.size X W → Reads W W.heap.size 1 Ap pp.length (u8s pp) → Calls Try.prog 18 #[.agg (lkC r.l.mi r.l.ma r.l.ra r.l.dn r.l.idle r.l.nx Av es.length cv), .int .i64 (r.now + (q : Int)), .slice Ap pp.length cp, .slice A r.rs.length c] W (New.SendR W SR)) := by
        intro W Ap cp hW hP
        subst hpp
        rw [← hnr]
        have hE := HIX.out.own.evs
        have h1 := HOK.out.fl
        have h2 : es.length = r.l.fl.length := by rw [← HIX.out.em, List.length_map]
        have hk9 := New.Send_any r.l.mi r.l.ma r.l.ra r.l.dn r.l.idle r.l.nx Av es.length cv es NW Ap cp (payM xs k) A c r.rs W (hE.1.up hW) (by omega) hE.2.2.1 hP (by rw [pay_len]; omega) (HIX.out.rd.up hW) (by omega) (fun e he => by
          have h3 := HOK.out.ok.each e.em (by rw [← HIX.out.em]; exact List.mem_map_of_mem he)
          have h4 := (wrong_fact h3).2.2.2.2
          have h5 : e.em.p = e.p := rfl
          rw [h5] at h4
          omega)
        rw [HIX.out.em] at hk9
        have hSR' : sendM ⟨r.l.mi, r.l.ma, r.l.ra, r.l.dn, r.l.idle, r.l.nx, r.l.fl⟩ NW (payM xs k) r.rs = SR := by rw [← hSR, ← HNW.out.1]; rfl
        rw [hSR'] at hk9
        exact hk9
      have HSR : Hid (sendR r k ⟨xs, xt⟩ = SR) := hSR
      have HER : Hid (SR.e = 0) := by rw [← hSR]; exact HNW.out.2.2.1.2.1
      clear hSR b1 d0 d1
      have HPP := Lib.hid hpp
      clear hpp
      unfold lkC at KS
      go_cut [13, 14, 15] from 50 to 65 (fun s13 s14 s15 wx => ∃ (g : Nat) (v1 : Value) (es1 : List Ev) (A1 : Option Addr) (c1' : Nat), s13 = .pointer (some ⟨g, 0, none⟩) ∧ s14 = .slice A1 SR.r.length c1' ∧ s15 = .int .i64 0 ∧ SentS X SR g v1 es1 A1 c1' wx)
      case first =>
        have hk256 : k < 256 := by omega
        have hX0 : Below X.heap.size X X.drew := (Below.refl _ X).drew
        refine wp_pan (Pc := fun _ _ _ => False) (fun _ _ _ h => h.elim) ?_
        refine wp_region_tail_lit (S := fun V => V.cell? ⟨w.heap.size + 1, 0, none⟩ = some (.int .i64 r.l.mi) ∧ V.cell? ⟨w.heap.size + 1, 1, none⟩ = some (.int .i64 r.l.ma) ∧ V.cell? ⟨w.heap.size + 1, 2, none⟩ = some (.int .i64 r.l.ra) ∧ V.cell? ⟨w.heap.size + 1, 3, none⟩ = some (.bool r.l.dn) ∧ V.cell? ⟨w.heap.size + 1, 4, none⟩ = some (.int .i64 r.l.idle) ∧ V.cell? ⟨w.heap.size + 1, 5, none⟩ = some (.int .i64 r.l.nx) ∧ V.cell? ⟨w.heap.size + 1, 6, none⟩ = some (.slice Av es.length cv) ∧ V.cell? ⟨w.heap.size, 3, none⟩ = some (.slice (some ⟨b, off, none⟩) ns c1) ∧ V.cell? ⟨b, off + k * 2, none⟩ = some (.int .u8 (xs : Nat)) ∧ V.cell? ⟨b, off + k * 2 + 1, none⟩ = some (.int .u8 (xt : Nat))) 18 (by kernel_rfl) (by kernel_rfl) ⟨((Below.refl _ X).cell (p := ⟨w.heap.size + 1, 0, none⟩) hl1).trans e0, ((Below.refl _ X).cell (p := ⟨w.heap.size + 1, 1, none⟩) hl1).trans e1, ((Below.refl _ X).cell (p := ⟨w.heap.size + 1, 2, none⟩) hl1).trans e2, ((Below.refl _ X).cell (p := ⟨w.heap.size + 1, 3, none⟩) hl1).trans e3, ((Below.refl _ X).cell (p := ⟨w.heap.size + 1, 4, none⟩) hl1).trans e4, ((Below.refl _ X).cell (p := ⟨w.heap.size + 1, 5, none⟩) hl1).trans e5, ((Below.refl _ X).cell (p := ⟨w.heap.size + 1, 6, none⟩) hl1).trans e6, ((Below.refl _ X).cell (p := ⟨w.heap.size, 3, none⟩) hl0).trans b1X, ((Below.refl _ X).cell (p := ⟨b, off + k * 2, none⟩) hbX2).trans d0X, ((Below.refl _ X).cell (p := ⟨b, off + k * 2 + 1, none⟩) hbX2).trans d1X⟩ (fun hHeld => ?_)
        simp only [List.take, List.drop]
        refine wpAnyH_take (i := 0) (oi := _) (v := ?_) rfl (by kernel_rfl) (by kernel_rfl) (by kernel_rfl) (fun _ _ _ h => h) (Or.inl ⟨by rfl, ?_⟩) (by assumption) ?_
        rotate_left 1
        · (intro w9 hS9; (try dsimp only at hS9); go_simp <;> with_reducible rfl)
        try simp only [List.getElem_toArray, List.getElem_cons_succ, List.getElem_cons_zero, Act.put, List.setIfInBounds_toArray, List.set_cons_zero, List.set_cons_succ]
        refine wpAnyH_take (i := 1) (oi := _) (v := ?_) rfl (by kernel_rfl) (by kernel_rfl) (by kernel_rfl) (fun _ _ _ h => h) (Or.inl ⟨by rfl, ?_⟩) (by assumption) ?_
        rotate_left 1
        · (intro w9 hS9; (try dsimp only at hS9); go_simp <;> with_reducible rfl)
        try simp only [List.getElem_toArray, List.getElem_cons_succ, List.getElem_cons_zero, Act.put, List.setIfInBounds_toArray, List.set_cons_zero, List.set_cons_succ]
        refine wpAnyH_take (i := 2) (oi := _) (v := ?_) rfl (by kernel_rfl) (by kernel_rfl) (by kernel_rfl) (fun _ _ _ h => h) (Or.inl ⟨by rfl, ?_⟩) (by assumption) ?_
        rotate_left 1
        · (intro w9 hS9; (try dsimp only at hS9); go_simp <;> with_reducible rfl)
        try simp only [List.getElem_toArray, List.getElem_cons_succ, List.getElem_cons_zero, Act.put, List.setIfInBounds_toArray, List.set_cons_zero, List.set_cons_succ]
        refine wpAnyH_take (i := 3) (oi := _) (v := ?_) rfl (by kernel_rfl) (by kernel_rfl) (by kernel_rfl) (fun _ _ _ h => h) (Or.inl ⟨by rfl, ?_⟩) (by assumption) ?_
        rotate_left 1
        · (intro w9 hS9; (try dsimp only at hS9); go_simp <;> with_reducible rfl)
        try simp only [List.getElem_toArray, List.getElem_cons_succ, List.getElem_cons_zero, Act.put, List.setIfInBounds_toArray, List.set_cons_zero, List.set_cons_succ]
        refine wpAnyH_take (i := 4) (oi := _) (v := ?_) rfl (by kernel_rfl) (by kernel_rfl) (by kernel_rfl) (fun _ _ _ h => h) (Or.inl ⟨by rfl, ?_⟩) (by assumption) ?_
        rotate_left 1
        · (intro w9 hS9; (try dsimp only at hS9); go_simp <;> with_reducible rfl)
        try simp only [List.getElem_toArray, List.getElem_cons_succ, List.getElem_cons_zero, Act.put, List.setIfInBounds_toArray, List.set_cons_zero, List.set_cons_succ]
        refine wpAnyH_take (i := 5) (oi := _) (v := ?_) rfl (by kernel_rfl) (by kernel_rfl) (by kernel_rfl) (fun _ _ _ h => h) (Or.inl ⟨by rfl, ?_⟩) (by assumption) ?_
        rotate_left 1
        · (intro w9 hS9; (try dsimp only at hS9); go_simp <;> with_reducible rfl)
        try simp only [List.getElem_toArray, List.getElem_cons_succ, List.getElem_cons_zero, Act.put, List.setIfInBounds_toArray, List.set_cons_zero, List.set_cons_succ]
        refine wpAnyH_take (i := 6) (oi := _) (v := ?_) rfl (by kernel_rfl) (by kernel_rfl) (by kernel_rfl) (fun _ _ _ h => h) (Or.inl ⟨by rfl, ?_⟩) (by assumption) ?_
        rotate_left 1
        · (intro w9 hS9; (try dsimp only at hS9); go_simp <;> with_reducible rfl)
        try simp only [List.getElem_toArray, List.getElem_cons_succ, List.getElem_cons_zero, Act.put, List.setIfInBounds_toArray, List.set_cons_zero, List.set_cons_succ]
        refine wpAnyH_take (i := 7) (oi := _) (v := ?_) rfl (by kernel_rfl) (by kernel_rfl) (by kernel_rfl) (fun _ _ _ h => h) (Or.inl ⟨by rfl, ?_⟩) (by assumption) ?_
        rotate_left 1
        · (intro w9 hS9; (try dsimp only at hS9); go_simp <;> with_reducible rfl)
        try simp only [List.getElem_toArray, List.getElem_cons_succ, List.getElem_cons_zero, Act.put, List.setIfInBounds_toArray, List.set_cons_zero, List.set_cons_succ]
        refine wpAnyH_take (i := 9) (oi := _) (v := ?_) rfl (by kernel_rfl) (by kernel_rfl) (by kernel_rfl) (fun _ _ _ h => h) (Or.inl ⟨by rfl, ?_⟩) (by assumption) ?_
        rotate_left 1
        · (intro w9 hS9; (try dsimp only at hS9); go_simp <;> with_reducible rfl)
        try simp only [List.getElem_toArray, List.getElem_cons_succ, List.getElem_cons_zero, Act.put, List.setIfInBounds_toArray, List.set_cons_zero, List.set_cons_succ]
        refine wpAnyH_ready (rs := [8, 15]) (by kernel_rfl) (by simp) ?_
        refine AllReadyH.cons (o := _) rfl (fun K hK => ?_) ?_
        · try simp only [List.getElem_toArray, List.getElem_cons_succ, List.getElem_cons_zero]
          try rw [if_pos (show Region.wanted _ _ = true from rfl)]
          go_simp
          refine (KP.out X.drew).mono ?_
          rintro e Wp ⟨⟨vp, rfl, hvp⟩, hbn⟩
          obtain ⟨Ap, cp, rfl, _, _, hrp⟩ := own_slice hvp
          have hWp : Below X.heap.size X Wp := hX0.trans (hbn.mono hX0.size)
          go_wp2_with fail
          refine hK.out _ _ ⟨(hWp.cell (p := ⟨w.heap.size + 1, 0, none⟩) hl1).trans e0, (hWp.cell (p := ⟨w.heap.size + 1, 1, none⟩) hl1).trans e1, (hWp.cell (p := ⟨w.heap.size + 1, 2, none⟩) hl1).trans e2, (hWp.cell (p := ⟨w.heap.size + 1, 3, none⟩) hl1).trans e3, (hWp.cell (p := ⟨w.heap.size + 1, 4, none⟩) hl1).trans e4, (hWp.cell (p := ⟨w.heap.size + 1, 5, none⟩) hl1).trans e5, (hWp.cell (p := ⟨w.heap.size + 1, 6, none⟩) hl1).trans e6, (hWp.cell (p := ⟨w.heap.size, 3, none⟩) hl0).trans b1X, (hWp.cell (p := ⟨b, off + k * 2, none⟩) hbX2).trans d0X, (hWp.cell (p := ⟨b, off + k * 2 + 1, none⟩) hbX2).trans d1X⟩ (fun hHeld => ?_)
          clear hK K
          try simp only [List.getElem_toArray, List.getElem_cons_succ, List.getElem_cons_zero, Act.put, List.setIfInBounds_toArray, List.set_cons_zero, List.set_cons_succ]
          refine wpAnyH_ready (rs := [10, 15]) (by kernel_rfl) (by simp) ?_
          refine AllReadyH.cons (o := _) rfl (fun K hK => ?_) ?_
          · try simp only [List.getElem_toArray, List.getElem_cons_succ, List.getElem_cons_zero]
            try rw [if_pos (show Region.wanted _ _ = true from rfl)]
            go_simp
            refine (KS.out Wp Ap cp hWp hrp).mono ?_
            rintro e Wps ⟨hbn, v1, es1, A1, c1', rfl, hE1, hm1, hN1, hr1, hc1, hm1', hn1⟩
            rw [HER.out, show ((0 : Nat) : Int) = 0 from rfl]
            obtain ⟨B1, d1, rfl⟩ := hE1.form
            have hWps : Below X.heap.size X Wps := hWp.trans (hbn.mono hWp.size)
            have hE1 := hE1.low hWp.size
            have hN1 := hN1.low hWp.size
            have hn1 : ∀ ad, 0 < SR.r.length → A1 = some ad → X.heap.size ≤ ad.block := fun ad h0 hA => Nat.le_trans hWp.size (hn1 ad h0 hA)
            unfold lkV
            dsimp only
            go_wp2_with fail
            refine hK.out _ _ ⟨(hWps.cell (p := ⟨w.heap.size + 1, 0, none⟩) hl1).trans e0, (hWps.cell (p := ⟨w.heap.size + 1, 1, none⟩) hl1).trans e1, (hWps.cell (p := ⟨w.heap.size + 1, 2, none⟩) hl1).trans e2, (hWps.cell (p := ⟨w.heap.size + 1, 3, none⟩) hl1).trans e3, (hWps.cell (p := ⟨w.heap.size + 1, 4, none⟩) hl1).trans e4, (hWps.cell (p := ⟨w.heap.size + 1, 5, none⟩) hl1).trans e5, (hWps.cell (p := ⟨w.heap.size + 1, 6, none⟩) hl1).trans e6, (hWps.cell (p := ⟨w.heap.size, 3, none⟩) hl0).trans b1X, (hWps.cell (p := ⟨b, off + k * 2, none⟩) hbX2).trans d0X, (hWps.cell (p := ⟨b, off + k * 2 + 1, none⟩) hbX2).trans d1X⟩ (fun hHeld => ?_)
            clear hK K
            try simp only [List.getElem_toArray, List.getElem_cons_succ, List.getElem_cons_zero, Act.put, List.setIfInBounds_toArray, List.set_cons_zero, List.set_cons_succ]
            refine wpAnyH_take (i := 11) (oi := _) (v := ?_) rfl (by kernel_rfl) (by kernel_rfl) (by kernel_rfl) (fun _ _ _ h => h) (Or.inl ⟨by rfl, ?_⟩) (by assumption) ?_
            rotate_left 1
            · (intro w9 hS9; (try dsimp only at hS9); go_simp <;> with_reducible rfl)
            try simp only [List.getElem_toArray, List.getElem_cons_succ, List.getElem_cons_zero, Act.put, List.setIfInBounds_toArray, List.set_cons_zero, List.set_cons_succ]
            refine wpAnyH_take (i := 12) (oi := _) (v := ?_) rfl (by kernel_rfl) (by kernel_rfl) (by kernel_rfl) (fun _ _ _ h => h) (Or.inl ⟨by rfl, ?_⟩) (by assumption) ?_
            rotate_left 1
            · (intro w9 hS9; (try dsimp only at hS9); go_simp <;> with_reducible rfl)
            try simp only [List.getElem_toArray, List.getElem_cons_succ, List.getElem_cons_zero, Act.put, List.setIfInBounds_toArray, List.set_cons_zero, List.set_cons_succ]
            refine wpAnyH_take (i := 13) (oi := _) (v := ?_) rfl (by kernel_rfl) (by kernel_rfl) (by kernel_rfl) (fun _ _ _ h => h) (Or.inl ⟨by rfl, ?_⟩) (by assumption) ?_
            rotate_left 1
            · (intro w9 hS9; (try dsimp only at hS9); go_simp <;> with_reducible rfl)
            try simp only [List.getElem_toArray, List.getElem_cons_succ, List.getElem_cons_zero, Act.put, List.setIfInBounds_toArray, List.set_cons_zero, List.set_cons_succ]
            refine wpAnyH_take (i := 14) (oi := _) (v := ?_) rfl (by kernel_rfl) (by kernel_rfl) (by kernel_rfl) (fun _ _ _ h => h) (Or.inl ⟨by rfl, ?_⟩) (by assumption) ?_
            rotate_left 1
            · (intro w9 hS9; (try dsimp only at hS9); go_simp <;> with_reducible rfl)
            try simp only [List.getElem_toArray, List.getElem_cons_succ, List.getElem_cons_zero, Act.put, List.setIfInBounds_toArray, List.set_cons_zero, List.set_cons_succ]
            refine wpAnyH_ready (rs := [15]) (by kernel_rfl) (by simp) ?_
            refine AllReadyH.cons (o := _) rfl (fun K hK => ?_) ?_
            · try simp only [List.getElem_toArray, List.getElem_cons_succ, List.getElem_cons_zero]
              try rw [if_pos (show Region.wanted _ _ = true from rfl)]
              go_simp
              obtain ⟨Wpsa, hW⟩ : ∃ W9, (Wps.alloc (.cells #[.int .i64 0, .int .i64 0, .int .i64 0, .bool false, .int .i64 0, .int .i64 0, .slice none 0 0] 26)) = W9 := ⟨_, rfl⟩
              have hbn : Below Wps.heap.size Wps Wpsa := by rw [← hW]; exact (Below.refl _ Wps).alloc (Nat.le_refl _) _
              have hB : Blk Wpsa Wps.heap.size 26 #[.int .i64 0, .int .i64 0, .int .i64 0, .bool false, .int .i64 0, .int .i64 0, .slice none 0 0] := by rw [← hW]; exact Blk.new _ _ _
              rw [hW]
              clear hW
              have hWpsa : Below X.heap.size X Wpsa := hWps.trans (hbn.mono hWps.size)
              have hgX : X.heap.size ≤ Wps.heap.size := hWps.size
              have hne1 : ∀ ad, 0 < SR.r.length → A1 = some ad → ad.block ≠ Wps.heap.size := fun ad h0 hA => by obtain ⟨ad', hA', hb9, _⟩ := hr1.2 h0; rw [hA] at hA'; cases hA'; omega
              have hE1 := hE1.below hbn
              have hr1 := hr1.up hbn
              obtain ⟨g, hg⟩ : ∃ g, Wps.heap.size = g := ⟨_, rfl⟩
              rw [hg] at hB ⊢
              have hgX : X.heap.size ≤ g := by rw [← hg]; exact hgX
              rw [hg] at hne1
              clear hg
              refine hK.out _ _ ⟨(hWpsa.cell (p := ⟨w.heap.size + 1, 0, none⟩) hl1).trans e0, (hWpsa.cell (p := ⟨w.heap.size + 1, 1, none⟩) hl1).trans e1, (hWpsa.cell (p := ⟨w.heap.size + 1, 2, none⟩) hl1).trans e2, (hWpsa.cell (p := ⟨w.heap.size + 1, 3, none⟩) hl1).trans e3, (hWpsa.cell (p := ⟨w.heap.size + 1, 4, none⟩) hl1).trans e4, (hWpsa.cell (p := ⟨w.heap.size + 1, 5, none⟩) hl1).trans e5, (hWpsa.cell (p := ⟨w.heap.size + 1, 6, none⟩) hl1).trans e6, (hWpsa.cell (p := ⟨w.heap.size, 3, none⟩) hl0).trans b1X, (hWpsa.cell (p := ⟨b, off + k * 2, none⟩) hbX2).trans d0X, (hWpsa.cell (p := ⟨b, off + k * 2 + 1, none⟩) hbX2).trans d1X⟩ (fun hHeld => ?_)
              clear hK K
              try simp only [List.getElem_toArray, List.getElem_cons_succ, List.getElem_cons_zero, Act.put, List.setIfInBounds_toArray, List.set_cons_zero, List.set_cons_succ]
              refine wpAnyH_ready (rs := [16]) (by kernel_rfl) (by simp) ?_
              refine AllReadyH.cons (o := _) rfl (fun K hK => ?_) AllReadyH.nil
              try simp only [List.getElem_toArray, List.getElem_cons_succ, List.getElem_cons_zero]
              rw [if_pos (show Region.wanted _ _ = true from rfl)]
              refine wp_store_row 26 _ _ (by rfl) g (lkV SR.l (.slice B1 es1.length d1)) (by rfl) (by rfl) 26 _ hB (by kernel_rfl) rfl (by simp [Value.oneCell', lkV]) ?_
              have hSent : SentS X SR g (.slice B1 es1.length d1) es1 A1 c1' (Wpsa.setRow g (lkV SR.l (.slice B1 es1.length d1))) := SentS.of hB (noU8 _ _ _ _ _ _ _ _ _) hWpsa hgX hE1 hN1 hm1 hr1 hc1 hm1' hn1 hne1
              have hfin := hSent.bel
              refine hK.out _ _ ⟨(hfin.cell (p := ⟨w.heap.size + 1, 0, none⟩) hl1).trans e0, (hfin.cell (p := ⟨w.heap.size + 1, 1, none⟩) hl1).trans e1, (hfin.cell (p := ⟨w.heap.size + 1, 2, none⟩) hl1).trans e2, (hfin.cell (p := ⟨w.heap.size + 1, 3, none⟩) hl1).trans e3, (hfin.cell (p := ⟨w.heap.size + 1, 4, none⟩) hl1).trans e4, (hfin.cell (p := ⟨w.heap.size + 1, 5, none⟩) hl1).trans e5, (hfin.cell (p := ⟨w.heap.size + 1, 6, none⟩) hl1).trans e6, (hfin.cell (p := ⟨w.heap.size, 3, none⟩) hl0).trans b1X, (hfin.cell (p := ⟨b, off + k * 2, none⟩) hbX2).trans d0X, (hfin.cell (p := ⟨b, off + k * 2 + 1, none⟩) hbX2).trans d1X⟩ (fun hHeld => ?_)
              clear hK K
              try simp only [List.getElem_toArray, List.getElem_cons_succ, List.getElem_cons_zero, Act.put, List.setIfInBounds_toArray, List.set_cons_zero, List.set_cons_succ]
              refine wpAnyH_take (i := 17) (oi := _) (v := ?_) rfl (by kernel_rfl) (by kernel_rfl) (by kernel_rfl) (fun _ _ _ h => h) (Or.inl ⟨by rfl, ?_⟩) (by assumption) ?_
              rotate_left 1
              · (intro w9 hS9; (try dsimp only at hS9); go_simp <;> with_reducible rfl)
              try simp only [List.getElem_toArray, List.getElem_cons_succ, List.getElem_cons_zero, Act.put, List.setIfInBounds_toArray, List.set_cons_zero, List.set_cons_succ]
              refine wpAnyH_done (by kernel_rfl) ?_ _
              refine tailQ_step rfl ?_
              go_wp2_with fail
              refine tailQ_nil (panQ_normal ?_)
              try go_wp2_with fail
              go_meet
              exact ⟨g, _, es1, A1, c1', rfl, rfl, rfl, hSent⟩
            exact AllReadyH.nil
          refine AllReadyH.cons (o := _) rfl (fun K hK => ?_) ?_
          · try simp only [List.getElem_toArray, List.getElem_cons_succ, List.getElem_cons_zero]
            try rw [if_pos (show Region.wanted _ _ = true from rfl)]
            go_simp
            obtain ⟨Wpa, hW⟩ : ∃ W9, (Wp.alloc (.cells #[.int .i64 0, .int .i64 0, .int .i64 0, .bool false, .int .i64 0, .int .i64 0, .slice none 0 0] 26)) = W9 := ⟨_, rfl⟩
            have hbn : Below Wp.heap.size Wp Wpa := by rw [← hW]; exact (Below.refl _ Wp).alloc (Nat.le_refl _) _
            have hB : Blk Wpa Wp.heap.size 26 #[.int .i64 0, .int .i64 0, .int .i64 0, .bool false, .int .i64 0, .int .i64 0, .slice none 0 0] := by rw [← hW]; exact Blk.new _ _ _
            rw [hW]
            clear hW
            have hWpa : Below X.heap.size X Wpa := hWp.trans (hbn.mono hWp.size)
            have hgX : X.heap.size ≤ Wp.heap.size := hWp.size
            have hrp := hrp.up hbn
            obtain ⟨g, hg⟩ : ∃ g, Wp.heap.size = g := ⟨_, rfl⟩
            rw [hg] at hB ⊢
            have hgX : X.heap.size ≤ g := by rw [← hg]; exact hgX
            clear hg
            refine hK.out _ _ ⟨(hWpa.cell (p := ⟨w.heap.size + 1, 0, none⟩) hl1).trans e0, (hWpa.cell (p := ⟨w.heap.size + 1, 1, none⟩) hl1).trans e1, (hWpa.cell (p := ⟨w.heap.size + 1, 2, none⟩) hl1).trans e2, (hWpa.cell (p := ⟨w.heap.size + 1, 3, none⟩) hl1).trans e3, (hWpa.cell (p := ⟨w.heap.size + 1, 4, none⟩) hl1).trans e4, (hWpa.cell (p := ⟨w.heap.size + 1, 5, none⟩) hl1).trans e5, (hWpa.cell (p := ⟨w.heap.size + 1, 6, none⟩) hl1).trans e6, (hWpa.cell (p := ⟨w.heap.size, 3, none⟩) hl0).trans b1X, (hWpa.cell (p := ⟨b, off + k * 2, none⟩) hbX2).trans d0X, (hWpa.cell (p := ⟨b, off + k * 2 + 1, none⟩) hbX2).trans d1X⟩ (fun hHeld => ?_)
            clear hK K
            try simp only [List.getElem_toArray, List.getElem_cons_succ, List.getElem_cons_zero, Act.put, List.setIfInBounds_toArray, List.set_cons_zero, List.set_cons_succ]
            refine wpAnyH_ready (rs := [10]) (by kernel_rfl) (by simp) ?_
            refine AllReadyH.cons (o := _) rfl (fun K hK => ?_) ?_
            · try simp only [List.getElem_toArray, List.getElem_cons_succ, List.getElem_cons_zero]
              try rw [if_pos (show Region.wanted _ _ = true from rfl)]
              go_simp
              refine (KS.out Wpa Ap cp hWpa hrp).mono ?_
              rintro e Wpas ⟨hbn, v1, es1, A1, c1', rfl, hE1, hm1, hN1, hr1, hc1, hm1', hn1⟩
              rw [HER.out, show ((0 : Nat) : Int) = 0 from rfl]
              obtain ⟨B1, d1, rfl⟩ := hE1.form
              have hWpas : Below X.heap.size X Wpas := hWpa.trans (hbn.mono hWpa.size)
              have hE1 := hE1.low hWpa.size
              have hN1 := hN1.low hWpa.size
              have hne1 : ∀ ad, 0 < SR.r.length → A1 = some ad → ad.block ≠ g := fun ad h0 hA => by have h1 := hn1 ad h0 hA; have h2 := hB.lt; omega
              have hB := hB.below hbn hB.lt
              have hn1 : ∀ ad, 0 < SR.r.length → A1 = some ad → X.heap.size ≤ ad.block := fun ad h0 hA => Nat.le_trans hWpa.size (hn1 ad h0 hA)
              unfold lkV
              dsimp only
              go_wp2_with fail
              refine hK.out _ _ ⟨(hWpas.cell (p := ⟨w.heap.size + 1, 0, none⟩) hl1).trans e0, (hWpas.cell (p := ⟨w.heap.size + 1, 1, none⟩) hl1).trans e1, (hWpas.cell (p := ⟨w.heap.size + 1, 2, none⟩) hl1).trans e2, (hWpas.cell (p := ⟨w.heap.size + 1, 3, none⟩) hl1).trans e3, (hWpas.cell (p := ⟨w.heap.size + 1, 4, none⟩) hl1).trans e4, (hWpas.cell (p := ⟨w.heap.size + 1, 5, none⟩) hl1).trans e5, (hWpas.cell (p := ⟨w.heap.size + 1, 6, none⟩) hl1).trans e6, (hWpas.cell (p := ⟨w.heap.size, 3, none⟩) hl0).trans b1X, (hWpas.cell (p := ⟨b, off + k * 2, none⟩) hbX2).trans d0X, (hWpas.cell (p := ⟨b, off + k * 2 + 1, none⟩) hbX2).trans d1X⟩ (fun hHeld => ?_)
              clear hK K
              try simp only [List.getElem_toArray, List.getElem_cons_succ, List.getElem_cons_zero, Act.put, List.setIfInBounds_toArray, List.set_cons_zero, List.set_cons_succ]
              refine wpAnyH_take (i := 11) (oi := _) (v := ?_) rfl (by kernel_rfl) (by kernel_rfl) (by kernel_rfl) (fun _ _ _ h => h) (Or.inl ⟨by rfl, ?_⟩) (by assumption) ?_
              rotate_left 1
              · (intro w9 hS9; (try dsimp only at hS9); go_simp <;> with_reducible rfl)
              try simp only [List.getElem_toArray, List.getElem_cons_succ, List.getElem_cons_zero, Act.put, List.setIfInBounds_toArray, List.set_cons_zero, List.set_cons_succ]
              refine wpAnyH_take (i := 12) (oi := _) (v := ?_) rfl (by kernel_rfl) (by kernel_rfl) (by kernel_rfl) (fun _ _ _ h => h) (Or.inl ⟨by rfl, ?_⟩) (by assumption) ?_
              rotate_left 1
              · (intro w9 hS9; (try dsimp only at hS9); go_simp <;> with_reducible rfl)
              try simp only [List.getElem_toArray, List.getElem_cons_succ, List.getElem_cons_zero, Act.put, List.setIfInBounds_toArray, List.set_cons_zero, List.set_cons_succ]
              refine wpAnyH_take (i := 13) (oi := _) (v := ?_) rfl (by kernel_rfl) (by kernel_rfl) (by kernel_rfl) (fun _ _ _ h => h) (Or.inl ⟨by rfl, ?_⟩) (by assumption) ?_
              rotate_left 1
              · (intro w9 hS9; (try dsimp only at hS9); go_simp <;> with_reducible rfl)
              try simp only [List.getElem_toArray, List.getElem_cons_succ, List.getElem_cons_zero, Act.put, List.setIfInBounds_toArray, List.set_cons_zero, List.set_cons_succ]
              refine wpAnyH_take (i := 14) (oi := _) (v := ?_) rfl (by kernel_rfl) (by kernel_rfl) (by kernel_rfl) (fun _ _ _ h => h) (Or.inl ⟨by rfl, ?_⟩) (by assumption) ?_
              rotate_left 1
              · (intro w9 hS9; (try dsimp only at hS9); go_simp <;> with_reducible rfl)
              try simp only [List.getElem_toArray, List.getElem_cons_succ, List.getElem_cons_zero, Act.put, List.setIfInBounds_toArray, List.set_cons_zero, List.set_cons_succ]
              refine wpAnyH_ready (rs := [16]) (by kernel_rfl) (by simp) ?_
              refine AllReadyH.cons (o := _) rfl (fun K hK => ?_) AllReadyH.nil
              try simp only [List.getElem_toArray, List.getElem_cons_succ, List.getElem_cons_zero]
              rw [if_pos (show Region.wanted _ _ = true from rfl)]
              refine wp_store_row 26 _ _ (by rfl) g (lkV SR.l (.slice B1 es1.length d1)) (by rfl) (by rfl) 26 _ hB (by kernel_rfl) rfl (by simp [Value.oneCell', lkV]) ?_
              have hSent : SentS X SR g (.slice B1 es1.length d1) es1 A1 c1' (Wpas.setRow g (lkV SR.l (.slice B1 es1.length d1))) := SentS.of hB (noU8 _ _ _ _ _ _ _ _ _) hWpas hgX hE1 hN1 hm1 hr1 hc1 hm1' hn1 hne1
              have hfin := hSent.bel
              refine hK.out _ _ ⟨(hfin.cell (p := ⟨w.heap.size + 1, 0, none⟩) hl1).trans e0, (hfin.cell (p := ⟨w.heap.size + 1, 1, none⟩) hl1).trans e1, (hfin.cell (p := ⟨w.heap.size + 1, 2, none⟩) hl1).trans e2, (hfin.cell (p := ⟨w.heap.size + 1, 3, none⟩) hl1).trans e3, (hfin.cell (p := ⟨w.heap.size + 1, 4, none⟩) hl1).trans e4, (hfin.cell (p := ⟨w.heap.size + 1, 5, none⟩) hl1).trans e5, (hfin.cell (p := ⟨w.heap.size + 1, 6, none⟩) hl1).trans e6, (hfin.cell (p := ⟨w.heap.size, 3, none⟩) hl0).trans b1X, (hfin.cell (p := ⟨b, off + k * 2, none⟩) hbX2).trans d0X, (hfin.cell (p := ⟨b, off + k * 2 + 1, none⟩) hbX2).trans d1X⟩ (fun hHeld => ?_)
              clear hK K
              try simp only [List.getElem_toArray, List.getElem_cons_succ, List.getElem_cons_zero, Act.put, List.setIfInBounds_toArray, List.set_cons_zero, List.set_cons_succ]
              refine wpAnyH_take (i := 17) (oi := _) (v := ?_) rfl (by kernel_rfl) (by kernel_rfl) (by kernel_rfl) (fun _ _ _ h => h) (Or.inl ⟨by rfl, ?_⟩) (by assumption) ?_
              rotate_left 1
              · (intro w9 hS9; (try dsimp only at hS9); go_simp <;> with_reducible rfl)
              try simp only [List.getElem_toArray, List.getElem_cons_succ, List.getElem_cons_zero, Act.put, List.setIfInBounds_toArray, List.set_cons_zero, List.set_cons_succ]
              refine wpAnyH_done (by kernel_rfl) ?_ _
              refine tailQ_step rfl ?_
              go_wp2_with fail
              refine tailQ_nil (panQ_normal ?_)
              try go_wp2_with fail
              go_meet
              exact ⟨g, _, es1, A1, c1', rfl, rfl, rfl, hSent⟩
            exact AllReadyH.nil
          exact AllReadyH.nil
        refine AllReadyH.cons (o := _) rfl (fun K hK => ?_) ?_
        · try simp only [List.getElem_toArray, List.getElem_cons_succ, List.getElem_cons_zero]
          try rw [if_pos (show Region.wanted _ _ = true from rfl)]
          go_simp
          obtain ⟨Wa, hW⟩ : ∃ W9, (X.alloc (.cells #[.int .i64 0, .int .i64 0, .int .i64 0, .bool false, .int .i64 0, .int .i64 0, .slice none 0 0] 26)).drew = W9 := ⟨_, rfl⟩
          have hbn : Below X.heap.size X Wa := by rw [← hW]; exact ((Below.refl _ X).alloc (Nat.le_refl _) _).drew
          have hB : Blk Wa X.heap.size 26 #[.int .i64 0, .int .i64 0, .int .i64 0, .bool false, .int .i64 0, .int .i64 0, .slice none 0 0] := by rw [← hW]; exact Blk.new _ _ _
          rw [hW]
          clear hW
          have hWa : Below X.heap.size X Wa := hbn
          have hgX : X.heap.size ≤ X.heap.size := Nat.le_refl _
          obtain ⟨g, hg⟩ : ∃ g, X.heap.size = g := ⟨_, rfl⟩
          rw [hg] at hB ⊢
          have hgX : X.heap.size ≤ g := by rw [← hg]; exact hgX
          clear hg
          refine hK.out _ _ ⟨(hWa.cell (p := ⟨w.heap.size + 1, 0, none⟩) hl1).trans e0, (hWa.cell (p := ⟨w.heap.size + 1, 1, none⟩) hl1).trans e1, (hWa.cell (p := ⟨w.heap.size + 1, 2, none⟩) hl1).trans e2, (hWa.cell (p := ⟨w.heap.size + 1, 3, none⟩) hl1).trans e3, (hWa.cell (p := ⟨w.heap.size + 1, 4, none⟩) hl1).trans e4, (hWa.cell (p := ⟨w.heap.size + 1, 5, none⟩) hl1).trans e5, (hWa.cell (p := ⟨w.heap.size + 1, 6, none⟩) hl1).trans e6, (hWa.cell (p := ⟨w.heap.size, 3, none⟩) hl0).trans b1X, (hWa.cell (p := ⟨b, off + k * 2, none⟩) hbX2).trans d0X, (hWa.cell (p := ⟨b, off + k * 2 + 1, none⟩) hbX2).trans d1X⟩ (fun hHeld => ?_)
          clear hK K
          try simp only [List.getElem_toArray, List.getElem_cons_succ, List.getElem_cons_zero, Act.put, List.setIfInBounds_toArray, List.set_cons_zero, List.set_cons_succ]
          refine wpAnyH_ready (rs := [8]) (by kernel_rfl) (by simp) ?_
          refine AllReadyH.cons (o := _) rfl (fun K hK => ?_) ?_
          · try simp only [List.getElem_toArray, List.getElem_cons_succ, List.getElem_cons_zero]
            try rw [if_pos (show Region.wanted _ _ = true from rfl)]
            go_simp
            refine (KP.out Wa).mono ?_
            rintro e Wap ⟨⟨vp, rfl, hvp⟩, hbn⟩
            obtain ⟨Ap, cp, rfl, _, _, hrp⟩ := own_slice hvp
            have hWap : Below X.heap.size X Wap := hWa.trans (hbn.mono hWa.size)
            have hB := hB.below hbn hB.lt
            go_wp2_with fail
            refine hK.out _ _ ⟨(hWap.cell (p := ⟨w.heap.size + 1, 0, none⟩) hl1).trans e0, (hWap.cell (p := ⟨w.heap.size + 1, 1, none⟩) hl1).trans e1, (hWap.cell (p := ⟨w.heap.size + 1, 2, none⟩) hl1).trans e2, (hWap.cell (p := ⟨w.heap.size + 1, 3, none⟩) hl1).trans e3, (hWap.cell (p := ⟨w.heap.size + 1, 4, none⟩) hl1).trans e4, (hWap.cell (p := ⟨w.heap.size + 1, 5, none⟩) hl1).trans e5, (hWap.cell (p := ⟨w.heap.size + 1, 6, none⟩) hl1).trans e6, (hWap.cell (p := ⟨w.heap.size, 3, none⟩) hl0).trans b1X, (hWap.cell (p := ⟨b, off + k * 2, none⟩) hbX2).trans d0X, (hWap.cell (p := ⟨b, off + k * 2 + 1, none⟩) hbX2).trans d1X⟩ (fun hHeld => ?_)
            clear hK K
            try simp only [List.getElem_toArray, List.getElem_cons_succ, List.getElem_cons_zero, Act.put, List.setIfInBounds_toArray, List.set_cons_zero, List.set_cons_succ]
            refine wpAnyH_ready (rs := [10]) (by kernel_rfl) (by simp) ?_
            refine AllReadyH.cons (o := _) rfl (fun K hK => ?_) ?_
            · try simp only [List.getElem_toArray, List.getElem_cons_succ, List.getElem_cons_zero]
              try rw [if_pos (show Region.wanted _ _ = true from rfl)]
              go_simp
              refine (KS.out Wap Ap cp hWap hrp).mono ?_
              rintro e Waps ⟨hbn, v1, es1, A1, c1', rfl, hE1, hm1, hN1, hr1, hc1, hm1', hn1⟩
              rw [HER.out, show ((0 : Nat) : Int) = 0 from rfl]
              obtain ⟨B1, d1, rfl⟩ := hE1.form
              have hWaps : Below X.heap.size X Waps := hWap.trans (hbn.mono hWap.size)
              have hE1 := hE1.low hWap.size
              have hN1 := hN1.low hWap.size
              have hne1 : ∀ ad, 0 < SR.r.length → A1 = some ad → ad.block ≠ g := fun ad h0 hA => by have h1 := hn1 ad h0 hA; have h2 := hB.lt; omega
              have hB := hB.below hbn hB.lt
              have hn1 : ∀ ad, 0 < SR.r.length → A1 = some ad → X.heap.size ≤ ad.block := fun ad h0 hA => Nat.le_trans hWap.size (hn1 ad h0 hA)
              unfold lkV
              dsimp only
              go_wp2_with fail
              refine hK.out _ _ ⟨(hWaps.cell (p := ⟨w.heap.size + 1, 0, none⟩) hl1).trans e0, (hWaps.cell (p := ⟨w.heap.size + 1, 1, none⟩) hl1).trans e1, (hWaps.cell (p := ⟨w.heap.size + 1, 2, none⟩) hl1).trans e2, (hWaps.cell (p := ⟨w.heap.size + 1, 3, none⟩) hl1).trans e3, (hWaps.cell (p := ⟨w.heap.size + 1, 4, none⟩) hl1).trans e4, (hWaps.cell (p := ⟨w.heap.size + 1, 5, none⟩) hl1).trans e5, (hWaps.cell (p := ⟨w.heap.size + 1, 6, none⟩) hl1).trans e6, (hWaps.cell (p := ⟨w.heap.size, 3, none⟩) hl0).trans b1X, (hWaps.cell (p := ⟨b, off + k * 2, none⟩) hbX2).trans d0X, (hWaps.cell (p := ⟨b, off + k * 2 + 1, none⟩) hbX2).trans d1X⟩ (fun hHeld => ?_)
              clear hK K
              try simp only [List.getElem_toArray, List.getElem_cons_succ, List.getElem_cons_zero, Act.put, List.setIfInBounds_toArray, List.set_cons_zero, List.set_cons_succ]
              refine wpAnyH_take (i := 11) (oi := _) (v := ?_) rfl (by kernel_rfl) (by kernel_rfl) (by kernel_rfl) (fun _ _ _ h => h) (Or.inl ⟨by rfl, ?_⟩) (by assumption) ?_
              rotate_left 1
              · (intro w9 hS9; (try dsimp only at hS9); go_simp <;> with_reducible rfl)
              try simp only [List.getElem_toArray, List.getElem_cons_succ, List.getElem_cons_zero, Act.put, List.setIfInBounds_toArray, List.set_cons_zero, List.set_cons_succ]
              refine wpAnyH_take (i := 12) (oi := _) (v := ?_) rfl (by kernel_rfl) (by kernel_rfl) (by kernel_rfl) (fun _ _ _ h => h) (Or.inl ⟨by rfl, ?_⟩) (by assumption) ?_
              rotate_left 1
              · (intro w9 hS9; (try dsimp only at hS9); go_simp <;> with_reducible rfl)
              try simp only [List.getElem_toArray, List.getElem_cons_succ, List.getElem_cons_zero, Act.put, List.setIfInBounds_toArray, List.set_cons_zero, List.set_cons_succ]
              refine wpAnyH_take (i := 13) (oi := _) (v := ?_) rfl (by kernel_rfl) (by kernel_rfl) (by kernel_rfl) (fun _ _ _ h => h) (Or.inl ⟨by rfl, ?_⟩) (by assumption) ?_
              rotate_left 1
              · (intro w9 hS9; (try dsimp only at hS9); go_simp <;> with_reducible rfl)
              try simp only [List.getElem_toArray, List.getElem_cons_succ, List.getElem_cons_zero, Act.put, List.setIfInBounds_toArray, List.set_cons_zero, List.set_cons_succ]
              refine wpAnyH_take (i := 14) (oi := _) (v := ?_) rfl (by kernel_rfl) (by kernel_rfl) (by kernel_rfl) (fun _ _ _ h => h) (Or.inl ⟨by rfl, ?_⟩) (by assumption) ?_
              rotate_left 1
              · (intro w9 hS9; (try dsimp only at hS9); go_simp <;> with_reducible rfl)
              try simp only [List.getElem_toArray, List.getElem_cons_succ, List.getElem_cons_zero, Act.put, List.setIfInBounds_toArray, List.set_cons_zero, List.set_cons_succ]
              refine wpAnyH_ready (rs := [16]) (by kernel_rfl) (by simp) ?_
              refine AllReadyH.cons (o := _) rfl (fun K hK => ?_) AllReadyH.nil
              try simp only [List.getElem_toArray, List.getElem_cons_succ, List.getElem_cons_zero]
              rw [if_pos (show Region.wanted _ _ = true from rfl)]
              refine wp_store_row 26 _ _ (by rfl) g (lkV SR.l (.slice B1 es1.length d1)) (by rfl) (by rfl) 26 _ hB (by kernel_rfl) rfl (by simp [Value.oneCell', lkV]) ?_
              have hSent : SentS X SR g (.slice B1 es1.length d1) es1 A1 c1' (Waps.setRow g (lkV SR.l (.slice B1 es1.length d1))) := SentS.of hB (noU8 _ _ _ _ _ _ _ _ _) hWaps hgX hE1 hN1 hm1 hr1 hc1 hm1' hn1 hne1
              have hfin := hSent.bel
              refine hK.out _ _ ⟨(hfin.cell (p := ⟨w.heap.size + 1, 0, none⟩) hl1).trans e0, (hfin.cell (p := ⟨w.heap.size + 1, 1, none⟩) hl1).trans e1, (hfin.cell (p := ⟨w.heap.size + 1, 2, none⟩) hl1).trans e2, (hfin.cell (p := ⟨w.heap.size + 1, 3, none⟩) hl1).trans e3, (hfin.cell (p := ⟨w.heap.size + 1, 4, none⟩) hl1).trans e4, (hfin.cell (p := ⟨w.heap.size + 1, 5, none⟩) hl1).trans e5, (hfin.cell (p := ⟨w.heap.size + 1, 6, none⟩) hl1).trans e6, (hfin.cell (p := ⟨w.heap.size, 3, none⟩) hl0).trans b1X, (hfin.cell (p := ⟨b, off + k * 2, none⟩) hbX2).trans d0X, (hfin.cell (p := ⟨b, off + k * 2 + 1, none⟩) hbX2).trans d1X⟩ (fun hHeld => ?_)
              clear hK K
              try simp only [List.getElem_toArray, List.getElem_cons_succ, List.getElem_cons_zero, Act.put, List.setIfInBounds_toArray, List.set_cons_zero, List.set_cons_succ]
              refine wpAnyH_take (i := 17) (oi := _) (v := ?_) rfl (by kernel_rfl) (by kernel_rfl) (by kernel_rfl) (fun _ _ _ h => h) (Or.inl ⟨by rfl, ?_⟩) (by assumption) ?_
              rotate_left 1
              · (intro w9 hS9; (try dsimp only at hS9); go_simp <;> with_reducible rfl)
              try simp only [List.getElem_toArray, List.getElem_cons_succ, List.getElem_cons_zero, Act.put, List.setIfInBounds_toArray, List.set_cons_zero, List.set_cons_succ]
              refine wpAnyH_done (by kernel_rfl) ?_ _
              refine tailQ_step rfl ?_
              go_wp2_with fail
              refine tailQ_nil (panQ_normal ?_)
              try go_wp2_with fail
              go_meet
              exact ⟨g, _, es1, A1, c1', rfl, rfl, rfl, hSent⟩
            exact AllReadyH.nil
          exact AllReadyH.nil
        exact AllReadyH.nil
      case rest =>
        obtain ⟨g, v1, es1, A1, c1', rfl, rfl, rfl, hSe⟩ := hcut
        generalize wc = wS at *
        obtain ⟨B1, d1, rfl⟩ := hSe.own.form
        have HSe := Lib.hid hSe
        have HIC := Lib.hid (HIX.out.below hSe.bel)
        clear hSe KS KP e0 e1 e2 e3 e4 e5 e6 b1X d0X d1X
        obtain ⟨nk, hK⟩ : ∃ nk, timesOf hw = nk := ⟨_, rfl⟩
        have HK := Lib.hid hK
        obtain ⟨tv, htv⟩ : ∃ tv : Int, (if hw = 1 then (0 : Int) else 1) = tv := ⟨_, rfl⟩
        have HTV := Lib.hid htv
        clear htv hK
        go_upto_if 69 with (fail)
        go_cut [16] from 68 to 71 (fun s wx => s = .int .i64 tv ∧ wx = wS)
        case first =>
          by_cases h1 : hw = 1
          · have ht : tv = 0 := by rw [← HTV.out, if_pos h1]
            subst h1
            go_wp2_with fail
            go_meet
            exact ⟨by first | rfl | rw [ht], rfl⟩
          · have h1' : (hw == 1) = false := by rw [beq_eq_false_iff_ne]; exact h1
            have ht : tv = 1 := by rw [← HTV.out, if_neg h1]
            clear h1
            go_wp2_with fail
            go_meet
            exact ⟨by first | rfl | rw [ht], rfl⟩
        case rest =>
          obtain ⟨rfl, hwx⟩ := hcut
          subst wc
          go_upto_if 71 with (fail)
          go_cut [16] from 68 to 71 (fun s wx => s = .int .i64 (nk : Nat) ∧ wx = wS)
          case first =>
            by_cases h2 : hw = 2
            · subst h2
              have hk2 : nk = 2 := by rw [← HK.out]; rfl
              subst hk2
              go_wp2_with fail
              go_meet
              exact ⟨rfl, rfl⟩
            · have h1' : (hw == 2) = false := by rw [beq_eq_false_iff_ne]; exact h2
              have ht : tv = (nk : Nat) := by
                rw [← HK.out, ← HTV.out]
                unfold timesOf
                by_cases h3 : hw = 1
                · rw [if_pos h3, if_pos h3]; rfl
                · rw [if_neg h3, if_neg h3, if_neg h2]; rfl
              clear h2
              go_wp2_with fail
              go_meet
              exact ⟨by first | rfl | rw [ht], rfl⟩
          case rest =>
            obtain ⟨rfl, hwx⟩ := hcut
            subst wc
            have HT : Hid (Two w #[.int .i64 mi, .int .i64 ma, .int .i64 ra, .slice (some ⟨b, off, none⟩) ns c1, .slice Ac cs.length cc] (w.heap.size + 2) r.l (.slice Av es.length cv) es A c r.rs X SR g (.slice B1 es1.length d1) es1 A1 c1' u3 u4 u5 r.tm r.id r.cp wS) := Two.of HIX.out HIC.out HSe.out
            have hXl : w.heap.size + 2 ≤ X.heap.size := by omega
            have hlt0 : ∀ b, u3.ownBlock = some b → b < X.heap.size := own_lt HIX.out.tri.o3
            have hlt1 : ∀ b, u4.ownBlock = some b → b < X.heap.size := own_lt HIX.out.tri.o4
            have hlt2 : ∀ b, u5.ownBlock = some b → b < X.heap.size := own_lt HIX.out.tri.o5
            have hl3 := HOK.out.ltm
            have hl4 := HOK.out.lid
            have hl5 := HOK.out.lcp
            go_upto_region 18 with fail
            go_cut [3, 4, 5] from 72 to 84 (fun s3 s4 s5 wx => Two w #[.int .i64 mi, .int .i64 ma, .int .i64 ra, .slice (some ⟨b, off, none⟩) ns c1, .slice Ac cs.length cc] (w.heap.size + 2) r.l (.slice Av es.length cv) es A c r.rs X SR g (.slice B1 es1.length d1) es1 A1 c1' s3 s4 s5 (r.tm ++ [(r.now + (q : Int))]) (r.id ++ [SR.l.idle]) (r.cp ++ [((nk : Nat) : Int)]) wx)
            case first =>
              refine wp_pan (Pc := fun _ _ _ => False) (fun _ _ _ h => h.elim) ?_
              refine wp_region_tail_lit (S := fun V => V.cell? ⟨g, 4, none⟩ = some (.int .i64 SR.l.idle)) 13 (by kernel_rfl) (by kernel_rfl) ((HT.out.below ((Below.refl _ wS).drew)).st.bg.cell 4) (fun hHeld => ?_)
              simp only [List.take, List.drop]
              refine wpAnyH_take (i := 0) (oi := _) (v := ?_) rfl (by kernel_rfl) (by kernel_rfl) (by kernel_rfl) (fun _ _ _ h => h) (Or.inl ⟨by rfl, ?_⟩) (by assumption) ?_
              rotate_left 1
              · (intro w9 hS9; (try dsimp only at hS9); go_simp <;> with_reducible rfl)
              try simp only [List.getElem_toArray, List.getElem_cons_succ, List.getElem_cons_zero, Act.put, List.setIfInBounds_toArray, List.set_cons_zero, List.set_cons_succ]
              refine wpAnyH_take (i := 1) (oi := _) (v := ?_) rfl (by kernel_rfl) (by kernel_rfl) (by kernel_rfl) (fun _ _ _ h => h) (Or.inl ⟨by rfl, ?_⟩) (by assumption) ?_
              rotate_left 1
              · (intro w9 hS9; (try dsimp only at hS9); go_simp <;> with_reducible rfl)
              try simp only [List.getElem_toArray, List.getElem_cons_succ, List.getElem_cons_zero, Act.put, List.setIfInBounds_toArray, List.set_cons_zero, List.set_cons_succ]
              refine wpAnyH_take (i := 4) (oi := _) (v := ?_) rfl (by kernel_rfl) (by kernel_rfl) (by kernel_rfl) (fun _ _ _ h => h) (Or.inl ⟨by rfl, ?_⟩) (by assumption) ?_
              rotate_left 1
              · (intro w9 hS9; (try dsimp only at hS9); go_simp <;> with_reducible rfl)
              try simp only [List.getElem_toArray, List.getElem_cons_succ, List.getElem_cons_zero, Act.put, List.setIfInBounds_toArray, List.set_cons_zero, List.set_cons_succ]
              refine wpAnyH_take (i := 5) (oi := _) (v := ?_) rfl (by kernel_rfl) (by kernel_rfl) (by kernel_rfl) (fun _ _ _ h => h) (Or.inl ⟨by rfl, ?_⟩) (by assumption) ?_
              rotate_left 1
              · (intro w9 hS9; (try dsimp only at hS9); go_simp <;> with_reducible rfl)
              try simp only [List.getElem_toArray, List.getElem_cons_succ, List.getElem_cons_zero, Act.put, List.setIfInBounds_toArray, List.set_cons_zero, List.set_cons_succ]
              refine wpAnyH_take (i := 6) (oi := _) (v := ?_) rfl (by kernel_rfl) (by kernel_rfl) (by kernel_rfl) (fun _ _ _ h => h) (Or.inl ⟨by rfl, ?_⟩) (by assumption) ?_
              rotate_left 1
              · (intro w9 hS9; (try dsimp only at hS9); go_simp <;> with_reducible rfl)
              try simp only [List.getElem_toArray, List.getElem_cons_succ, List.getElem_cons_zero, Act.put, List.setIfInBounds_toArray, List.set_cons_zero, List.set_cons_succ]
              refine wpAnyH_take (i := 9) (oi := _) (v := ?_) rfl (by kernel_rfl) (by kernel_rfl) (by kernel_rfl) (fun _ _ _ h => h) (Or.inl ⟨by rfl, ?_⟩) (by assumption) ?_
              rotate_left 1
              · (intro w9 hS9; (try dsimp only at hS9); go_simp <;> with_reducible rfl)
              try simp only [List.getElem_toArray, List.getElem_cons_succ, List.getElem_cons_zero, Act.put, List.setIfInBounds_toArray, List.set_cons_zero, List.set_cons_succ]
              refine wpAnyH_take (i := 10) (oi := _) (v := ?_) rfl (by kernel_rfl) (by kernel_rfl) (by kernel_rfl) (fun _ _ _ h => h) (Or.inl ⟨by rfl, ?_⟩) (by assumption) ?_
              rotate_left 1
              · (intro w9 hS9; (try dsimp only at hS9); go_simp <;> with_reducible rfl)
              try simp only [List.getElem_toArray, List.getElem_cons_succ, List.getElem_cons_zero, Act.put, List.setIfInBounds_toArray, List.set_cons_zero, List.set_cons_succ]
              refine wpAnyH_ready (rs := [2, 7, 11]) (by kernel_rfl) (by simp) ?_
              refine AllReadyH.cons (o := _) rfl (fun K hK => ?_) ?_
              · try simp only [List.getElem_toArray, List.getElem_cons_succ, List.getElem_cons_zero]
                go_simp
                obtain ⟨Wb0, hW⟩ : ∃ W9, (wS.alloc (.cells #[.int .i64 (r.now + (q : Int))] 3)).drew = W9 := ⟨_, rfl⟩
                have hbn : Below wS.heap.size wS Wb0 := by rw [← hW]; exact ((Below.refl _ wS).alloc (Nat.le_refl _) _).drew
                have k0b0 : Blk Wb0 wS.heap.size 3 #[.int .i64 (r.now + (q : Int))] := by rw [← hW]; exact Blk.new _ _ _
                have hg0b0 : X.heap.size ≤ wS.heap.size := HT.out.st.sz
                rw [hW]
                clear hW
                have hNb0 := HT.out.below hbn
                refine hK.out _ _ (hNb0.st.bg.cell 4) (fun hHeld => ?_)
                clear hK K
                try simp only [List.getElem_toArray, List.getElem_cons_succ, List.getElem_cons_zero, Act.put, List.setIfInBounds_toArray, List.set_cons_zero, List.set_cons_succ]
                refine wpAnyH_ready (rs := [3, 7, 11]) (by kernel_rfl) (by simp) ?_
                refine AllReadyH.cons (o := _) rfl (fun K hK => ?_) ?_
                · try simp only [List.getElem_toArray, List.getElem_cons_succ, List.getElem_cons_zero]
                  rw [if_pos (show Region.wanted _ _ = true from rfl)]
                  have hz9 := hNb0.st.sz
                  refine wp_append_any _ (.tmp 72) (.tmp 74) 40 (by rfl) (w.heap.size + 2) 3 i0 _ 1 8 Try.underlying40 HI.out.1 HI.out.2.1 HI.out.2.2.1 HI.out.2.2.2 rfl (by omega) u3 r.tm.length (i64s r.tm) (by rfl) hNb0.rn.tri.o3 _ (some ⟨wS.heap.size, 0, none⟩) 1 1 [.int .i64 (r.now + (q : Int))] (by rfl) (k0b0.reads rfl) (by simp [Value.oneCell']) (by unfold maxLen; omega) (by omega) (by omega) ?_
                  intro vb0a0 Wb0a0 ho9 hg9 hv9
                  have hNb0a0 := (hNb0.push ho9 hg9 hv9 (by omega) hlt0)
                  clear hz9 ho9 hg9 hv9
                  refine hK.out _ _ (hNb0a0.st.bg.cell 4) (fun hHeld => ?_)
                  clear hK K
                  try simp only [List.getElem_toArray, List.getElem_cons_succ, List.getElem_cons_zero, Act.put, List.setIfInBounds_toArray, List.set_cons_zero, List.set_cons_succ]
                  refine wpAnyH_ready (rs := [7, 11]) (by kernel_rfl) (by simp) ?_
                  refine AllReadyH.cons (o := _) rfl (fun K hK => ?_) ?_
                  · try simp only [List.getElem_toArray, List.getElem_cons_succ, List.getElem_cons_zero]
                    go_simp
                    obtain ⟨Wb0a0b1, hW⟩ : ∃ W9, (Wb0a0.alloc (.cells #[.int .i64 SR.l.idle] 3)) = W9 := ⟨_, rfl⟩
                    have hbn : Below Wb0a0.heap.size Wb0a0 Wb0a0b1 := by rw [← hW]; exact (Below.refl _ Wb0a0).alloc (Nat.le_refl _) _
                    have k1b0a0b1 : Blk Wb0a0b1 Wb0a0.heap.size 3 #[.int .i64 SR.l.idle] := by rw [← hW]; exact Blk.new _ _ _
                    have hg1b0a0b1 : X.heap.size ≤ Wb0a0.heap.size := hNb0a0.st.sz
                    rw [hW]
                    clear hW
                    have hNb0a0b1 := hNb0a0.below hbn
                    refine hK.out _ _ (hNb0a0b1.st.bg.cell 4) (fun hHeld => ?_)
                    clear hK K
                    try simp only [List.getElem_toArray, List.getElem_cons_succ, List.getElem_cons_zero, Act.put, List.setIfInBounds_toArray, List.set_cons_zero, List.set_cons_succ]
                    refine wpAnyH_ready (rs := [8, 11]) (by kernel_rfl) (by simp) ?_
                    refine AllReadyH.cons (o := _) rfl (fun K hK => ?_) ?_
                    · try simp only [List.getElem_toArray, List.getElem_cons_succ, List.getElem_cons_zero]
                      rw [if_pos (show Region.wanted _ _ = true from rfl)]
                      have hz9 := hNb0a0b1.st.sz
                      refine wp_append_any _ (.tmp 76) (.tmp 79) 40 (by rfl) (w.heap.size + 2) 3 i0 _ 1 8 Try.underlying40 HI.out.1 HI.out.2.1 HI.out.2.2.1 HI.out.2.2.2 rfl (by omega) u4 r.id.length (i64s r.id) (by rfl) hNb0a0b1.rn.tri.o4 _ (some ⟨Wb0a0.heap.size, 0, none⟩) 1 1 [.int .i64 SR.l.idle] (by rfl) (k1b0a0b1.reads rfl) (by simp [Value.oneCell']) (by unfold maxLen; omega) (by omega) (by omega) ?_
                      intro vb0a0b1a1 Wb0a0b1a1 ho9 hg9 hv9
                      have hNb0a0b1a1 := (hNb0a0b1.s34.push ho9 hg9 hv9 (by omega) hlt1).s34
                      clear hz9 ho9 hg9 hv9
                      refine hK.out _ _ (hNb0a0b1a1.st.bg.cell 4) (fun hHeld => ?_)
                      clear hK K
                      try simp only [List.getElem_toArray, List.getElem_cons_succ, List.getElem_cons_zero, Act.put, List.setIfInBounds_toArray, List.set_cons_zero, List.set_cons_succ]
                      refine wpAnyH_ready (rs := [11]) (by kernel_rfl) (by simp) ?_
                      refine AllReadyH.cons (o := _) rfl (fun K hK => ?_) ?_
                      · try simp only [List.getElem_toArray, List.getElem_cons_succ, List.getElem_cons_zero]
                        go_simp
                        obtain ⟨Wb0a0b1a1b2, hW⟩ : ∃ W9, (Wb0a0b1a1.alloc (.cells #[.int .i64 (nk : Nat)] 3)) = W9 := ⟨_, rfl⟩
                        have hbn : Below Wb0a0b1a1.heap.size Wb0a0b1a1 Wb0a0b1a1b2 := by rw [← hW]; exact (Below.refl _ Wb0a0b1a1).alloc (Nat.le_refl _) _
                        have k2b0a0b1a1b2 : Blk Wb0a0b1a1b2 Wb0a0b1a1.heap.size 3 #[.int .i64 (nk : Nat)] := by rw [← hW]; exact Blk.new _ _ _
                        have hg2b0a0b1a1b2 : X.heap.size ≤ Wb0a0b1a1.heap.size := hNb0a0b1a1.st.sz
                        rw [hW]
                        clear hW
                        have hNb0a0b1a1b2 := hNb0a0b1a1.below hbn
                        refine hK.out _ _ (hNb0a0b1a1b2.st.bg.cell 4) (fun hHeld => ?_)
                        clear hK K
                        try simp only [List.getElem_toArray, List.getElem_cons_succ, List.getElem_cons_zero, Act.put, List.setIfInBounds_toArray, List.set_cons_zero, List.set_cons_succ]
                        refine wpAnyH_ready (rs := [12]) (by kernel_rfl) (by simp) ?_
                        refine AllReadyH.cons (o := _) rfl (fun K hK => ?_) ?_
                        · try simp only [List.getElem_toArray, List.getElem_cons_succ, List.getElem_cons_zero]
                          rw [if_pos (show Region.wanted _ _ = true from rfl)]
                          have hz9 := hNb0a0b1a1b2.st.sz
                          refine wp_append_any _ (.tmp 81) (.tmp 83) 40 (by rfl) (w.heap.size + 2) 3 i0 _ 1 8 Try.underlying40 HI.out.1 HI.out.2.1 HI.out.2.2.1 HI.out.2.2.2 rfl (by omega) u5 r.cp.length (i64s r.cp) (by rfl) hNb0a0b1a1b2.rn.tri.o5 _ (some ⟨Wb0a0b1a1.heap.size, 0, none⟩) 1 1 [.int .i64 (nk : Nat)] (by rfl) (k2b0a0b1a1b2.reads rfl) (by simp [Value.oneCell']) (by unfold maxLen; omega) (by omega) (by omega) ?_
                          intro vb0a0b1a1b2a2 Wb0a0b1a1b2a2 ho9 hg9 hv9
                          have hNb0a0b1a1b2a2 := (hNb0a0b1a1b2.s35.push ho9 hg9 hv9 (by omega) hlt2).s35
                          clear hz9 ho9 hg9 hv9
                          refine hK.out _ _ (hNb0a0b1a1b2a2.st.bg.cell 4) (fun hHeld => ?_)
                          clear hK K
                          try simp only [List.getElem_toArray, List.getElem_cons_succ, List.getElem_cons_zero, Act.put, List.setIfInBounds_toArray, List.set_cons_zero, List.set_cons_succ]
                          refine wpAnyH_done (by kernel_rfl) ?_ _
                          refine tailQ_step rfl ?_
                          go_wp2_with fail
                          refine tailQ_step rfl ?_
                          go_wp2_with fail
                          refine tailQ_step rfl ?_
                          go_wp2_with fail
                          refine tailQ_nil (panQ_normal ?_)
                          try go_wp2_with fail
                          go_meet
                          exact hNb0a0b1a1b2a2
                        exact AllReadyH.nil
                      exact AllReadyH.nil
                    refine AllReadyH.cons (o := _) rfl (fun K hK => ?_) ?_
                    · try simp only [List.getElem_toArray, List.getElem_cons_succ, List.getElem_cons_zero]
                      go_simp
                      obtain ⟨Wb0a0b1b2, hW⟩ : ∃ W9, (Wb0a0b1.alloc (.cells #[.int .i64 (nk : Nat)] 3)) = W9 := ⟨_, rfl⟩
                      have hbn : Below Wb0a0b1.heap.size Wb0a0b1 Wb0a0b1b2 := by rw [← hW]; exact (Below.refl _ Wb0a0b1).alloc (Nat.le_refl _) _
                      have k2b0a0b1b2 : Blk Wb0a0b1b2 Wb0a0b1.heap.size 3 #[.int .i64 (nk : Nat)] := by rw [← hW]; exact Blk.new _ _ _
                      have k1b0a0b1b2 := k1b0a0b1.below hbn k1b0a0b1.lt
                      have hg2b0a0b1b2 : X.heap.size ≤ Wb0a0b1.heap.size := hNb0a0b1.st.sz
                      rw [hW]
                      clear hW
                      have hNb0a0b1b2 := hNb0a0b1.below hbn
                      refine hK.out _ _ (hNb0a0b1b2.st.bg.cell 4) (fun hHeld => ?_)
                      clear hK K
                      try simp only [List.getElem_toArray, List.getElem_cons_succ, List.getElem_cons_zero, Act.put, List.setIfInBounds_toArray, List.set_cons_zero, List.set_cons_succ]
                      refine wpAnyH_ready (rs := [8]) (by kernel_rfl) (by simp) ?_
                      refine AllReadyH.cons (o := _) rfl (fun K hK => ?_) ?_
                      · try simp only [List.getElem_toArray, List.getElem_cons_succ, List.getElem_cons_zero]
                        rw [if_pos (show Region.wanted _ _ = true from rfl)]
                        have hz9 := hNb0a0b1b2.st.sz
                        refine wp_append_any _ (.tmp 76) (.tmp 79) 40 (by rfl) (w.heap.size + 2) 3 i0 _ 1 8 Try.underlying40 HI.out.1 HI.out.2.1 HI.out.2.2.1 HI.out.2.2.2 rfl (by omega) u4 r.id.length (i64s r.id) (by rfl) hNb0a0b1b2.rn.tri.o4 _ (some ⟨Wb0a0.heap.size, 0, none⟩) 1 1 [.int .i64 SR.l.idle] (by rfl) (k1b0a0b1b2.reads rfl) (by simp [Value.oneCell']) (by unfold maxLen; omega) (by omega) (by omega) ?_
                        intro vb0a0b1b2a1 Wb0a0b1b2a1 ho9 hg9 hv9
                        have hNb0a0b1b2a1 := (hNb0a0b1b2.s34.push ho9 hg9 hv9 (by omega) hlt1).s34
                        have k2b0a0b1b2a1 := k2b0a0b1b2.grown hg9 (fun e9 => by have := hlt1 _ e9.symm; have := hg2b0a0b1b2; omega)
                        clear hz9 ho9 hg9 hv9
                        refine hK.out _ _ (hNb0a0b1b2a1.st.bg.cell 4) (fun hHeld => ?_)
                        clear hK K
                        try simp only [List.getElem_toArray, List.getElem_cons_succ, List.getElem_cons_zero, Act.put, List.setIfInBounds_toArray, List.set_cons_zero, List.set_cons_succ]
                        refine wpAnyH_ready (rs := [12]) (by kernel_rfl) (by simp) ?_
                        refine AllReadyH.cons (o := _) rfl (fun K hK => ?_) ?_
                        · try simp only [List.getElem_toArray, List.getElem_cons_succ, List.getElem_cons_zero]
                          rw [if_pos (show Region.wanted _ _ = true from rfl)]
                          have hz9 := hNb0a0b1b2a1.st.sz
                          refine wp_append_any _ (.tmp 81) (.tmp 83) 40 (by rfl) (w.heap.size + 2) 3 i0 _ 1 8 Try.underlying40 HI.out.1 HI.out.2.1 HI.out.2.2.1 HI.out.2.2.2 rfl (by omega) u5 r.cp.length (i64s r.cp) (by rfl) hNb0a0b1b2a1.rn.tri.o5 _ (some ⟨Wb0a0b1.heap.size, 0, none⟩) 1 1 [.int .i64 (nk : Nat)] (by rfl) (k2b0a0b1b2a1.reads rfl) (by simp [Value.oneCell']) (by unfold maxLen; omega) (by omega) (by omega) ?_
                          intro vb0a0b1b2a1a2 Wb0a0b1b2a1a2 ho9 hg9 hv9
                          have hNb0a0b1b2a1a2 := (hNb0a0b1b2a1.s35.push ho9 hg9 hv9 (by omega) hlt2).s35
                          clear hz9 ho9 hg9 hv9
                          refine hK.out _ _ (hNb0a0b1b2a1a2.st.bg.cell 4) (fun hHeld => ?_)
                          clear hK K
                          try simp only [List.getElem_toArray, List.getElem_cons_succ, List.getElem_cons_zero, Act.put, List.setIfInBounds_toArray, List.set_cons_zero, List.set_cons_succ]
                          refine wpAnyH_done (by kernel_rfl) ?_ _
                          refine tailQ_step rfl ?_
                          go_wp2_with fail
                          refine tailQ_step rfl ?_
                          go_wp2_with fail
                          refine tailQ_step rfl ?_
                          go_wp2_with fail
                          refine tailQ_nil (panQ_normal ?_)
                          try go_wp2_with fail
                          go_meet
                          exact hNb0a0b1b2a1a2
                        exact AllReadyH.nil
                      exact AllReadyH.nil
                    exact AllReadyH.nil
                  refine AllReadyH.cons (o := _) rfl (fun K hK => ?_) ?_
                  · try simp only [List.getElem_toArray, List.getElem_cons_succ, List.getElem_cons_zero]
                    go_simp
                    obtain ⟨Wb0a0b2, hW⟩ : ∃ W9, (Wb0a0.alloc (.cells #[.int .i64 (nk : Nat)] 3)) = W9 := ⟨_, rfl⟩
                    have hbn : Below Wb0a0.heap.size Wb0a0 Wb0a0b2 := by rw [← hW]; exact (Below.refl _ Wb0a0).alloc (Nat.le_refl _) _
                    have k2b0a0b2 : Blk Wb0a0b2 Wb0a0.heap.size 3 #[.int .i64 (nk : Nat)] := by rw [← hW]; exact Blk.new _ _ _
                    have hg2b0a0b2 : X.heap.size ≤ Wb0a0.heap.size := hNb0a0.st.sz
                    rw [hW]
                    clear hW
                    have hNb0a0b2 := hNb0a0.below hbn
                    refine hK.out _ _ (hNb0a0b2.st.bg.cell 4) (fun hHeld => ?_)
                    clear hK K
                    try simp only [List.getElem_toArray, List.getElem_cons_succ, List.getElem_cons_zero, Act.put, List.setIfInBounds_toArray, List.set_cons_zero, List.set_cons_succ]
                    refine wpAnyH_ready (rs := [7]) (by kernel_rfl) (by simp) ?_
                    refine AllReadyH.cons (o := _) rfl (fun K hK => ?_) ?_
                    · try simp only [List.getElem_toArray, List.getElem_cons_succ, List.getElem_cons_zero]
                      go_simp
                      obtain ⟨Wb0a0b2b1, hW⟩ : ∃ W9, (Wb0a0b2.alloc (.cells #[.int .i64 SR.l.idle] 3)) = W9 := ⟨_, rfl⟩
                      have hbn : Below Wb0a0b2.heap.size Wb0a0b2 Wb0a0b2b1 := by rw [← hW]; exact (Below.refl _ Wb0a0b2).alloc (Nat.le_refl _) _
                      have k1b0a0b2b1 : Blk Wb0a0b2b1 Wb0a0b2.heap.size 3 #[.int .i64 SR.l.idle] := by rw [← hW]; exact Blk.new _ _ _
                      have k2b0a0b2b1 := k2b0a0b2.below hbn k2b0a0b2.lt
                      have hg1b0a0b2b1 : X.heap.size ≤ Wb0a0b2.heap.size := hNb0a0b2.st.sz
                      rw [hW]
                      clear hW
                      have hNb0a0b2b1 := hNb0a0b2.below hbn
                      refine hK.out _ _ (hNb0a0b2b1.st.bg.cell 4) (fun hHeld => ?_)
                      clear hK K
                      try simp only [List.getElem_toArray, List.getElem_cons_succ, List.getElem_cons_zero, Act.put, List.setIfInBounds_toArray, List.set_cons_zero, List.set_cons_succ]
                      refine wpAnyH_ready (rs := [8]) (by kernel_rfl) (by simp) ?_
                      refine AllReadyH.cons (o := _) rfl (fun K hK => ?_) ?_
                      · try simp only [List.getElem_toArray, List.getElem_cons_succ, List.getElem_cons_zero]
                        rw [if_pos (show Region.wanted _ _ = true from rfl)]
                        have hz9 := hNb0a0b2b1.st.sz
                        refine wp_append_any _ (.tmp 76) (.tmp 79) 40 (by rfl) (w.heap.size + 2) 3 i0 _ 1 8 Try.underlying40 HI.out.1 HI.out.2.1 HI.out.2.2.1 HI.out.2.2.2 rfl (by omega) u4 r.id.length (i64s r.id) (by rfl) hNb0a0b2b1.rn.tri.o4 _ (some ⟨Wb0a0b2.heap.size, 0, none⟩) 1 1 [.int .i64 SR.l.idle] (by rfl) (k1b0a0b2b1.reads rfl) (by simp [Value.oneCell']) (by unfold maxLen; omega) (by omega) (by omega) ?_
                        intro vb0a0b2b1a1 Wb0a0b2b1a1 ho9 hg9 hv9
                        have hNb0a0b2b1a1 := (hNb0a0b2b1.s34.push ho9 hg9 hv9 (by omega) hlt1).s34
                        have k2b0a0b2b1a1 := k2b0a0b2b1.grown hg9 (fun e9 => by have := hlt1 _ e9.symm; have := hg2b0a0b2; omega)
                        clear hz9 ho9 hg9 hv9
                        refine hK.out _ _ (hNb0a0b2b1a1.st.bg.cell 4) (fun hHeld => ?_)
                        clear hK K
                        try simp only [List.getElem_toArray, List.getElem_cons_succ, List.getElem_cons_zero, Act.put, List.setIfInBounds_toArray, List.set_cons_zero, List.set_cons_succ]
                        refine wpAnyH_ready (rs := [12]) (by kernel_rfl) (by simp) ?_
                        refine AllReadyH.cons (o := _) rfl (fun K hK => ?_) ?_
                        · try simp only [List.getElem_toArray, List.getElem_cons_succ, List.getElem_cons_zero]
                          rw [if_pos (show Region.wanted _ _ = true from rfl)]
                          have hz9 := hNb0a0b2b1a1.st.sz
                          refine wp_append_any _ (.tmp 81) (.tmp 83) 40 (by rfl) (w.heap.size + 2) 3 i0 _ 1 8 Try.underlying40 HI.out.1 HI.out.2.1 HI.out.2.2.1 HI.out.2.2.2 rfl (by omega) u5 r.cp.length (i64s r.cp) (by rfl) hNb0a0b2b1a1.rn.tri.o5 _ (some ⟨Wb0a0.heap.size, 0, none⟩) 1 1 [.int .i64 (nk : Nat)] (by rfl) (k2b0a0b2b1a1.reads rfl) (by simp [Value.oneCell']) (by unfold maxLen; omega) (by omega) (by omega) ?_
                          intro vb0a0b2b1a1a2 Wb0a0b2b1a1a2 ho9 hg9 hv9
                          have hNb0a0b2b1a1a2 := (hNb0a0b2b1a1.s35.push ho9 hg9 hv9 (by omega) hlt2).s35
                          clear hz9 ho9 hg9 hv9
                          refine hK.out _ _ (hNb0a0b2b1a1a2.st.bg.cell 4) (fun hHeld => ?_)
                          clear hK K
                          try simp only [List.getElem_toArray, List.getElem_cons_succ, List.getElem_cons_zero, Act.put, List.setIfInBounds_toArray, List.set_cons_zero, List.set_cons_succ]
                          refine wpAnyH_done (by kernel_rfl) ?_ _
                          refine tailQ_step rfl ?_
                          go_wp2_with fail
                          refine tailQ_step rfl ?_
                          go_wp2_with fail
                          refine tailQ_step rfl ?_
                          go_wp2_with fail
                          refine tailQ_nil (panQ_normal ?_)
                          try go_wp2_with fail
                          go_meet
                          exact hNb0a0b2b1a1a2
                        exact AllReadyH.nil
                      exact AllReadyH.nil
                    exact AllReadyH.nil
                  exact AllReadyH.nil
                refine AllReadyH.cons (o := _) rfl (fun K hK => ?_) ?_
                · try simp only [List.getElem_toArray, List.getElem_cons_succ, List.getElem_cons_zero]
                  go_simp
                  obtain ⟨Wb0b1, hW⟩ : ∃ W9, (Wb0.alloc (.cells #[.int .i64 SR.l.idle] 3)) = W9 := ⟨_, rfl⟩
                  have hbn : Below Wb0.heap.size Wb0 Wb0b1 := by rw [← hW]; exact (Below.refl _ Wb0).alloc (Nat.le_refl _) _
                  have k1b0b1 : Blk Wb0b1 Wb0.heap.size 3 #[.int .i64 SR.l.idle] := by rw [← hW]; exact Blk.new _ _ _
                  have k0b0b1 := k0b0.below hbn k0b0.lt
                  have hg1b0b1 : X.heap.size ≤ Wb0.heap.size := hNb0.st.sz
                  rw [hW]
                  clear hW
                  have hNb0b1 := hNb0.below hbn
                  refine hK.out _ _ (hNb0b1.st.bg.cell 4) (fun hHeld => ?_)
                  clear hK K
                  try simp only [List.getElem_toArray, List.getElem_cons_succ, List.getElem_cons_zero, Act.put, List.setIfInBounds_toArray, List.set_cons_zero, List.set_cons_succ]
                  refine wpAnyH_ready (rs := [3, 11]) (by kernel_rfl) (by simp) ?_
                  refine AllReadyH.cons (o := _) rfl (fun K hK => ?_) ?_
                  · try simp only [List.getElem_toArray, List.getElem_cons_succ, List.getElem_cons_zero]
                    rw [if_pos (show Region.wanted _ _ = true from rfl)]
                    have hz9 := hNb0b1.st.sz
                    refine wp_append_any _ (.tmp 72) (.tmp 74) 40 (by rfl) (w.heap.size + 2) 3 i0 _ 1 8 Try.underlying40 HI.out.1 HI.out.2.1 HI.out.2.2.1 HI.out.2.2.2 rfl (by omega) u3 r.tm.length (i64s r.tm) (by rfl) hNb0b1.rn.tri.o3 _ (some ⟨wS.heap.size, 0, none⟩) 1 1 [.int .i64 (r.now + (q : Int))] (by rfl) (k0b0b1.reads rfl) (by simp [Value.oneCell']) (by unfold maxLen; omega) (by omega) (by omega) ?_
                    intro vb0b1a0 Wb0b1a0 ho9 hg9 hv9
                    have hNb0b1a0 := (hNb0b1.push ho9 hg9 hv9 (by omega) hlt0)
                    have k1b0b1a0 := k1b0b1.grown hg9 (fun e9 => by have := hlt0 _ e9.symm; have := hg1b0b1; omega)
                    clear hz9 ho9 hg9 hv9
                    refine hK.out _ _ (hNb0b1a0.st.bg.cell 4) (fun hHeld => ?_)
                    clear hK K
                    try simp only [List.getElem_toArray, List.getElem_cons_succ, List.getElem_cons_zero, Act.put, List.setIfInBounds_toArray, List.set_cons_zero, List.set_cons_succ]
                    refine wpAnyH_ready (rs := [8, 11]) (by kernel_rfl) (by simp) ?_
                    refine AllReadyH.cons (o := _) rfl (fun K hK => ?_) ?_
                    · try simp only [List.getElem_toArray, List.getElem_cons_succ, List.getElem_cons_zero]
                      rw [if_pos (show Region.wanted _ _ = true from rfl)]
                      have hz9 := hNb0b1a0.st.sz
                      refine wp_append_any _ (.tmp 76) (.tmp 79) 40 (by rfl) (w.heap.size + 2) 3 i0 _ 1 8 Try.underlying40 HI.out.1 HI.out.2.1 HI.out.2.2.1 HI.out.2.2.2 rfl (by omega) u4 r.id.length (i64s r.id) (by rfl) hNb0b1a0.rn.tri.o4 _ (some ⟨Wb0.heap.size, 0, none⟩) 1 1 [.int .i64 SR.l.idle] (by rfl) (k1b0b1a0.reads rfl) (by simp [Value.oneCell']) (by unfold maxLen; omega) (by omega) (by omega) ?_
                      intro vb0b1a0a1 Wb0b1a0a1 ho9 hg9 hv9
                      have hNb0b1a0a1 := (hNb0b1a0.s34.push ho9 hg9 hv9 (by omega) hlt1).s34
                      clear hz9 ho9 hg9 hv9
                      refine hK.out _ _ (hNb0b1a0a1.st.bg.cell 4) (fun hHeld => ?_)
                      clear hK K
                      try simp only [List.getElem_toArray, List.getElem_cons_succ, List.getElem_cons_zero, Act.put, List.setIfInBounds_toArray, List.set_cons_zero, List.set_cons_succ]
                      refine wpAnyH_ready (rs := [11]) (by kernel_rfl) (by simp) ?_
                      refine AllReadyH.cons (o := _) rfl (fun K hK => ?_) ?_
                      · try simp only [List.getElem_toArray, List.getElem_cons_succ, List.getElem_cons_zero]
                        go_simp
                        obtain ⟨Wb0b1a0a1b2, hW⟩ : ∃ W9, (Wb0b1a0a1.alloc (.cells #[.int .i64 (nk : Nat)] 3)) = W9 := ⟨_, rfl⟩
                        have hbn : Below Wb0b1a0a1.heap.size Wb0b1a0a1 Wb0b1a0a1b2 := by rw [← hW]; exact (Below.refl _ Wb0b1a0a1).alloc (Nat.le_refl _) _
                        have k2b0b1a0a1b2 : Blk Wb0b1a0a1b2 Wb0b1a0a1.heap.size 3 #[.int .i64 (nk : Nat)] := by rw [← hW]; exact Blk.new _ _ _
                        have hg2b0b1a0a1b2 : X.heap.size ≤ Wb0b1a0a1.heap.size := hNb0b1a0a1.st.sz
                        rw [hW]
                        clear hW
                        have hNb0b1a0a1b2 := hNb0b1a0a1.below hbn
                        refine hK.out _ _ (hNb0b1a0a1b2.st.bg.cell 4) (fun hHeld => ?_)
                        clear hK K
                        try simp only [List.getElem_toArray, List.getElem_cons_succ, List.getElem_cons_zero, Act.put, List.setIfInBounds_toArray, List.set_cons_zero, List.set_cons_succ]
                        refine wpAnyH_ready (rs := [12]) (by kernel_rfl) (by simp) ?_
                        refine AllReadyH.cons (o := _) rfl (fun K hK => ?_) ?_
                        · try simp only [List.getElem_toArray, List.getElem_cons_succ, List.getElem_cons_zero]
                          rw [if_pos (show Region.wanted _ _ = true from rfl)]
                          have hz9 := hNb0b1a0a1b2.st.sz
                          refine wp_append_any _ (.tmp 81) (.tmp 83) 40 (by rfl) (w.heap.size + 2) 3 i0 _ 1 8 Try.underlying40 HI.out.1 HI.out.2.1 HI.out.2.2.1 HI.out.2.2.2 rfl (by omega) u5 r.cp.length (i64s r.cp) (by rfl) hNb0b1a0a1b2.rn.tri.o5 _ (some ⟨Wb0b1a0a1.heap.size, 0, none⟩) 1 1 [.int .i64 (nk : Nat)] (by rfl) (k2b0b1a0a1b2.reads rfl) (by simp [Value.oneCell']) (by unfold maxLen; omega) (by omega) (by omega) ?_
                          intro vb0b1a0a1b2a2 Wb0b1a0a1b2a2 ho9 hg9 hv9
                          have hNb0b1a0a1b2a2 := (hNb0b1a0a1b2.s35.push ho9 hg9 hv9 (by omega) hlt2).s35
                          clear hz9 ho9 hg9 hv9
                          refine hK.out _ _ (hNb0b1a0a1b2a2.st.bg.cell 4) (fun hHeld => ?_)
                          clear hK K
                          try simp only [List.getElem_toArray, List.getElem_cons_succ, List.getElem_cons_zero, Act.put, List.setIfInBounds_toArray, List.set_cons_zero, List.set_cons_succ]
                          refine wpAnyH_done (by kernel_rfl) ?_ _
                          refine tailQ_step rfl ?_
                          go_wp2_with fail
                          refine tailQ_step rfl ?_
                          go_wp2_with fail
                          refine tailQ_step rfl ?_
                          go_wp2_with fail
                          refine tailQ_nil (panQ_normal ?_)
                          try go_wp2_with fail
                          go_meet
                          exact hNb0b1a0a1b2a2
                        exact AllReadyH.nil
                      exact AllReadyH.nil
                    refine AllReadyH.cons (o := _) rfl (fun K hK => ?_) ?_
                    · try simp only [List.getElem_toArray, List.getElem_cons_succ, List.getElem_cons_zero]
                      go_simp
                      obtain ⟨Wb0b1a0b2, hW⟩ : ∃ W9, (Wb0b1a0.alloc (.cells #[.int .i64 (nk : Nat)] 3)) = W9 := ⟨_, rfl⟩
                      have hbn : Below Wb0b1a0.heap.size Wb0b1a0 Wb0b1a0b2 := by rw [← hW]; exact (Below.refl _ Wb0b1a0).alloc (Nat.le_refl _) _
                      have k2b0b1a0b2 : Blk Wb0b1a0b2 Wb0b1a0.heap.size 3 #[.int .i64 (nk : Nat)] := by rw [← hW]; exact Blk.new _ _ _
                      have k1b0b1a0b2 := k1b0b1a0.below hbn k1b0b1a0.lt
                      have hg2b0b1a0b2 : X.heap.size ≤ Wb0b1a0.heap.size := hNb0b1a0.st.sz
                      rw [hW]
                      clear hW
                      have hNb0b1a0b2 := hNb0b1a0.below hbn
                      refine hK.out _ _ (hNb0b1a0b2.st.bg.cell 4) (fun hHeld => ?_)
                      clear hK K
                      try simp only [List.getElem_toArray, List.getElem_cons_succ, List.getElem_cons_zero, Act.put, List.setIfInBounds_toArray, List.set_cons_zero, List.set_cons_succ]
                      refine wpAnyH_ready (rs := [8]) (by kernel_rfl) (by simp) ?_
                      refine AllReadyH.cons (o := _) rfl (fun K hK => ?_) ?_
                      · try simp only [List.getElem_toArray, List.getElem_cons_succ, List.getElem_cons_zero]
                        rw [if_pos (show Region.wanted _ _ = true from rfl)]
                        have hz9 := hNb0b1a0b2.st.sz
                        refine wp_append_any _ (.tmp 76) (.tmp 79) 40 (by rfl) (w.heap.size + 2) 3 i0 _ 1 8 Try.underlying40 HI.out.1 HI.out.2.1 HI.out.2.2.1 HI.out.2.2.2 rfl (by omega) u4 r.id.length (i64s r.id) (by rfl) hNb0b1a0b2.rn.tri.o4 _ (some ⟨Wb0.heap.size, 0, none⟩) 1 1 [.int .i64 SR.l.idle] (by rfl) (k1b0b1a0b2.reads rfl) (by simp [Value.oneCell']) (by unfold maxLen; omega) (by omega) (by omega) ?_
                        intro vb0b1a0b2a1 Wb0b1a0b2a1 ho9 hg9 hv9
                        have hNb0b1a0b2a1 := (hNb0b1a0b2.s34.push ho9 hg9 hv9 (by omega) hlt1).s34
                        have k2b0b1a0b2a1 := k2b0b1a0b2.grown hg9 (fun e9 => by have := hlt1 _ e9.symm; have := hg2b0b1a0b2; omega)
                        clear hz9 ho9 hg9 hv9
                        refine hK.out _ _ (hNb0b1a0b2a1.st.bg.cell 4) (fun hHeld => ?_)
                        clear hK K
                        try simp only [List.getElem_toArray, List.getElem_cons_succ, List.getElem_cons_zero, Act.put, List.setIfInBounds_toArray, List.set_cons_zero, List.set_cons_succ]
                        refine wpAnyH_ready (rs := [12]) (by kernel_rfl) (by simp) ?_
                        refine AllReadyH.cons (o := _) rfl (fun K hK => ?_) ?_
                        · try simp only [List.getElem_toArray, List.getElem_cons_succ, List.getElem_cons_zero]
                          rw [if_pos (show Region.wanted _ _ = true from rfl)]
                          have hz9 := hNb0b1a0b2a1.st.sz
                          refine wp_append_any _ (.tmp 81) (.tmp 83) 40 (by rfl) (w.heap.size + 2) 3 i0 _ 1 8 Try.underlying40 HI.out.1 HI.out.2.1 HI.out.2.2.1 HI.out.2.2.2 rfl (by omega) u5 r.cp.length (i64s r.cp) (by rfl) hNb0b1a0b2a1.rn.tri.o5 _ (some ⟨Wb0b1a0.heap.size, 0, none⟩) 1 1 [.int .i64 (nk : Nat)] (by rfl) (k2b0b1a0b2a1.reads rfl) (by simp [Value.oneCell']) (by unfold maxLen; omega) (by omega) (by omega) ?_
                          intro vb0b1a0b2a1a2 Wb0b1a0b2a1a2 ho9 hg9 hv9
                          have hNb0b1a0b2a1a2 := (hNb0b1a0b2a1.s35.push ho9 hg9 hv9 (by omega) hlt2).s35
                          clear hz9 ho9 hg9 hv9
                          refine hK.out _ _ (hNb0b1a0b2a1a2.st.bg.cell 4) (fun hHeld => ?_)
                          clear hK K
                          try simp only [List.getElem_toArray, List.getElem_cons_succ, List.getElem_cons_zero, Act.put, List.setIfInBounds_toArray, List.set_cons_zero, List.set_cons_succ]
                          refine wpAnyH_done (by kernel_rfl) ?_ _
                          refine tailQ_step rfl ?_
                          go_wp2_with fail
                          refine tailQ_step rfl ?_
                          go_wp2_with fail
                          refine tailQ_step rfl ?_
                          go_wp2_with fail
                          refine tailQ_nil (panQ_normal ?_)
                          try go_wp2_with fail
                          go_meet
                          exact hNb0b1a0b2a1a2
                        exact AllReadyH.nil
                      exact AllReadyH.nil
                    exact AllReadyH.nil
                  refine AllReadyH.cons (o := _) rfl (fun K hK => ?_) ?_
                  · try simp only [List.getElem_toArray, List.getElem_cons_succ, List.getElem_cons_zero]
                    go_simp
                    obtain ⟨Wb0b1b2, hW⟩ : ∃ W9, (Wb0b1.alloc (.cells #[.int .i64 (nk : Nat)] 3)) = W9 := ⟨_, rfl⟩
                    have hbn : Below Wb0b1.heap.size Wb0b1 Wb0b1b2 := by rw [← hW]; exact (Below.refl _ Wb0b1).alloc (Nat.le_refl _) _
                    have k2b0b1b2 : Blk Wb0b1b2 Wb0b1.heap.size 3 #[.int .i64 (nk : Nat)] := by rw [← hW]; exact Blk.new _ _ _
                    have k0b0b1b2 := k0b0b1.below hbn k0b0b1.lt
                    have k1b0b1b2 := k1b0b1.below hbn k1b0b1.lt
                    have hg2b0b1b2 : X.heap.size ≤ Wb0b1.heap.size := hNb0b1.st.sz
                    rw [hW]
                    clear hW
                    have hNb0b1b2 := hNb0b1.below hbn
                    refine hK.out _ _ (hNb0b1b2.st.bg.cell 4) (fun hHeld => ?_)
                    clear hK K
                    try simp only [List.getElem_toArray, List.getElem_cons_succ, List.getElem_cons_zero, Act.put, List.setIfInBounds_toArray, List.set_cons_zero, List.set_cons_succ]
                    refine wpAnyH_ready (rs := [3]) (by kernel_rfl) (by simp) ?_
                    refine AllReadyH.cons (o := _) rfl (fun K hK => ?_) ?_
                    · try simp only [List.getElem_toArray, List.getElem_cons_succ, List.getElem_cons_zero]
                      rw [if_pos (show Region.wanted _ _ = true from rfl)]
                      have hz9 := hNb0b1b2.st.sz
                      refine wp_append_any _ (.tmp 72) (.tmp 74) 40 (by rfl) (w.heap.size + 2) 3 i0 _ 1 8 Try.underlying40 HI.out.1 HI.out.2.1 HI.out.2.2.1 HI.out.2.2.2 rfl (by omega) u3 r.tm.length (i64s r.tm) (by rfl) hNb0b1b2.rn.tri.o3 _ (some ⟨wS.heap.size, 0, none⟩) 1 1 [.int .i64 (r.now + (q : Int))] (by rfl) (k0b0b1b2.reads rfl) (by simp [Value.oneCell']) (by unfold maxLen; omega) (by omega) (by omega) ?_
                      intro vb0b1b2a0 Wb0b1b2a0 ho9 hg9 hv9
                      have hNb0b1b2a0 := (hNb0b1b2.push ho9 hg9 hv9 (by omega) hlt0)
                      have k1b0b1b2a0 := k1b0b1b2.grown hg9 (fun e9 => by have := hlt0 _ e9.symm; have := hg1b0b1; omega)
                      have k2b0b1b2a0 := k2b0b1b2.grown hg9 (fun e9 => by have := hlt0 _ e9.symm; have := hg2b0b1b2; omega)
                      clear hz9 ho9 hg9 hv9
                      refine hK.out _ _ (hNb0b1b2a0.st.bg.cell 4) (fun hHeld => ?_)
                      clear hK K
                      try simp only [List.getElem_toArray, List.getElem_cons_succ, List.getElem_cons_zero, Act.put, List.setIfInBounds_toArray, List.set_cons_zero, List.set_cons_succ]
                      refine wpAnyH_ready (rs := [8]) (by kernel_rfl) (by simp) ?_
                      refine AllReadyH.cons (o := _) rfl (fun K hK => ?_) ?_
                      · try simp only [List.getElem_toArray, List.getElem_cons_succ, List.getElem_cons_zero]
                        rw [if_pos (show Region.wanted _ _ = true from rfl)]
                        have hz9 := hNb0b1b2a0.st.sz
                        refine wp_append_any _ (.tmp 76) (.tmp 79) 40 (by rfl) (w.heap.size + 2) 3 i0 _ 1 8 Try.underlying40 HI.out.1 HI.out.2.1 HI.out.2.2.1 HI.out.2.2.2 rfl (by omega) u4 r.id.length (i64s r.id) (by rfl) hNb0b1b2a0.rn.tri.o4 _ (some ⟨Wb0.heap.size, 0, none⟩) 1 1 [.int .i64 SR.l.idle] (by rfl) (k1b0b1b2a0.reads rfl) (by simp [Value.oneCell']) (by unfold maxLen; omega) (by omega) (by omega) ?_
                        intro vb0b1b2a0a1 Wb0b1b2a0a1 ho9 hg9 hv9
                        have hNb0b1b2a0a1 := (hNb0b1b2a0.s34.push ho9 hg9 hv9 (by omega) hlt1).s34
                        have k2b0b1b2a0a1 := k2b0b1b2a0.grown hg9 (fun e9 => by have := hlt1 _ e9.symm; have := hg2b0b1b2; omega)
                        clear hz9 ho9 hg9 hv9
                        refine hK.out _ _ (hNb0b1b2a0a1.st.bg.cell 4) (fun hHeld => ?_)
                        clear hK K
                        try simp only [List.getElem_toArray, List.getElem_cons_succ, List.getElem_cons_zero, Act.put, List.setIfInBounds_toArray, List.set_cons_zero, List.set_cons_succ]
                        refine wpAnyH_ready (rs := [12]) (by kernel_rfl) (by simp) ?_
                        refine AllReadyH.cons (o := _) rfl (fun K hK => ?_) ?_
                        · try simp only [List.getElem_toArray, List.getElem_cons_succ, List.getElem_cons_zero]
                          rw [if_pos (show Region.wanted _ _ = true from rfl)]
                          have hz9 := hNb0b1b2a0a1.st.sz
                          refine wp_append_any _ (.tmp 81) (.tmp 83) 40 (by rfl) (w.heap.size + 2) 3 i0 _ 1 8 Try.underlying40 HI.out.1 HI.out.2.1 HI.out.2.2.1 HI.out.2.2.2 rfl (by omega) u5 r.cp.length (i64s r.cp) (by rfl) hNb0b1b2a0a1.rn.tri.o5 _ (some ⟨Wb0b1.heap.size, 0, none⟩) 1 1 [.int .i64 (nk : Nat)] (by rfl) (k2b0b1b2a0a1.reads rfl) (by simp [Value.oneCell']) (by unfold maxLen; omega) (by omega) (by omega) ?_
                          intro vb0b1b2a0a1a2 Wb0b1b2a0a1a2 ho9 hg9 hv9
                          have hNb0b1b2a0a1a2 := (hNb0b1b2a0a1.s35.push ho9 hg9 hv9 (by omega) hlt2).s35
                          clear hz9 ho9 hg9 hv9
                          refine hK.out _ _ (hNb0b1b2a0a1a2.st.bg.cell 4) (fun hHeld => ?_)
                          clear hK K
                          try simp only [List.getElem_toArray, List.getElem_cons_succ, List.getElem_cons_zero, Act.put, List.setIfInBounds_toArray, List.set_cons_zero, List.set_cons_succ]
                          refine wpAnyH_done (by kernel_rfl) ?_ _
                          refine tailQ_step rfl ?_
                          go_wp2_with fail
                          refine tailQ_step rfl ?_
                          go_wp2_with fail
                          refine tailQ_step rfl ?_
                          go_wp2_with fail
                          refine tailQ_nil (panQ_normal ?_)
                          try go_wp2_with fail
                          go_meet
                          exact hNb0b1b2a0a1a2
                        exact AllReadyH.nil
                      exact AllReadyH.nil
                    exact AllReadyH.nil
                  exact AllReadyH.nil
                refine AllReadyH.cons (o := _) rfl (fun K hK => ?_) ?_
                · try simp only [List.getElem_toArray, List.getElem_cons_succ, List.getElem_cons_zero]
                  go_simp
                  obtain ⟨Wb0b2, hW⟩ : ∃ W9, (Wb0.alloc (.cells #[.int .i64 (nk : Nat)] 3)) = W9 := ⟨_, rfl⟩
                  have hbn : Below Wb0.heap.size Wb0 Wb0b2 := by rw [← hW]; exact (Below.refl _ Wb0).alloc (Nat.le_refl _) _
                  have k2b0b2 : Blk Wb0b2 Wb0.heap.size 3 #[.int .i64 (nk : Nat)] := by rw [← hW]; exact Blk.new _ _ _
                  have k0b0b2 := k0b0.below hbn k0b0.lt
                  have hg2b0b2 : X.heap.size ≤ Wb0.heap.size := hNb0.st.sz
                  rw [hW]
                  clear hW
                  have hNb0b2 := hNb0.below hbn
                  refine hK.out _ _ (hNb0b2.st.bg.cell 4) (fun hHeld => ?_)
                  clear hK K
                  try simp only [List.getElem_toArray, List.getElem_cons_succ, List.getElem_cons_zero, Act.put, List.setIfInBounds_toArray, List.set_cons_zero, List.set_cons_succ]
                  refine wpAnyH_ready (rs := [3, 7]) (by kernel_rfl) (by simp) ?_
                  refine AllReadyH.cons (o := _) rfl (fun K hK => ?_) ?_
                  · try simp only [List.getElem_toArray, List.getElem_cons_succ, List.getElem_cons_zero]
                    rw [if_pos (show Region.wanted _ _ = true from rfl)]
                    have hz9 := hNb0b2.st.sz
                    refine wp_append_any _ (.tmp 72) (.tmp 74) 40 (by rfl) (w.heap.size + 2) 3 i0 _ 1 8 Try.underlying40 HI.out.1 HI.out.2.1 HI.out.2.2.1 HI.out.2.2.2 rfl (by omega) u3 r.tm.length (i64s r.tm) (by rfl) hNb0b2.rn.tri.o3 _ (some ⟨wS.heap.size, 0, none⟩) 1 1 [.int .i64 (r.now + (q : Int))] (by rfl) (k0b0b2.reads rfl) (by simp [Value.oneCell']) (by unfold maxLen; omega) (by omega) (by omega) ?_
                    intro vb0b2a0 Wb0b2a0 ho9 hg9 hv9
                    have hNb0b2a0 := (hNb0b2.push ho9 hg9 hv9 (by omega) hlt0)
                    have k2b0b2a0 := k2b0b2.grown hg9 (fun e9 => by have := hlt0 _ e9.symm; have := hg2b0b2; omega)
                    clear hz9 ho9 hg9 hv9
                    refine hK.out _ _ (hNb0b2a0.st.bg.cell 4) (fun hHeld => ?_)
                    clear hK K
                    try simp only [List.getElem_toArray, List.getElem_cons_succ, List.getElem_cons_zero, Act.put, List.setIfInBounds_toArray, List.set_cons_zero, List.set_cons_succ]
                    refine wpAnyH_ready (rs := [7]) (by kernel_rfl) (by simp) ?_
                    refine AllReadyH.cons (o := _) rfl (fun K hK => ?_) ?_
                    · try simp only [List.getElem_toArray, List.getElem_cons_succ, List.getElem_cons_zero]
                      go_simp
                      obtain ⟨Wb0b2a0b1, hW⟩ : ∃ W9, (Wb0b2a0.alloc (.cells #[.int .i64 SR.l.idle] 3)) = W9 := ⟨_, rfl⟩
                      have hbn : Below Wb0b2a0.heap.size Wb0b2a0 Wb0b2a0b1 := by rw [← hW]; exact (Below.refl _ Wb0b2a0).alloc (Nat.le_refl _) _
                      have k1b0b2a0b1 : Blk Wb0b2a0b1 Wb0b2a0.heap.size 3 #[.int .i64 SR.l.idle] := by rw [← hW]; exact Blk.new _ _ _
                      have k2b0b2a0b1 := k2b0b2a0.below hbn k2b0b2a0.lt
                      have hg1b0b2a0b1 : X.heap.size ≤ Wb0b2a0.heap.size := hNb0b2a0.st.sz
                      rw [hW]
                      clear hW
                      have hNb0b2a0b1 := hNb0b2a0.below hbn
                      refine hK.out _ _ (hNb0b2a0b1.st.bg.cell 4) (fun hHeld => ?_)
                      clear hK K
                      try simp only [List.getElem_toArray, List.getElem_cons_succ, List.getElem_cons_zero, Act.put, List.setIfInBounds_toArray, List.set_cons_zero, List.set_cons_succ]
                      refine wpAnyH_ready (rs := [8]) (by kernel_rfl) (by simp) ?_
                      refine AllReadyH.cons (o := _) rfl (fun K hK => ?_) ?_
                      · try simp only [List.getElem_toArray, List.getElem_cons_succ, List.getElem_cons_zero]
                        rw [if_pos (show Region.wanted _ _ = true from rfl)]
                        have hz9 := hNb0b2a0b1.st.sz
                        refine wp_append_any _ (.tmp 76) (.tmp 79) 40 (by rfl) (w.heap.size + 2) 3 i0 _ 1 8 Try.underlying40 HI.out.1 HI.out.2.1 HI.out.2.2.1 HI.out.2.2.2 rfl (by omega) u4 r.id.length (i64s r.id) (by rfl) hNb0b2a0b1.rn.tri.o4 _ (some ⟨Wb0b2a0.heap.size, 0, none⟩) 1 1 [.int .i64 SR.l.idle] (by rfl) (k1b0b2a0b1.reads rfl) (by simp [Value.oneCell']) (by unfold maxLen; omega) (by omega) (by omega) ?_
                        intro vb0b2a0b1a1 Wb0b2a0b1a1 ho9 hg9 hv9
                        have hNb0b2a0b1a1 := (hNb0b2a0b1.s34.push ho9 hg9 hv9 (by omega) hlt1).s34
                        have k2b0b2a0b1a1 := k2b0b2a0b1.grown hg9 (fun e9 => by have := hlt1 _ e9.symm; have := hg2b0b2; omega)
                        clear hz9 ho9 hg9 hv9
                        refine hK.out _ _ (hNb0b2a0b1a1.st.bg.cell 4) (fun hHeld => ?_)
                        clear hK K
                        try simp only [List.getElem_toArray, List.getElem_cons_succ, List.getElem_cons_zero, Act.put, List.setIfInBounds_toArray, List.set_cons_zero, List.set_cons_succ]
                        refine wpAnyH_ready (rs := [12]) (by kernel_rfl) (by simp) ?_
                        refine AllReadyH.cons (o := _) rfl (fun K hK => ?_) ?_
                        · try simp only [List.getElem_toArray, List.getElem_cons_succ, List.getElem_cons_zero]
                          rw [if_pos (show Region.wanted _ _ = true from rfl)]
                          have hz9 := hNb0b2a0b1a1.st.sz
                          refine wp_append_any _ (.tmp 81) (.tmp 83) 40 (by rfl) (w.heap.size + 2) 3 i0 _ 1 8 Try.underlying40 HI.out.1 HI.out.2.1 HI.out.2.2.1 HI.out.2.2.2 rfl (by omega) u5 r.cp.length (i64s r.cp) (by rfl) hNb0b2a0b1a1.rn.tri.o5 _ (some ⟨Wb0.heap.size, 0, none⟩) 1 1 [.int .i64 (nk : Nat)] (by rfl) (k2b0b2a0b1a1.reads rfl) (by simp [Value.oneCell']) (by unfold maxLen; omega) (by omega) (by omega) ?_
                          intro vb0b2a0b1a1a2 Wb0b2a0b1a1a2 ho9 hg9 hv9
                          have hNb0b2a0b1a1a2 := (hNb0b2a0b1a1.s35.push ho9 hg9 hv9 (by omega) hlt2).s35
                          clear hz9 ho9 hg9 hv9
                          refine hK.out _ _ (hNb0b2a0b1a1a2.st.bg.cell 4) (fun hHeld => ?_)
                          clear hK K
                          try simp only [List.getElem_toArray, List.getElem_cons_succ, List.getElem_cons_zero, Act.put, List.setIfInBounds_toArray, List.set_cons_zero, List.set_cons_succ]
                          refine wpAnyH_done (by kernel_rfl) ?_ _
                          refine tailQ_step rfl ?_
                          go_wp2_with fail
                          refine tailQ_step rfl ?_
                          go_wp2_with fail
                          refine tailQ_step rfl ?_
                          go_wp2_with fail
                          refine tailQ_nil (panQ_normal ?_)
                          try go_wp2_with fail
                          go_meet
                          exact hNb0b2a0b1a1a2
                        exact AllReadyH.nil
                      exact AllReadyH.nil
                    exact AllReadyH.nil
                  refine AllReadyH.cons (o := _) rfl (fun K hK => ?_) ?_
                  · try simp only [List.getElem_toArray, List.getElem_cons_succ, List.getElem_cons_zero]
                    go_simp
                    obtain ⟨Wb0b2b1, hW⟩ : ∃ W9, (Wb0b2.alloc (.cells #[.int .i64 SR.l.idle] 3)) = W9 := ⟨_, rfl⟩
                    have hbn : Below Wb0b2.heap.size Wb0b2 Wb0b2b1 := by rw [← hW]; exact (Below.refl _ Wb0b2).alloc (Nat.le_refl _) _
                    have k1b0b2b1 : Blk Wb0b2b1 Wb0b2.heap.size 3 #[.int .i64 SR.l.idle] := by rw [← hW]; exact Blk.new _ _ _
                    have k0b0b2b1 := k0b0b2.below hbn k0b0b2.lt
                    have k2b0b2b1 := k2b0b2.below hbn k2b0b2.lt
                    have hg1b0b2b1 : X.heap.size ≤ Wb0b2.heap.size := hNb0b2.st.sz
                    rw [hW]
                    clear hW
                    have hNb0b2b1 := hNb0b2.below hbn
                    refine hK.out _ _ (hNb0b2b1.st.bg.cell 4) (fun hHeld => ?_)
                    clear hK K
                    try simp only [List.getElem_toArray, List.getElem_cons_succ, List.getElem_cons_zero, Act.put, List.setIfInBounds_toArray, List.set_cons_zero, List.set_cons_succ]
                    refine wpAnyH_ready (rs := [3]) (by kernel_rfl) (by simp) ?_
                    refine AllReadyH.cons (o := _) rfl (fun K hK => ?_) ?_
                    · try simp only [List.getElem_toArray, List.getElem_cons_succ, List.getElem_cons_zero]
                      rw [if_pos (show Region.wanted _ _ = true from rfl)]
                      have hz9 := hNb0b2b1.st.sz
                      refine wp_append_any _ (.tmp 72) (.tmp 74) 40 (by rfl) (w.heap.size + 2) 3 i0 _ 1 8 Try.underlying40 HI.out.1 HI.out.2.1 HI.out.2.2.1 HI.out.2.2.2 rfl (by omega) u3 r.tm.length (i64s r.tm) (by rfl) hNb0b2b1.rn.tri.o3 _ (some ⟨wS.heap.size, 0, none⟩) 1 1 [.int .i64 (r.now + (q : Int))] (by rfl) (k0b0b2b1.reads rfl) (by simp [Value.oneCell']) (by unfold maxLen; omega) (by omega) (by omega) ?_
                      intro vb0b2b1a0 Wb0b2b1a0 ho9 hg9 hv9
                      have hNb0b2b1a0 := (hNb0b2b1.push ho9 hg9 hv9 (by omega) hlt0)
                      have k2b0b2b1a0 := k2b0b2b1.grown hg9 (fun e9 => by have := hlt0 _ e9.symm; have := hg2b0b2; omega)
                      have k1b0b2b1a0 := k1b0b2b1.grown hg9 (fun e9 => by have := hlt0 _ e9.symm; have := hg1b0b2b1; omega)
                      clear hz9 ho9 hg9 hv9
                      refine hK.out _ _ (hNb0b2b1a0.st.bg.cell 4) (fun hHeld => ?_)
                      clear hK K
                      try simp only [List.getElem_toArray, List.getElem_cons_succ, List.getElem_cons_zero, Act.put, List.setIfInBounds_toArray, List.set_cons_zero, List.set_cons_succ]
                      refine wpAnyH_ready (rs := [8]) (by kernel_rfl) (by simp) ?_
                      refine AllReadyH.cons (o := _) rfl (fun K hK => ?_) ?_
                      · try simp only [List.getElem_toArray, List.getElem_cons_succ, List.getElem_cons_zero]
                        rw [if_pos (show Region.wanted _ _ = true from rfl)]
                        have hz9 := hNb0b2b1a0.st.sz
                        refine wp_append_any _ (.tmp 76) (.tmp 79) 40 (by rfl) (w.heap.size + 2) 3 i0 _ 1 8 Try.underlying40 HI.out.1 HI.out.2.1 HI.out.2.2.1 HI.out.2.2.2 rfl (by omega) u4 r.id.length (i64s r.id) (by rfl) hNb0b2b1a0.rn.tri.o4 _ (some ⟨Wb0b2.heap.size, 0, none⟩) 1 1 [.int .i64 SR.l.idle] (by rfl) (k1b0b2b1a0.reads rfl) (by simp [Value.oneCell']) (by unfold maxLen; omega) (by omega) (by omega) ?_
                        intro vb0b2b1a0a1 Wb0b2b1a0a1 ho9 hg9 hv9
                        have hNb0b2b1a0a1 := (hNb0b2b1a0.s34.push ho9 hg9 hv9 (by omega) hlt1).s34
                        have k2b0b2b1a0a1 := k2b0b2b1a0.grown hg9 (fun e9 => by have := hlt1 _ e9.symm; have := hg2b0b2; omega)
                        clear hz9 ho9 hg9 hv9
                        refine hK.out _ _ (hNb0b2b1a0a1.st.bg.cell 4) (fun hHeld => ?_)
                        clear hK K
                        try simp only [List.getElem_toArray, List.getElem_cons_succ, List.getElem_cons_zero, Act.put, List.setIfInBounds_toArray, List.set_cons_zero, List.set_cons_succ]
                        refine wpAnyH_ready (rs := [12]) (by kernel_rfl) (by simp) ?_
                        refine AllReadyH.cons (o := _) rfl (fun K hK => ?_) ?_
                        · try simp only [List.getElem_toArray, List.getElem_cons_succ, List.getElem_cons_zero]
                          rw [if_pos (show Region.wanted _ _ = true from rfl)]
                          have hz9 := hNb0b2b1a0a1.st.sz
                          refine wp_append_any _ (.tmp 81) (.tmp 83) 40 (by rfl) (w.heap.size + 2) 3 i0 _ 1 8 Try.underlying40 HI.out.1 HI.out.2.1 HI.out.2.2.1 HI.out.2.2.2 rfl (by omega) u5 r.cp.length (i64s r.cp) (by rfl) hNb0b2b1a0a1.rn.tri.o5 _ (some ⟨Wb0.heap.size, 0, none⟩) 1 1 [.int .i64 (nk : Nat)] (by rfl) (k2b0b2b1a0a1.reads rfl) (by simp [Value.oneCell']) (by unfold maxLen; omega) (by omega) (by omega) ?_
                          intro vb0b2b1a0a1a2 Wb0b2b1a0a1a2 ho9 hg9 hv9
                          have hNb0b2b1a0a1a2 := (hNb0b2b1a0a1.s35.push ho9 hg9 hv9 (by omega) hlt2).s35
                          clear hz9 ho9 hg9 hv9
                          refine hK.out _ _ (hNb0b2b1a0a1a2.st.bg.cell 4) (fun hHeld => ?_)
                          clear hK K
                          try simp only [List.getElem_toArray, List.getElem_cons_succ, List.getElem_cons_zero, Act.put, List.setIfInBounds_toArray, List.set_cons_zero, List.set_cons_succ]
                          refine wpAnyH_done (by kernel_rfl) ?_ _
                          refine tailQ_step rfl ?_
                          go_wp2_with fail
                          refine tailQ_step rfl ?_
                          go_wp2_with fail
                          refine tailQ_step rfl ?_
                          go_wp2_with fail
                          refine tailQ_nil (panQ_normal ?_)
                          try go_wp2_with fail
                          go_meet
                          exact hNb0b2b1a0a1a2
                        exact AllReadyH.nil
                      exact AllReadyH.nil
                    exact AllReadyH.nil
                  exact AllReadyH.nil
                exact AllReadyH.nil
              refine AllReadyH.cons (o := _) rfl (fun K hK => ?_) ?_
              · try simp only [List.getElem_toArray, List.getElem_cons_succ, List.getElem_cons_zero]
                go_simp
                obtain ⟨Wb1, hW⟩ : ∃ W9, (wS.alloc (.cells #[.int .i64 SR.l.idle] 3)).drew = W9 := ⟨_, rfl⟩
                have hbn : Below wS.heap.size wS Wb1 := by rw [← hW]; exact ((Below.refl _ wS).alloc (Nat.le_refl _) _).drew
                have k1b1 : Blk Wb1 wS.heap.size 3 #[.int .i64 SR.l.idle] := by rw [← hW]; exact Blk.new _ _ _
                have hg1b1 : X.heap.size ≤ wS.heap.size := HT.out.st.sz
                rw [hW]
                clear hW
                have hNb1 := HT.out.below hbn
                refine hK.out _ _ (hNb1.st.bg.cell 4) (fun hHeld => ?_)
                clear hK K
                try simp only [List.getElem_toArray, List.getElem_cons_succ, List.getElem_cons_zero, Act.put, List.setIfInBounds_toArray, List.set_cons_zero, List.set_cons_succ]
                refine wpAnyH_ready (rs := [2, 11]) (by kernel_rfl) (by simp) ?_
                refine AllReadyH.cons (o := _) rfl (fun K hK => ?_) ?_
                · try simp only [List.getElem_toArray, List.getElem_cons_succ, List.getElem_cons_zero]
                  go_simp
                  obtain ⟨Wb1b0, hW⟩ : ∃ W9, (Wb1.alloc (.cells #[.int .i64 (r.now + (q : Int))] 3)) = W9 := ⟨_, rfl⟩
                  have hbn : Below Wb1.heap.size Wb1 Wb1b0 := by rw [← hW]; exact (Below.refl _ Wb1).alloc (Nat.le_refl _) _
                  have k0b1b0 : Blk Wb1b0 Wb1.heap.size 3 #[.int .i64 (r.now + (q : Int))] := by rw [← hW]; exact Blk.new _ _ _
                  have k1b1b0 := k1b1.below hbn k1b1.lt
                  have hg0b1b0 : X.heap.size ≤ Wb1.heap.size := hNb1.st.sz
                  rw [hW]
                  clear hW
                  have hNb1b0 := hNb1.below hbn
                  refine hK.out _ _ (hNb1b0.st.bg.cell 4) (fun hHeld => ?_)
                  clear hK K
                  try simp only [List.getElem_toArray, List.getElem_cons_succ, List.getElem_cons_zero, Act.put, List.setIfInBounds_toArray, List.set_cons_zero, List.set_cons_succ]
                  refine wpAnyH_ready (rs := [3, 11]) (by kernel_rfl) (by simp) ?_
                  refine AllReadyH.cons (o := _) rfl (fun K hK => ?_) ?_
                  · try simp only [List.getElem_toArray, List.getElem_cons_succ, List.getElem_cons_zero]
                    rw [if_pos (show Region.wanted _ _ = true from rfl)]
                    have hz9 := hNb1b0.st.sz
                    refine wp_append_any _ (.tmp 72) (.tmp 74) 40 (by rfl) (w.heap.size + 2) 3 i0 _ 1 8 Try.underlying40 HI.out.1 HI.out.2.1 HI.out.2.2.1 HI.out.2.2.2 rfl (by omega) u3 r.tm.length (i64s r.tm) (by rfl) hNb1b0.rn.tri.o3 _ (some ⟨Wb1.heap.size, 0, none⟩) 1 1 [.int .i64 (r.now + (q : Int))] (by rfl) (k0b1b0.reads rfl) (by simp [Value.oneCell']) (by unfold maxLen; omega) (by omega) (by omega) ?_
                    intro vb1b0a0 Wb1b0a0 ho9 hg9 hv9
                    have hNb1b0a0 := (hNb1b0.push ho9 hg9 hv9 (by omega) hlt0)
                    have k1b1b0a0 := k1b1b0.grown hg9 (fun e9 => by have := hlt0 _ e9.symm; have := hg1b1; omega)
                    clear hz9 ho9 hg9 hv9
                    refine hK.out _ _ (hNb1b0a0.st.bg.cell 4) (fun hHeld => ?_)
                    clear hK K
                    try simp only [List.getElem_toArray, List.getElem_cons_succ, List.getElem_cons_zero, Act.put, List.setIfInBounds_toArray, List.set_cons_zero, List.set_cons_succ]
                    refine wpAnyH_ready (rs := [8, 11]) (by kernel_rfl) (by simp) ?_
                    refine AllReadyH.cons (o := _) rfl (fun K hK => ?_) ?_
                    · try simp only [List.getElem_toArray, List.getElem_cons_succ, List.getElem_cons_zero]
                      rw [if_pos (show Region.wanted _ _ = true from rfl)]
                      have hz9 := hNb1b0a0.st.sz
                      refine wp_append_any _ (.tmp 76) (.tmp 79) 40 (by rfl) (w.heap.size + 2) 3 i0 _ 1 8 Try.underlying40 HI.out.1 HI.out.2.1 HI.out.2.2.1 HI.out.2.2.2 rfl (by omega) u4 r.id.length (i64s r.id) (by rfl) hNb1b0a0.rn.tri.o4 _ (some ⟨wS.heap.size, 0, none⟩) 1 1 [.int .i64 SR.l.idle] (by rfl) (k1b1b0a0.reads rfl) (by simp [Value.oneCell']) (by unfold maxLen; omega) (by omega) (by omega) ?_
                      intro vb1b0a0a1 Wb1b0a0a1 ho9 hg9 hv9
                      have hNb1b0a0a1 := (hNb1b0a0.s34.push ho9 hg9 hv9 (by omega) hlt1).s34
                      clear hz9 ho9 hg9 hv9
                      refine hK.out _ _ (hNb1b0a0a1.st.bg.cell 4) (fun hHeld => ?_)
                      clear hK K
                      try simp only [List.getElem_toArray, List.getElem_cons_succ, List.getElem_cons_zero, Act.put, List.setIfInBounds_toArray, List.set_cons_zero, List.set_cons_succ]
                      refine wpAnyH_ready (rs := [11]) (by kernel_rfl) (by simp) ?_
                      refine AllReadyH.cons (o := _) rfl (fun K hK => ?_) ?_
                      · try simp only [List.getElem_toArray, List.getElem_cons_succ, List.getElem_cons_zero]
                        go_simp
                        obtain ⟨Wb1b0a0a1b2, hW⟩ : ∃ W9, (Wb1b0a0a1.alloc (.cells #[.int .i64 (nk : Nat)] 3)) = W9 := ⟨_, rfl⟩
                        have hbn : Below Wb1b0a0a1.heap.size Wb1b0a0a1 Wb1b0a0a1b2 := by rw [← hW]; exact (Below.refl _ Wb1b0a0a1).alloc (Nat.le_refl _) _
                        have k2b1b0a0a1b2 : Blk Wb1b0a0a1b2 Wb1b0a0a1.heap.size 3 #[.int .i64 (nk : Nat)] := by rw [← hW]; exact Blk.new _ _ _
                        have hg2b1b0a0a1b2 : X.heap.size ≤ Wb1b0a0a1.heap.size := hNb1b0a0a1.st.sz
                        rw [hW]
                        clear hW
                        have hNb1b0a0a1b2 := hNb1b0a0a1.below hbn
                        refine hK.out _ _ (hNb1b0a0a1b2.st.bg.cell 4) (fun hHeld => ?_)
                        clear hK K
                        try simp only [List.getElem_toArray, List.getElem_cons_succ, List.getElem_cons_zero, Act.put, List.setIfInBounds_toArray, List.set_cons_zero, List.set_cons_succ]
                        refine wpAnyH_ready (rs := [12]) (by kernel_rfl) (by simp) ?_
                        refine AllReadyH.cons (o := _) rfl (fun K hK => ?_) ?_
                        · try simp only [List.getElem_toArray, List.getElem_cons_succ, List.getElem_cons_zero]
                          rw [if_pos (show Region.wanted _ _ = true from rfl)]
                          have hz9 := hNb1b0a0a1b2.st.sz
                          refine wp_append_any _ (.tmp 81) (.tmp 83) 40 (by rfl) (w.heap.size + 2) 3 i0 _ 1 8 Try.underlying40 HI.out.1 HI.out.2.1 HI.out.2.2.1 HI.out.2.2.2 rfl (by omega) u5 r.cp.length (i64s r.cp) (by rfl) hNb1b0a0a1b2.rn.tri.o5 _ (some ⟨Wb1b0a0a1.heap.size, 0, none⟩) 1 1 [.int .i64 (nk : Nat)] (by rfl) (k2b1b0a0a1b2.reads rfl) (by simp [Value.oneCell']) (by unfold maxLen; omega) (by omega) (by omega) ?_
                          intro vb1b0a0a1b2a2 Wb1b0a0a1b2a2 ho9 hg9 hv9
                          have hNb1b0a0a1b2a2 := (hNb1b0a0a1b2.s35.push ho9 hg9 hv9 (by omega) hlt2).s35
                          clear hz9 ho9 hg9 hv9
                          refine hK.out _ _ (hNb1b0a0a1b2a2.st.bg.cell 4) (fun hHeld => ?_)
                          clear hK K
                          try simp only [List.getElem_toArray, List.getElem_cons_succ, List.getElem_cons_zero, Act.put, List.setIfInBounds_toArray, List.set_cons_zero, List.set_cons_succ]
                          refine wpAnyH_done (by kernel_rfl) ?_ _
                          refine tailQ_step rfl ?_
                          go_wp2_with fail
                          refine tailQ_step rfl ?_
                          go_wp2_with fail
                          refine tailQ_step rfl ?_
                          go_wp2_with fail
                          refine tailQ_nil (panQ_normal ?_)
                          try go_wp2_with fail
                          go_meet
                          exact hNb1b0a0a1b2a2
                        exact AllReadyH.nil
                      exact AllReadyH.nil
                    refine AllReadyH.cons (o := _) rfl (fun K hK => ?_) ?_
                    · try simp only [List.getElem_toArray, List.getElem_cons_succ, List.getElem_cons_zero]
                      go_simp
                      obtain ⟨Wb1b0a0b2, hW⟩ : ∃ W9, (Wb1b0a0.alloc (.cells #[.int .i64 (nk : Nat)] 3)) = W9 := ⟨_, rfl⟩
                      have hbn : Below Wb1b0a0.heap.size Wb1b0a0 Wb1b0a0b2 := by rw [← hW]; exact (Below.refl _ Wb1b0a0).alloc (Nat.le_refl _) _
                      have k2b1b0a0b2 : Blk Wb1b0a0b2 Wb1b0a0.heap.size 3 #[.int .i64 (nk : Nat)] := by rw [← hW]; exact Blk.new _ _ _
                      have k1b1b0a0b2 := k1b1b0a0.below hbn k1b1b0a0.lt
                      have hg2b1b0a0b2 : X.heap.size ≤ Wb1b0a0.heap.size := hNb1b0a0.st.sz
                      rw [hW]
                      clear hW
                      have hNb1b0a0b2 := hNb1b0a0.below hbn
                      refine hK.out _ _ (hNb1b0a0b2.st.bg.cell 4) (fun hHeld => ?_)
                      clear hK K
                      try simp only [List.getElem_toArray, List.getElem_cons_succ, List.getElem_cons_zero, Act.put, List.setIfInBounds_toArray, List.set_cons_zero, List.set_cons_succ]
                      refine wpAnyH_ready (rs := [8]) (by kernel_rfl) (by simp) ?_
                      refine AllReadyH.cons (o := _) rfl (fun K hK => ?_) ?_
                      · try simp only [List.getElem_toArray, List.getElem_cons_succ, List.getElem_cons_zero]
                        rw [if_pos (show Region.wanted _ _ = true from rfl)]
                        have hz9 := hNb1b0a0b2.st.sz
                        refine wp_append_any _ (.tmp 76) (.tmp 79) 40 (by rfl) (w.heap.size + 2) 3 i0 _ 1 8 Try.underlying40 HI.out.1 HI.out.2.1 HI.out.2.2.1 HI.out.2.2.2 rfl (by omega) u4 r.id.length (i64s r.id) (by rfl) hNb1b0a0b2.rn.tri.o4 _ (some ⟨wS.heap.size, 0, none⟩) 1 1 [.int .i64 SR.l.idle] (by rfl) (k1b1b0a0b2.reads rfl) (by simp [Value.oneCell']) (by unfold maxLen; omega) (by omega) (by omega) ?_
                        intro vb1b0a0b2a1 Wb1b0a0b2a1 ho9 hg9 hv9
                        have hNb1b0a0b2a1 := (hNb1b0a0b2.s34.push ho9 hg9 hv9 (by omega) hlt1).s34
                        have k2b1b0a0b2a1 := k2b1b0a0b2.grown hg9 (fun e9 => by have := hlt1 _ e9.symm; have := hg2b1b0a0b2; omega)
                        clear hz9 ho9 hg9 hv9
                        refine hK.out _ _ (hNb1b0a0b2a1.st.bg.cell 4) (fun hHeld => ?_)
                        clear hK K
                        try simp only [List.getElem_toArray, List.getElem_cons_succ, List.getElem_cons_zero, Act.put, List.setIfInBounds_toArray, List.set_cons_zero, List.set_cons_succ]
                        refine wpAnyH_ready (rs := [12]) (by kernel_rfl) (by simp) ?_
                        refine AllReadyH.cons (o := _) rfl (fun K hK => ?_) ?_
                        · try simp only [List.getElem_toArray, List.getElem_cons_succ, List.getElem_cons_zero]
                          rw [if_pos (show Region.wanted _ _ = true from rfl)]
                          have hz9 := hNb1b0a0b2a1.st.sz
                          refine wp_append_any _ (.tmp 81) (.tmp 83) 40 (by rfl) (w.heap.size + 2) 3 i0 _ 1 8 Try.underlying40 HI.out.1 HI.out.2.1 HI.out.2.2.1 HI.out.2.2.2 rfl (by omega) u5 r.cp.length (i64s r.cp) (by rfl) hNb1b0a0b2a1.rn.tri.o5 _ (some ⟨Wb1b0a0.heap.size, 0, none⟩) 1 1 [.int .i64 (nk : Nat)] (by rfl) (k2b1b0a0b2a1.reads rfl) (by simp [Value.oneCell']) (by unfold maxLen; omega) (by omega) (by omega) ?_
                          intro vb1b0a0b2a1a2 Wb1b0a0b2a1a2 ho9 hg9 hv9
                          have hNb1b0a0b2a1a2 := (hNb1b0a0b2a1.s35.push ho9 hg9 hv9 (by omega) hlt2).s35
                          clear hz9 ho9 hg9 hv9
                          refine hK.out _ _ (hNb1b0a0b2a1a2.st.bg.cell 4) (fun hHeld => ?_)
                          clear hK K
                          try simp only [List.getElem_toArray, List.getElem_cons_succ, List.getElem_cons_zero, Act.put, List.setIfInBounds_toArray, List.set_cons_zero, List.set_cons_succ]
                          refine wpAnyH_done (by kernel_rfl) ?_ _
                          refine tailQ_step rfl ?_
                          go_wp2_with fail
                          refine tailQ_step rfl ?_
                          go_wp2_with fail
                          refine tailQ_step rfl ?_
                          go_wp2_with fail
                          refine tailQ_nil (panQ_normal ?_)
                          try go_wp2_with fail
                          go_meet
                          exact hNb1b0a0b2a1a2
                        exact AllReadyH.nil
                      exact AllReadyH.nil
                    exact AllReadyH.nil
                  refine AllReadyH.cons (o := _) rfl (fun K hK => ?_) ?_
                  · try simp only [List.getElem_toArray, List.getElem_cons_succ, List.getElem_cons_zero]
                    go_simp
                    obtain ⟨Wb1b0b2, hW⟩ : ∃ W9, (Wb1b0.alloc (.cells #[.int .i64 (nk : Nat)] 3)) = W9 := ⟨_, rfl⟩
                    have hbn : Below Wb1b0.heap.size Wb1b0 Wb1b0b2 := by rw [← hW]; exact (Below.refl _ Wb1b0).alloc (Nat.le_refl _) _
                    have k2b1b0b2 : Blk Wb1b0b2 Wb1b0.heap.size 3 #[.int .i64 (nk : Nat)] := by rw [← hW]; exact Blk.new _ _ _
                    have k1b1b0b2 := k1b1b0.below hbn k1b1b0.lt
                    have k0b1b0b2 := k0b1b0.below hbn k0b1b0.lt
                    have hg2b1b0b2 : X.heap.size ≤ Wb1b0.heap.size := hNb1b0.st.sz
                    rw [hW]
                    clear hW
                    have hNb1b0b2 := hNb1b0.below hbn
                    refine hK.out _ _ (hNb1b0b2.st.bg.cell 4) (fun hHeld => ?_)
                    clear hK K
                    try simp only [List.getElem_toArray, List.getElem_cons_succ, List.getElem_cons_zero, Act.put, List.setIfInBounds_toArray, List.set_cons_zero, List.set_cons_succ]
                    refine wpAnyH_ready (rs := [3]) (by kernel_rfl) (by simp) ?_
                    refine AllReadyH.cons (o := _) rfl (fun K hK => ?_) ?_
                    · try simp only [List.getElem_toArray, List.getElem_cons_succ, List.getElem_cons_zero]
                      rw [if_pos (show Region.wanted _ _ = true from rfl)]
                      have hz9 := hNb1b0b2.st.sz
                      refine wp_append_any _ (.tmp 72) (.tmp 74) 40 (by rfl) (w.heap.size + 2) 3 i0 _ 1 8 Try.underlying40 HI.out.1 HI.out.2.1 HI.out.2.2.1 HI.out.2.2.2 rfl (by omega) u3 r.tm.length (i64s r.tm) (by rfl) hNb1b0b2.rn.tri.o3 _ (some ⟨Wb1.heap.size, 0, none⟩) 1 1 [.int .i64 (r.now + (q : Int))] (by rfl) (k0b1b0b2.reads rfl) (by simp [Value.oneCell']) (by unfold maxLen; omega) (by omega) (by omega) ?_
                      intro vb1b0b2a0 Wb1b0b2a0 ho9 hg9 hv9
                      have hNb1b0b2a0 := (hNb1b0b2.push ho9 hg9 hv9 (by omega) hlt0)
                      have k1b1b0b2a0 := k1b1b0b2.grown hg9 (fun e9 => by have := hlt0 _ e9.symm; have := hg1b1; omega)
                      have k2b1b0b2a0 := k2b1b0b2.grown hg9 (fun e9 => by have := hlt0 _ e9.symm; have := hg2b1b0b2; omega)
                      clear hz9 ho9 hg9 hv9
                      refine hK.out _ _ (hNb1b0b2a0.st.bg.cell 4) (fun hHeld => ?_)
                      clear hK K
                      try simp only [List.getElem_toArray, List.getElem_cons_succ, List.getElem_cons_zero, Act.put, List.setIfInBounds_toArray, List.set_cons_zero, List.set_cons_succ]
                      refine wpAnyH_ready (rs := [8]) (by kernel_rfl) (by simp) ?_
                      refine AllReadyH.cons (o := _) rfl (fun K hK => ?_) ?_
                      · try simp only [List.getElem_toArray, List.getElem_cons_succ, List.getElem_cons_zero]
                        rw [if_pos (show Region.wanted _ _ = true from rfl)]
                        have hz9 := hNb1b0b2a0.st.sz
                        refine wp_append_any _ (.tmp 76) (.tmp 79) 40 (by rfl) (w.heap.size + 2) 3 i0 _ 1 8 Try.underlying40 HI.out.1 HI.out.2.1 HI.out.2.2.1 HI.out.2.2.2 rfl (by omega) u4 r.id.length (i64s r.id) (by rfl) hNb1b0b2a0.rn.tri.o4 _ (some ⟨wS.heap.size, 0, none⟩) 1 1 [.int .i64 SR.l.idle] (by rfl) (k1b1b0b2a0.reads rfl) (by simp [Value.oneCell']) (by unfold maxLen; omega) (by omega) (by omega) ?_
                        intro vb1b0b2a0a1 Wb1b0b2a0a1 ho9 hg9 hv9
                        have hNb1b0b2a0a1 := (hNb1b0b2a0.s34.push ho9 hg9 hv9 (by omega) hlt1).s34
                        have k2b1b0b2a0a1 := k2b1b0b2a0.grown hg9 (fun e9 => by have := hlt1 _ e9.symm; have := hg2b1b0b2; omega)
                        clear hz9 ho9 hg9 hv9
                        refine hK.out _ _ (hNb1b0b2a0a1.st.bg.cell 4) (fun hHeld => ?_)
                        clear hK K
                        try simp only [List.getElem_toArray, List.getElem_cons_succ, List.getElem_cons_zero, Act.put, List.setIfInBounds_toArray, List.set_cons_zero, List.set_cons_succ]
                        refine wpAnyH_ready (rs := [12]) (by kernel_rfl) (by simp) ?_
                        refine AllReadyH.cons (o := _) rfl (fun K hK => ?_) ?_
                        · try simp only [List.getElem_toArray, List.getElem_cons_succ, List.getElem_cons_zero]
                          rw [if_pos (show Region.wanted _ _ = true from rfl)]
                          have hz9 := hNb1b0b2a0a1.st.sz
                          refine wp_append_any _ (.tmp 81) (.tmp 83) 40 (by rfl) (w.heap.size + 2) 3 i0 _ 1 8 Try.underlying40 HI.out.1 HI.out.2.1 HI.out.2.2.1 HI.out.2.2.2 rfl (by omega) u5 r.cp.length (i64s r.cp) (by rfl) hNb1b0b2a0a1.rn.tri.o5 _ (some ⟨Wb1b0.heap.size, 0, none⟩) 1 1 [.int .i64 (nk : Nat)] (by rfl) (k2b1b0b2a0a1.reads rfl) (by simp [Value.oneCell']) (by unfold maxLen; omega) (by omega) (by omega) ?_
                          intro vb1b0b2a0a1a2 Wb1b0b2a0a1a2 ho9 hg9 hv9
                          have hNb1b0b2a0a1a2 := (hNb1b0b2a0a1.s35.push ho9 hg9 hv9 (by omega) hlt2).s35
                          clear hz9 ho9 hg9 hv9
                          refine hK.out _ _ (hNb1b0b2a0a1a2.st.bg.cell 4) (fun hHeld => ?_)
                          clear hK K
                          try simp only [List.getElem_toArray, List.getElem_cons_succ, List.getElem_cons_zero, Act.put, List.setIfInBounds_toArray, List.set_cons_zero, List.set_cons_succ]
                          refine wpAnyH_done (by kernel_rfl) ?_ _
                          refine tailQ_step rfl ?_
                          go_wp2_with fail
                          refine tailQ_step rfl ?_
                          go_wp2_with fail
                          refine tailQ_step rfl ?_
                          go_wp2_with fail
                          refine tailQ_nil (panQ_normal ?_)
                          try go_wp2_with fail
                          go_meet
                          exact hNb1b0b2a0a1a2
                        exact AllReadyH.nil
                      exact AllReadyH.nil
                    exact AllReadyH.nil
                  exact AllReadyH.nil
                refine AllReadyH.cons (o := _) rfl (fun K hK => ?_) ?_
                · try simp only [List.getElem_toArray, List.getElem_cons_succ, List.getElem_cons_zero]
                  go_simp
                  obtain ⟨Wb1b2, hW⟩ : ∃ W9, (Wb1.alloc (.cells #[.int .i64 (nk : Nat)] 3)) = W9 := ⟨_, rfl⟩
                  have hbn : Below Wb1.heap.size Wb1 Wb1b2 := by rw [← hW]; exact (Below.refl _ Wb1).alloc (Nat.le_refl _) _
                  have k2b1b2 : Blk Wb1b2 Wb1.heap.size 3 #[.int .i64 (nk : Nat)] := by rw [← hW]; exact Blk.new _ _ _
                  have k1b1b2 := k1b1.below hbn k1b1.lt
                  have hg2b1b2 : X.heap.size ≤ Wb1.heap.size := hNb1.st.sz
                  rw [hW]
                  clear hW
                  have hNb1b2 := hNb1.below hbn
                  refine hK.out _ _ (hNb1b2.st.bg.cell 4) (fun hHeld => ?_)
                  clear hK K
                  try simp only [List.getElem_toArray, List.getElem_cons_succ, List.getElem_cons_zero, Act.put, List.setIfInBounds_toArray, List.set_cons_zero, List.set_cons_succ]
                  refine wpAnyH_ready (rs := [2]) (by kernel_rfl) (by simp) ?_
                  refine AllReadyH.cons (o := _) rfl (fun K hK => ?_) ?_
                  · try simp only [List.getElem_toArray, List.getElem_cons_succ, List.getElem_cons_zero]
                    go_simp
                    obtain ⟨Wb1b2b0, hW⟩ : ∃ W9, (Wb1b2.alloc (.cells #[.int .i64 (r.now + (q : Int))] 3)) = W9 := ⟨_, rfl⟩
                    have hbn : Below Wb1b2.heap.size Wb1b2 Wb1b2b0 := by rw [← hW]; exact (Below.refl _ Wb1b2).alloc (Nat.le_refl _) _
                    have k0b1b2b0 : Blk Wb1b2b0 Wb1b2.heap.size 3 #[.int .i64 (r.now + (q : Int))] := by rw [← hW]; exact Blk.new _ _ _
                    have k1b1b2b0 := k1b1b2.below hbn k1b1b2.lt
                    have k2b1b2b0 := k2b1b2.below hbn k2b1b2.lt
                    have hg0b1b2b0 : X.heap.size ≤ Wb1b2.heap.size := hNb1b2.st.sz
                    rw [hW]
                    clear hW
                    have hNb1b2b0 := hNb1b2.below hbn
                    refine hK.out _ _ (hNb1b2b0.st.bg.cell 4) (fun hHeld => ?_)
                    clear hK K
                    try simp only [List.getElem_toArray, List.getElem_cons_succ, List.getElem_cons_zero, Act.put, List.setIfInBounds_toArray, List.set_cons_zero, List.set_cons_succ]
                    refine wpAnyH_ready (rs := [3]) (by kernel_rfl) (by simp) ?_
                    refine AllReadyH.cons (o := _) rfl (fun K hK => ?_) ?_
                    · try simp only [List.getElem_toArray, List.getElem_cons_succ, List.getElem_cons_zero]
                      rw [if_pos (show Region.wanted _ _ = true from rfl)]
                      have hz9 := hNb1b2b0.st.sz
                      refine wp_append_any _ (.tmp 72) (.tmp 74) 40 (by rfl) (w.heap.size + 2) 3 i0 _ 1 8 Try.underlying40 HI.out.1 HI.out.2.1 HI.out.2.2.1 HI.out.2.2.2 rfl (by omega) u3 r.tm.length (i64s r.tm) (by rfl) hNb1b2b0.rn.tri.o3 _ (some ⟨Wb1b2.heap.size, 0, none⟩) 1 1 [.int .i64 (r.now + (q : Int))] (by rfl) (k0b1b2b0.reads rfl) (by simp [Value.oneCell']) (by unfold maxLen; omega) (by omega) (by omega) ?_
                      intro vb1b2b0a0 Wb1b2b0a0 ho9 hg9 hv9
                      have hNb1b2b0a0 := (hNb1b2b0.push ho9 hg9 hv9 (by omega) hlt0)
                      have k1b1b2b0a0 := k1b1b2b0.grown hg9 (fun e9 => by have := hlt0 _ e9.symm; have := hg1b1; omega)
                      have k2b1b2b0a0 := k2b1b2b0.grown hg9 (fun e9 => by have := hlt0 _ e9.symm; have := hg2b1b2; omega)
                      clear hz9 ho9 hg9 hv9
                      refine hK.out _ _ (hNb1b2b0a0.st.bg.cell 4) (fun hHeld => ?_)
                      clear hK K
                      try simp only [List.getElem_toArray, List.getElem_cons_succ, List.getElem_cons_zero, Act.put, List.setIfInBounds_toArray, List.set_cons_zero, List.set_cons_succ]
                      refine wpAnyH_ready (rs := [8]) (by kernel_rfl) (by simp) ?_
                      refine AllReadyH.cons (o := _) rfl (fun K hK => ?_) ?_
                      · try simp only [List.getElem_toArray, List.getElem_cons_succ, List.getElem_cons_zero]
                        rw [if_pos (show Region.wanted _ _ = true from rfl)]
                        have hz9 := hNb1b2b0a0.st.sz
                        refine wp_append_any _ (.tmp 76) (.tmp 79) 40 (by rfl) (w.heap.size + 2) 3 i0 _ 1 8 Try.underlying40 HI.out.1 HI.out.2.1 HI.out.2.2.1 HI.out.2.2.2 rfl (by omega) u4 r.id.length (i64s r.id) (by rfl) hNb1b2b0a0.rn.tri.o4 _ (some ⟨wS.heap.size, 0, none⟩) 1 1 [.int .i64 SR.l.idle] (by rfl) (k1b1b2b0a0.reads rfl) (by simp [Value.oneCell']) (by unfold maxLen; omega) (by omega) (by omega) ?_
                        intro vb1b2b0a0a1 Wb1b2b0a0a1 ho9 hg9 hv9
                        have hNb1b2b0a0a1 := (hNb1b2b0a0.s34.push ho9 hg9 hv9 (by omega) hlt1).s34
                        have k2b1b2b0a0a1 := k2b1b2b0a0.grown hg9 (fun e9 => by have := hlt1 _ e9.symm; have := hg2b1b2; omega)
                        clear hz9 ho9 hg9 hv9
                        refine hK.out _ _ (hNb1b2b0a0a1.st.bg.cell 4) (fun hHeld => ?_)
                        clear hK K
                        try simp only [List.getElem_toArray, List.getElem_cons_succ, List.getElem_cons_zero, Act.put, List.setIfInBounds_toArray, List.set_cons_zero, List.set_cons_succ]
                        refine wpAnyH_ready (rs := [12]) (by kernel_rfl) (by simp) ?_
                        refine AllReadyH.cons (o := _) rfl (fun K hK => ?_) ?_
                        · try simp only [List.getElem_toArray, List.getElem_cons_succ, List.getElem_cons_zero]
                          rw [if_pos (show Region.wanted _ _ = true from rfl)]
                          have hz9 := hNb1b2b0a0a1.st.sz
                          refine wp_append_any _ (.tmp 81) (.tmp 83) 40 (by rfl) (w.heap.size + 2) 3 i0 _ 1 8 Try.underlying40 HI.out.1 HI.out.2.1 HI.out.2.2.1 HI.out.2.2.2 rfl (by omega) u5 r.cp.length (i64s r.cp) (by rfl) hNb1b2b0a0a1.rn.tri.o5 _ (some ⟨Wb1.heap.size, 0, none⟩) 1 1 [.int .i64 (nk : Nat)] (by rfl) (k2b1b2b0a0a1.reads rfl) (by simp [Value.oneCell']) (by unfold maxLen; omega) (by omega) (by omega) ?_
                          intro vb1b2b0a0a1a2 Wb1b2b0a0a1a2 ho9 hg9 hv9
                          have hNb1b2b0a0a1a2 := (hNb1b2b0a0a1.s35.push ho9 hg9 hv9 (by omega) hlt2).s35
                          clear hz9 ho9 hg9 hv9
                          refine hK.out _ _ (hNb1b2b0a0a1a2.st.bg.cell 4) (fun hHeld => ?_)
                          clear hK K
                          try simp only [List.getElem_toArray, List.getElem_cons_succ, List.getElem_cons_zero, Act.put, List.setIfInBounds_toArray, List.set_cons_zero, List.set_cons_succ]
                          refine wpAnyH_done (by kernel_rfl) ?_ _
                          refine tailQ_step rfl ?_
                          go_wp2_with fail
                          refine tailQ_step rfl ?_
                          go_wp2_with fail
                          refine tailQ_step rfl ?_
                          go_wp2_with fail
                          refine tailQ_nil (panQ_normal ?_)
                          try go_wp2_with fail
                          go_meet
                          exact hNb1b2b0a0a1a2
                        exact AllReadyH.nil
                      exact AllReadyH.nil
                    exact AllReadyH.nil
                  exact AllReadyH.nil
                exact AllReadyH.nil
              refine AllReadyH.cons (o := _) rfl (fun K hK => ?_) ?_
              · try simp only [List.getElem_toArray, List.getElem_cons_succ, List.getElem_cons_zero]
                go_simp
                obtain ⟨Wb2, hW⟩ : ∃ W9, (wS.alloc (.cells #[.int .i64 (nk : Nat)] 3)).drew = W9 := ⟨_, rfl⟩
                have hbn : Below wS.heap.size wS Wb2 := by rw [← hW]; exact ((Below.refl _ wS).alloc (Nat.le_refl _) _).drew
                have k2b2 : Blk Wb2 wS.heap.size 3 #[.int .i64 (nk : Nat)] := by rw [← hW]; exact Blk.new _ _ _
                have hg2b2 : X.heap.size ≤ wS.heap.size := HT.out.st.sz
                rw [hW]
                clear hW
                have hNb2 := HT.out.below hbn
                refine hK.out _ _ (hNb2.st.bg.cell 4) (fun hHeld => ?_)
                clear hK K
                try simp only [List.getElem_toArray, List.getElem_cons_succ, List.getElem_cons_zero, Act.put, List.setIfInBounds_toArray, List.set_cons_zero, List.set_cons_succ]
                refine wpAnyH_ready (rs := [2, 7]) (by kernel_rfl) (by simp) ?_
                refine AllReadyH.cons (o := _) rfl (fun K hK => ?_) ?_
                · try simp only [List.getElem_toArray, List.getElem_cons_succ, List.getElem_cons_zero]
                  go_simp
                  obtain ⟨Wb2b0, hW⟩ : ∃ W9, (Wb2.alloc (.cells #[.int .i64 (r.now + (q : Int))] 3)) = W9 := ⟨_, rfl⟩
                  have hbn : Below Wb2.heap.size Wb2 Wb2b0 := by rw [← hW]; exact (Below.refl _ Wb2).alloc (Nat.le_refl _) _
                  have k0b2b0 : Blk Wb2b0 Wb2.heap.size 3 #[.int .i64 (r.now + (q : Int))] := by rw [← hW]; exact Blk.new _ _ _
                  have k2b2b0 := k2b2.below hbn k2b2.lt
                  have hg0b2b0 : X.heap.size ≤ Wb2.heap.size := hNb2.st.sz
                  rw [hW]
                  clear hW
                  have hNb2b0 := hNb2.below hbn
                  refine hK.out _ _ (hNb2b0.st.bg.cell 4) (fun hHeld => ?_)
                  clear hK K
                  try simp only [List.getElem_toArray, List.getElem_cons_succ, List.getElem_cons_zero, Act.put, List.setIfInBounds_toArray, List.set_cons_zero, List.set_cons_succ]
                  refine wpAnyH_ready (rs := [3, 7]) (by kernel_rfl) (by simp) ?_
                  refine AllReadyH.cons (o := _) rfl (fun K hK => ?_) ?_
                  · try simp only [List.getElem_toArray, List.getElem_cons_succ, List.getElem_cons_zero]
                    rw [if_pos (show Region.wanted _ _ = true from rfl)]
                    have hz9 := hNb2b0.st.sz
                    refine wp_append_any _ (.tmp 72) (.tmp 74) 40 (by rfl) (w.heap.size + 2) 3 i0 _ 1 8 Try.underlying40 HI.out.1 HI.out.2.1 HI.out.2.2.1 HI.out.2.2.2 rfl (by omega) u3 r.tm.length (i64s r.tm) (by rfl) hNb2b0.rn.tri.o3 _ (some ⟨Wb2.heap.size, 0, none⟩) 1 1 [.int .i64 (r.now + (q : Int))] (by rfl) (k0b2b0.reads rfl) (by simp [Value.oneCell']) (by unfold maxLen; omega) (by omega) (by omega) ?_
                    intro vb2b0a0 Wb2b0a0 ho9 hg9 hv9
                    have hNb2b0a0 := (hNb2b0.push ho9 hg9 hv9 (by omega) hlt0)
                    have k2b2b0a0 := k2b2b0.grown hg9 (fun e9 => by have := hlt0 _ e9.symm; have := hg2b2; omega)
                    clear hz9 ho9 hg9 hv9
                    refine hK.out _ _ (hNb2b0a0.st.bg.cell 4) (fun hHeld => ?_)
                    clear hK K
                    try simp only [List.getElem_toArray, List.getElem_cons_succ, List.getElem_cons_zero, Act.put, List.setIfInBounds_toArray, List.set_cons_zero, List.set_cons_succ]
                    refine wpAnyH_ready (rs := [7]) (by kernel_rfl) (by simp) ?_
                    refine AllReadyH.cons (o := _) rfl (fun K hK => ?_) ?_
                    · try simp only [List.getElem_toArray, List.getElem_cons_succ, List.getElem_cons_zero]
                      go_simp
                      obtain ⟨Wb2b0a0b1, hW⟩ : ∃ W9, (Wb2b0a0.alloc (.cells #[.int .i64 SR.l.idle] 3)) = W9 := ⟨_, rfl⟩
                      have hbn : Below Wb2b0a0.heap.size Wb2b0a0 Wb2b0a0b1 := by rw [← hW]; exact (Below.refl _ Wb2b0a0).alloc (Nat.le_refl _) _
                      have k1b2b0a0b1 : Blk Wb2b0a0b1 Wb2b0a0.heap.size 3 #[.int .i64 SR.l.idle] := by rw [← hW]; exact Blk.new _ _ _
                      have k2b2b0a0b1 := k2b2b0a0.below hbn k2b2b0a0.lt
                      have hg1b2b0a0b1 : X.heap.size ≤ Wb2b0a0.heap.size := hNb2b0a0.st.sz
                      rw [hW]
                      clear hW
                      have hNb2b0a0b1 := hNb2b0a0.below hbn
                      refine hK.out _ _ (hNb2b0a0b1.st.bg.cell 4) (fun hHeld => ?_)
                      clear hK K
                      try simp only [List.getElem_toArray, List.getElem_cons_succ, List.getElem_cons_zero, Act.put, List.setIfInBounds_toArray, List.set_cons_zero, List.set_cons_succ]
                      refine wpAnyH_ready (rs := [8]) (by kernel_rfl) (by simp) ?_
                      refine AllReadyH.cons (o := _) rfl (fun K hK => ?_) ?_
                      · try simp only [List.getElem_toArray, List.getElem_cons_succ, List.getElem_cons_zero]
                        rw [if_pos (show Region.wanted _ _ = true from rfl)]
                        have hz9 := hNb2b0a0b1.st.sz
                        refine wp_append_any _ (.tmp 76) (.tmp 79) 40 (by rfl) (w.heap.size + 2) 3 i0 _ 1 8 Try.underlying40 HI.out.1 HI.out.2.1 HI.out.2.2.1 HI.out.2.2.2 rfl (by omega) u4 r.id.length (i64s r.id) (by rfl) hNb2b0a0b1.rn.tri.o4 _ (some ⟨Wb2b0a0.heap.size, 0, none⟩) 1 1 [.int .i64 SR.l.idle] (by rfl) (k1b2b0a0b1.reads rfl) (by simp [Value.oneCell']) (by unfold maxLen; omega) (by omega) (by omega) ?_
                        intro vb2b0a0b1a1 Wb2b0a0b1a1 ho9 hg9 hv9
                        have hNb2b0a0b1a1 := (hNb2b0a0b1.s34.push ho9 hg9 hv9 (by omega) hlt1).s34
                        have k2b2b0a0b1a1 := k2b2b0a0b1.grown hg9 (fun e9 => by have := hlt1 _ e9.symm; have := hg2b2; omega)
                        clear hz9 ho9 hg9 hv9
                        refine hK.out _ _ (hNb2b0a0b1a1.st.bg.cell 4) (fun hHeld => ?_)
                        clear hK K
                        try simp only [List.getElem_toArray, List.getElem_cons_succ, List.getElem_cons_zero, Act.put, List.setIfInBounds_toArray, List.set_cons_zero, List.set_cons_succ]
                        refine wpAnyH_ready (rs := [12]) (by kernel_rfl) (by simp) ?_
                        refine AllReadyH.cons (o := _) rfl (fun K hK => ?_) ?_
                        · try simp only [List.getElem_toArray, List.getElem_cons_succ, List.getElem_cons_zero]
                          rw [if_pos (show Region.wanted _ _ = true from rfl)]
                          have hz9 := hNb2b0a0b1a1.st.sz
                          refine wp_append_any _ (.tmp 81) (.tmp 83) 40 (by rfl) (w.heap.size + 2) 3 i0 _ 1 8 Try.underlying40 HI.out.1 HI.out.2.1 HI.out.2.2.1 HI.out.2.2.2 rfl (by omega) u5 r.cp.length (i64s r.cp) (by rfl) hNb2b0a0b1a1.rn.tri.o5 _ (some ⟨wS.heap.size, 0, none⟩) 1 1 [.int .i64 (nk : Nat)] (by rfl) (k2b2b0a0b1a1.reads rfl) (by simp [Value.oneCell']) (by unfold maxLen; omega) (by omega) (by omega) ?_
                          intro vb2b0a0b1a1a2 Wb2b0a0b1a1a2 ho9 hg9 hv9
                          have hNb2b0a0b1a1a2 := (hNb2b0a0b1a1.s35.push ho9 hg9 hv9 (by omega) hlt2).s35
                          clear hz9 ho9 hg9 hv9
                          refine hK.out _ _ (hNb2b0a0b1a1a2.st.bg.cell 4) (fun hHeld => ?_)
                          clear hK K
                          try simp only [List.getElem_toArray, List.getElem_cons_succ, List.getElem_cons_zero, Act.put, List.setIfInBounds_toArray, List.set_cons_zero, List.set_cons_succ]
                          refine wpAnyH_done (by kernel_rfl) ?_ _
                          refine tailQ_step rfl ?_
                          go_wp2_with fail
                          refine tailQ_step rfl ?_
                          go_wp2_with fail
                          refine tailQ_step rfl ?_
                          go_wp2_with fail
                          refine tailQ_nil (panQ_normal ?_)
                          try go_wp2_with fail
                          go_meet
                          exact hNb2b0a0b1a1a2
                        exact AllReadyH.nil
                      exact AllReadyH.nil
                    exact AllReadyH.nil
                  refine AllReadyH.cons (o := _) rfl (fun K hK => ?_) ?_
                  · try simp only [List.getElem_toArray, List.getElem_cons_succ, List.getElem_cons_zero]
                    go_simp
                    obtain ⟨Wb2b0b1, hW⟩ : ∃ W9, (Wb2b0.alloc (.cells #[.int .i64 SR.l.idle] 3)) = W9 := ⟨_, rfl⟩
                    have hbn : Below Wb2b0.heap.size Wb2b0 Wb2b0b1 := by rw [← hW]; exact (Below.refl _ Wb2b0).alloc (Nat.le_refl _) _
                    have k1b2b0b1 : Blk Wb2b0b1 Wb2b0.heap.size 3 #[.int .i64 SR.l.idle] := by rw [← hW]; exact Blk.new _ _ _
                    have k2b2b0b1 := k2b2b0.below hbn k2b2b0.lt
                    have k0b2b0b1 := k0b2b0.below hbn k0b2b0.lt
                    have hg1b2b0b1 : X.heap.size ≤ Wb2b0.heap.size := hNb2b0.st.sz
                    rw [hW]
                    clear hW
                    have hNb2b0b1 := hNb2b0.below hbn
                    refine hK.out _ _ (hNb2b0b1.st.bg.cell 4) (fun hHeld => ?_)
                    clear hK K
                    try simp only [List.getElem_toArray, List.getElem_cons_succ, List.getElem_cons_zero, Act.put, List.setIfInBounds_toArray, List.set_cons_zero, List.set_cons_succ]
                    refine wpAnyH_ready (rs := [3]) (by kernel_rfl) (by simp) ?_
                    refine AllReadyH.cons (o := _) rfl (fun K hK => ?_) ?_
                    · try simp only [List.getElem_toArray, List.getElem_cons_succ, List.getElem_cons_zero]
                      rw [if_pos (show Region.wanted _ _ = true from rfl)]
                      have hz9 := hNb2b0b1.st.sz
                      refine wp_append_any _ (.tmp 72) (.tmp 74) 40 (by rfl) (w.heap.size + 2) 3 i0 _ 1 8 Try.underlying40 HI.out.1 HI.out.2.1 HI.out.2.2.1 HI.out.2.2.2 rfl (by omega) u3 r.tm.length (i64s r.tm) (by rfl) hNb2b0b1.rn.tri.o3 _ (some ⟨Wb2.heap.size, 0, none⟩) 1 1 [.int .i64 (r.now + (q : Int))] (by rfl) (k0b2b0b1.reads rfl) (by simp [Value.oneCell']) (by unfold maxLen; omega) (by omega) (by omega) ?_
                      intro vb2b0b1a0 Wb2b0b1a0 ho9 hg9 hv9
                      have hNb2b0b1a0 := (hNb2b0b1.push ho9 hg9 hv9 (by omega) hlt0)
                      have k2b2b0b1a0 := k2b2b0b1.grown hg9 (fun e9 => by have := hlt0 _ e9.symm; have := hg2b2; omega)
                      have k1b2b0b1a0 := k1b2b0b1.grown hg9 (fun e9 => by have := hlt0 _ e9.symm; have := hg1b2b0b1; omega)
                      clear hz9 ho9 hg9 hv9
                      refine hK.out _ _ (hNb2b0b1a0.st.bg.cell 4) (fun hHeld => ?_)
                      clear hK K
                      try simp only [List.getElem_toArray, List.getElem_cons_succ, List.getElem_cons_zero, Act.put, List.setIfInBounds_toArray, List.set_cons_zero, List.set_cons_succ]
                      refine wpAnyH_ready (rs := [8]) (by kernel_rfl) (by simp) ?_
                      refine AllReadyH.cons (o := _) rfl (fun K hK => ?_) ?_
                      · try simp only [List.getElem_toArray, List.getElem_cons_succ, List.getElem_cons_zero]
                        rw [if_pos (show Region.wanted _ _ = true from rfl)]
                        have hz9 := hNb2b0b1a0.st.sz
                        refine wp_append_any _ (.tmp 76) (.tmp 79) 40 (by rfl) (w.heap.size + 2) 3 i0 _ 1 8 Try.underlying40 HI.out.1 HI.out.2.1 HI.out.2.2.1 HI.out.2.2.2 rfl (by omega) u4 r.id.length (i64s r.id) (by rfl) hNb2b0b1a0.rn.tri.o4 _ (some ⟨Wb2b0.heap.size, 0, none⟩) 1 1 [.int .i64 SR.l.idle] (by rfl) (k1b2b0b1a0.reads rfl) (by simp [Value.oneCell']) (by unfold maxLen; omega) (by omega) (by omega) ?_
                        intro vb2b0b1a0a1 Wb2b0b1a0a1 ho9 hg9 hv9
                        have hNb2b0b1a0a1 := (hNb2b0b1a0.s34.push ho9 hg9 hv9 (by omega) hlt1).s34
                        have k2b2b0b1a0a1 := k2b2b0b1a0.grown hg9 (fun e9 => by have := hlt1 _ e9.symm; have := hg2b2; omega)
                        clear hz9 ho9 hg9 hv9
                        refine hK.out _ _ (hNb2b0b1a0a1.st.bg.cell 4) (fun hHeld => ?_)
                        clear hK K
                        try simp only [List.getElem_toArray, List.getElem_cons_succ, List.getElem_cons_zero, Act.put, List.setIfInBounds_toArray, List.set_cons_zero, List.set_cons_succ]
                        refine wpAnyH_ready (rs := [12]) (by kernel_rfl) (by simp) ?_
                        refine AllReadyH.cons (o := _) rfl (fun K hK => ?_) ?_
                        · try simp only [List.getElem_toArray, List.getElem_cons_succ, List.getElem_cons_zero]
                          rw [if_pos (show Region.wanted _ _ = true from rfl)]
                          have hz9 := hNb2b0b1a0a1.st.sz
                          refine wp_append_any _ (.tmp 81) (.tmp 83) 40 (by rfl) (w.heap.size + 2) 3 i0 _ 1 8 Try.underlying40 HI.out.1 HI.out.2.1 HI.out.2.2.1 HI.out.2.2.2 rfl (by omega) u5 r.cp.length (i64s r.cp) (by rfl) hNb2b0b1a0a1.rn.tri.o5 _ (some ⟨wS.heap.size, 0, none⟩) 1 1 [.int .i64 (nk : Nat)] (by rfl) (k2b2b0b1a0a1.reads rfl) (by simp [Value.oneCell']) (by unfold maxLen; omega) (by omega) (by omega) ?_
                          intro vb2b0b1a0a1a2 Wb2b0b1a0a1a2 ho9 hg9 hv9
                          have hNb2b0b1a0a1a2 := (hNb2b0b1a0a1.s35.push ho9 hg9 hv9 (by omega) hlt2).s35
                          clear hz9 ho9 hg9 hv9
                          refine hK.out _ _ (hNb2b0b1a0a1a2.st.bg.cell 4) (fun hHeld => ?_)
                          clear hK K
                          try simp only [List.getElem_toArray, List.getElem_cons_succ, List.getElem_cons_zero, Act.put, List.setIfInBounds_toArray, List.set_cons_zero, List.set_cons_succ]
                          refine wpAnyH_done (by kernel_rfl) ?_ _
                          refine tailQ_step rfl ?_
                          go_wp2_with fail
                          refine tailQ_step rfl ?_
                          go_wp2_with fail
                          refine tailQ_step rfl ?_
                          go_wp2_with fail
                          refine tailQ_nil (panQ_normal ?_)
                          try go_wp2_with fail
                          go_meet
                          exact hNb2b0b1a0a1a2
                        exact AllReadyH.nil
                      exact AllReadyH.nil
                    exact AllReadyH.nil
                  exact AllReadyH.nil
                refine AllReadyH.cons (o := _) rfl (fun K hK => ?_) ?_
                · try simp only [List.getElem_toArray, List.getElem_cons_succ, List.getElem_cons_zero]
                  go_simp
                  obtain ⟨Wb2b1, hW⟩ : ∃ W9, (Wb2.alloc (.cells #[.int .i64 SR.l.idle] 3)) = W9 := ⟨_, rfl⟩
                  have hbn : Below Wb2.heap.size Wb2 Wb2b1 := by rw [← hW]; exact (Below.refl _ Wb2).alloc (Nat.le_refl _) _
                  have k1b2b1 : Blk Wb2b1 Wb2.heap.size 3 #[.int .i64 SR.l.idle] := by rw [← hW]; exact Blk.new _ _ _
                  have k2b2b1 := k2b2.below hbn k2b2.lt
                  have hg1b2b1 : X.heap.size ≤ Wb2.heap.size := hNb2.st.sz
                  rw [hW]
                  clear hW
                  have hNb2b1 := hNb2.below hbn
                  refine hK.out _ _ (hNb2b1.st.bg.cell 4) (fun hHeld => ?_)
                  clear hK K
                  try simp only [List.getElem_toArray, List.getElem_cons_succ, List.getElem_cons_zero, Act.put, List.setIfInBounds_toArray, List.set_cons_zero, List.set_cons_succ]
                  refine wpAnyH_ready (rs := [2]) (by kernel_rfl) (by simp) ?_
                  refine AllReadyH.cons (o := _) rfl (fun K hK => ?_) ?_
                  · try simp only [List.getElem_toArray, List.getElem_cons_succ, List.getElem_cons_zero]
                    go_simp
                    obtain ⟨Wb2b1b0, hW⟩ : ∃ W9, (Wb2b1.alloc (.cells #[.int .i64 (r.now + (q : Int))] 3)) = W9 := ⟨_, rfl⟩
                    have hbn : Below Wb2b1.heap.size Wb2b1 Wb2b1b0 := by rw [← hW]; exact (Below.refl _ Wb2b1).alloc (Nat.le_refl _) _
                    have k0b2b1b0 : Blk Wb2b1b0 Wb2b1.heap.size 3 #[.int .i64 (r.now + (q : Int))] := by rw [← hW]; exact Blk.new _ _ _
                    have k2b2b1b0 := k2b2b1.below hbn k2b2b1.lt
                    have k1b2b1b0 := k1b2b1.below hbn k1b2b1.lt
                    have hg0b2b1b0 : X.heap.size ≤ Wb2b1.heap.size := hNb2b1.st.sz
                    rw [hW]
                    clear hW
                    have hNb2b1b0 := hNb2b1.below hbn
                    refine hK.out _ _ (hNb2b1b0.st.bg.cell 4) (fun hHeld => ?_)
                    clear hK K
                    try simp only [List.getElem_toArray, List.getElem_cons_succ, List.getElem_cons_zero, Act.put, List.setIfInBounds_toArray, List.set_cons_zero, List.set_cons_succ]
                    refine wpAnyH_ready (rs := [3]) (by kernel_rfl) (by simp) ?_
                    refine AllReadyH.cons (o := _) rfl (fun K hK => ?_) ?_
                    · try simp only [List.getElem_toArray, List.getElem_cons_succ, List.getElem_cons_zero]
                      rw [if_pos (show Region.wanted _ _ = true from rfl)]
                      have hz9 := hNb2b1b0.st.sz
                      refine wp_append_any _ (.tmp 72) (.tmp 74) 40 (by rfl) (w.heap.size + 2) 3 i0 _ 1 8 Try.underlying40 HI.out.1 HI.out.2.1 HI.out.2.2.1 HI.out.2.2.2 rfl (by omega) u3 r.tm.length (i64s r.tm) (by rfl) hNb2b1b0.rn.tri.o3 _ (some ⟨Wb2b1.heap.size, 0, none⟩) 1 1 [.int .i64 (r.now + (q : Int))] (by rfl) (k0b2b1b0.reads rfl) (by simp [Value.oneCell']) (by unfold maxLen; omega) (by omega) (by omega) ?_
                      intro vb2b1b0a0 Wb2b1b0a0 ho9 hg9 hv9
                      have hNb2b1b0a0 := (hNb2b1b0.push ho9 hg9 hv9 (by omega) hlt0)
                      have k2b2b1b0a0 := k2b2b1b0.grown hg9 (fun e9 => by have := hlt0 _ e9.symm; have := hg2b2; omega)
                      have k1b2b1b0a0 := k1b2b1b0.grown hg9 (fun e9 => by have := hlt0 _ e9.symm; have := hg1b2b1; omega)
                      clear hz9 ho9 hg9 hv9
                      refine hK.out _ _ (hNb2b1b0a0.st.bg.cell 4) (fun hHeld => ?_)
                      clear hK K
                      try simp only [List.getElem_toArray, List.getElem_cons_succ, List.getElem_cons_zero, Act.put, List.setIfInBounds_toArray, List.set_cons_zero, List.set_cons_succ]
                      refine wpAnyH_ready (rs := [8]) (by kernel_rfl) (by simp) ?_
                      refine AllReadyH.cons (o := _) rfl (fun K hK => ?_) ?_
                      · try simp only [List.getElem_toArray, List.getElem_cons_succ, List.getElem_cons_zero]
                        rw [if_pos (show Region.wanted _ _ = true from rfl)]
                        have hz9 := hNb2b1b0a0.st.sz
                        refine wp_append_any _ (.tmp 76) (.tmp 79) 40 (by rfl) (w.heap.size + 2) 3 i0 _ 1 8 Try.underlying40 HI.out.1 HI.out.2.1 HI.out.2.2.1 HI.out.2.2.2 rfl (by omega) u4 r.id.length (i64s r.id) (by rfl) hNb2b1b0a0.rn.tri.o4 _ (some ⟨Wb2.heap.size, 0, none⟩) 1 1 [.int .i64 SR.l.idle] (by rfl) (k1b2b1b0a0.reads rfl) (by simp [Value.oneCell']) (by unfold maxLen; omega) (by omega) (by omega) ?_
                        intro vb2b1b0a0a1 Wb2b1b0a0a1 ho9 hg9 hv9
                        have hNb2b1b0a0a1 := (hNb2b1b0a0.s34.push ho9 hg9 hv9 (by omega) hlt1).s34
                        have k2b2b1b0a0a1 := k2b2b1b0a0.grown hg9 (fun e9 => by have := hlt1 _ e9.symm; have := hg2b2; omega)
                        clear hz9 ho9 hg9 hv9
                        refine hK.out _ _ (hNb2b1b0a0a1.st.bg.cell 4) (fun hHeld => ?_)
                        clear hK K
                        try simp only [List.getElem_toArray, List.getElem_cons_succ, List.getElem_cons_zero, Act.put, List.setIfInBounds_toArray, List.set_cons_zero, List.set_cons_succ]
                        refine wpAnyH_ready (rs := [12]) (by kernel_rfl) (by simp) ?_
                        refine AllReadyH.cons (o := _) rfl (fun K hK => ?_) ?_
                        · try simp only [List.getElem_toArray, List.getElem_cons_succ, List.getElem_cons_zero]
                          rw [if_pos (show Region.wanted _ _ = true from rfl)]
                          have hz9 := hNb2b1b0a0a1.st.sz
                          refine wp_append_any _ (.tmp 81) (.tmp 83) 40 (by rfl) (w.heap.size + 2) 3 i0 _ 1 8 Try.underlying40 HI.out.1 HI.out.2.1 HI.out.2.2.1 HI.out.2.2.2 rfl (by omega) u5 r.cp.length (i64s r.cp) (by rfl) hNb2b1b0a0a1.rn.tri.o5 _ (some ⟨wS.heap.size, 0, none⟩) 1 1 [.int .i64 (nk : Nat)] (by rfl) (k2b2b1b0a0a1.reads rfl) (by simp [Value.oneCell']) (by unfold maxLen; omega) (by omega) (by omega) ?_
                          intro vb2b1b0a0a1a2 Wb2b1b0a0a1a2 ho9 hg9 hv9
                          have hNb2b1b0a0a1a2 := (hNb2b1b0a0a1.s35.push ho9 hg9 hv9 (by omega) hlt2).s35
                          clear hz9 ho9 hg9 hv9
                          refine hK.out _ _ (hNb2b1b0a0a1a2.st.bg.cell 4) (fun hHeld => ?_)
                          clear hK K
                          try simp only [List.getElem_toArray, List.getElem_cons_succ, List.getElem_cons_zero, Act.put, List.setIfInBounds_toArray, List.set_cons_zero, List.set_cons_succ]
                          refine wpAnyH_done (by kernel_rfl) ?_ _
                          refine tailQ_step rfl ?_
                          go_wp2_with fail
                          refine tailQ_step rfl ?_
                          go_wp2_with fail
                          refine tailQ_step rfl ?_
                          go_wp2_with fail
                          refine tailQ_nil (panQ_normal ?_)
                          try go_wp2_with fail
                          go_meet
                          exact hNb2b1b0a0a1a2
                        exact AllReadyH.nil
                      exact AllReadyH.nil
                    exact AllReadyH.nil
                  exact AllReadyH.nil
                exact AllReadyH.nil
              exact AllReadyH.nil
            case rest =>
              have HT2 := Lib.hid hcut
              clear hcut HT hlt0 hlt1 hlt2 hl3 hl4 hl5
              have e0 : wc.cell? ⟨g, 0, none⟩ = some (.int .i64 SR.l.mi) := HT2.out.st.bg.cell 0
              have e1 : wc.cell? ⟨g, 1, none⟩ = some (.int .i64 SR.l.ma) := HT2.out.st.bg.cell 1
              have e2 : wc.cell? ⟨g, 2, none⟩ = some (.int .i64 SR.l.ra) := HT2.out.st.bg.cell 2
              have e3 : wc.cell? ⟨g, 3, none⟩ = some (.bool SR.l.dn) := HT2.out.st.bg.cell 3
              have e4 : wc.cell? ⟨g, 4, none⟩ = some (.int .i64 SR.l.idle) := HT2.out.st.bg.cell 4
              have e5 : wc.cell? ⟨g, 5, none⟩ = some (.int .i64 SR.l.nx) := HT2.out.st.bg.cell 5
              have e6 : wc.cell? ⟨g, 6, none⟩ = some (.slice B1 es1.length d1) := HT2.out.st.bg.cell 6
              go_wp2_with (refine wpList_store_row rfl _ _ _ rfl (w.heap.size + 1) _ rfl rfl 26 _ HT2.out.rn.b2 (by kernel_rfl) rfl (by simp [Value.oneCell']) ?_)
              have hfin := HT2.out.fin (Nat.le_refl _) hXl
              have hst : stepR r k ⟨xs, xt⟩ = ⟨SR.l, r.tm ++ [r.now + (q : Int)], r.id ++ [SR.l.idle], r.cp ++ [((nk : Nat) : Int)], SR.r, r.now + (q : Int)⟩ := by
                unfold stepR
                rw [HSR.out, HNW.out.1, hnr, HW.out, HK.out]
              go_roundw
              case rel =>
                refine ⟨k + 1, .slice B1 es1.length d1, es1, A1, c1', by omega, by go_num, ?_⟩
                rw [HNW.out.2.1, hst]
                exact ⟨rfl, rfl, hfin⟩
              case measure => simp [intOf]; omega
    · obtain rfl : k = ns := by omega
      have hk9 : ¬ (k : Int) < k := by omega
      have HRK : Hid (runK mi ma ra cs st k = r) := HRR.out
      have e0 : wr.cell? ⟨w.heap.size + 1, 0, none⟩ = some (.int .i64 r.l.mi) := HI1.out.b2.cell 0
      have e1 : wr.cell? ⟨w.heap.size + 1, 1, none⟩ = some (.int .i64 r.l.ma) := HI1.out.b2.cell 1
      have e2 : wr.cell? ⟨w.heap.size + 1, 2, none⟩ = some (.int .i64 r.l.ra) := HI1.out.b2.cell 2
      have e3 : wr.cell? ⟨w.heap.size + 1, 3, none⟩ = some (.bool r.l.dn) := HI1.out.b2.cell 3
      have e4 : wr.cell? ⟨w.heap.size + 1, 4, none⟩ = some (.int .i64 r.l.idle) := HI1.out.b2.cell 4
      have e5 : wr.cell? ⟨w.heap.size + 1, 5, none⟩ = some (.int .i64 r.l.nx) := HI1.out.b2.cell 5
      have e6 : wr.cell? ⟨w.heap.size + 1, 6, none⟩ = some (.slice Av es.length cv) := HI1.out.b2.cell 6
      go_wp2_with (refine wpList_store_row rfl _ _ _ rfl (w.heap.size + 1) _ rfl rfl 26 _ HI1.out.b2 (by kernel_rfl) rfl (by simp [Value.oneCell']) ?_)
      have hL := HI1.out.link (Nat.le_refl _) HI1.out.own HI1.out.new HI1.out.em HI1.out.tri.e3 HI1.out.tri.e4 HI1.out.tri.e5
      refine bodyPost_ret (results_cell_tmp4 (tt := 26) (q := 3) (s := 4) (t := 5) (x := 6) rfl _ _ (w.heap.size + 1) _ _ rfl hL.b2 Try.underlying26 rfl (by kernel_rfl)) rfl ⟨hL.bel, _, es, u3, u4, u5, by rw [HRR.out]; rfl, hL.own.low (by omega), hL.new.low (by omega), by rw [HRR.out]; exact hL.em, ?_⟩
      rw [HRR.out]
      have hT := hL.tri
      exact ⟨own_base hT.o3 (by omega), own_base hT.o4 (by omega), own_base hT.o5 (by omega), hT.d34, hT.d35, hT.d45, hT.e3, hT.e4, hT.e5, nofun, nofun, nofun⟩
end Go.Proofs.Ytjaoppopfeonhaa
