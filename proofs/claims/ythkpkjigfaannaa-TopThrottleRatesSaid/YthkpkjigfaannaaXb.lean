/- The walk of caseRun. Condition: few writes of few sectors, a small objective and rate. -/
import Derived.Test.YthkpkjigfaannaaLibW
import Derived.Deep.CutRange
namespace Go.Proofs.Ythkpkjigfaannaa
open Go.RowKit
theorem RunOk.few {ws : List Int} {o r : Int} {k : Nat} {s : Rn} (h : RunOk ws o r k s) (hk : k ≤ 600) (hws : ws.length ≤ 40) : s.T.o = o ∧ s.T.r = r ∧ s.T.l.length ≤ 1000 ∧ s.q.length ≤ 1000 ∧ (0 ≤ s.conf ∧ s.conf ≤ 1000000) ∧ (0 ≤ s.T.t ∧ s.T.t ≤ 1000) := by
  obtain ⟨L, total, i, h1, h2⟩ := h.kp
  have h3 := h1.ac.lens
  have h4 := h1.ac.c0
  have h5 := h1.ac.ft
  have h6 := (chk_zero (o := s.T.o) (r := s.T.r) (t := s.T.t) (b := s.T.b) (l := s.T.l) h1.ac.chk).2.2.1
  exact ⟨h1.ac.fo, h1.ac.fr, by omega, by omega, by omega, by omega⟩
theorem info3 : (Try.prog.info? 3).map (fun i => (i.zero, i.size, i.bytes)) = some (some (.int .i64 0), 1, 8) := by kernel_rfl
theorem seven {X w' : World} {g gq qq : Nat} {v0 v1 v2 v3 v4 v5 : Value} (h : Below X.heap.size X w') (e0 : X.cell? ⟨g, 0, none⟩ = some v0) (e1 : X.cell? ⟨g, 1, none⟩ = some v1) (e2 : X.cell? ⟨g, 2, none⟩ = some v2) (e3 : X.cell? ⟨g, 3, none⟩ = some v3) (e4 : X.cell? ⟨g, 4, none⟩ = some v4) (e5 : X.cell? ⟨gq, qq, none⟩ = some v5) (lg : g < X.heap.size) (lq : gq < X.heap.size) :
    w'.cell? ⟨g, 0, none⟩ = some v0 ∧ w'.cell? ⟨g, 1, none⟩ = some v1 ∧ w'.cell? ⟨g, 2, none⟩ = some v2 ∧ w'.cell? ⟨g, 3, none⟩ = some v3 ∧ w'.cell? ⟨g, 4, none⟩ = some v4 ∧ w'.cell? ⟨gq, qq, none⟩ = some v5 ∧ Below X.heap.size X w' :=
  ⟨(h.cell (p := ⟨g, 0, none⟩) lg).trans e0, (h.cell (p := ⟨g, 1, none⟩) lg).trans e1, (h.cell (p := ⟨g, 2, none⟩) lg).trans e2, (h.cell (p := ⟨g, 3, none⟩) lg).trans e3, (h.cell (p := ⟨g, 4, none⟩) lg).trans e4, (h.cell (p := ⟨gq, qq, none⟩) lq).trans e5, h⟩
/-- behind the writing call of a round -/
def WrCut (wr : World) (TT : Th) (d e : Int) (s17 s18 s19 : Value) (wx : World) : Prop := ∃ gz A1 n1 c1, s17 = .pointer (some ⟨gz, 0, none⟩) ∧ s18 = .int .i64 d ∧ s19 = .int .i64 e ∧ wr.heap.size ≤ gz ∧
  Blk wx gz 24 #[.int .i64 TT.o, .int .i64 TT.r, .int .i64 TT.t, .int .i64 TT.b, .slice A1 n1 c1] ∧ RdM wx A1 n1 TT.l ∧ (∀ ad, A1 = some ad → wr.heap.size ≤ ad.block) ∧ Below wr.heap.size wr wx
theorem QuI.rest {w W : World} {g gq qq mm m cq : Nat} {T : Th} {A : Option Addr} {n c : Nat} {b : Option Nat} {x : Int} {q : List Int} (h : QuI w g T A n c (.slice (some ⟨gq, qq, none⟩) mm cq) b (x :: q) W) (hm : mm = m + 1) :
    QuI w g T A n c (.slice (if cq = 1 then some ⟨gq, qq, none⟩ else some ⟨gq, qq + 1, none⟩) m (cq - 1)) b q W := by
  subst hm
  refine ⟨h.aw, Que.rest h.que ?_ ?_, h.dif⟩
  · intro g1 q1 h1
    injection h1 with h1
    injection h1 with h1 h2
    subst h1 h2
    by_cases hc : cq = 1
    · exact .inl hc
    · exact .inr (if_neg hc)
  · by_cases hc : cq = 1
    · exact ⟨_, if_pos hc⟩
    · exact ⟨_, if_neg hc⟩
theorem way_cells {X w' : World} {g : Nat} {v0 v1 v2 v3 v4 : Value} (hX : Blk X g 24 #[v0, v1, v2, v3, v4]) (hb' : Below X.heap.size X w') :
    (w'.cell? ⟨g, 0, none⟩ = some v0 ∧ w'.cell? ⟨g, 1, none⟩ = some v1 ∧ w'.cell? ⟨g, 2, none⟩ = some v2 ∧ w'.cell? ⟨g, 3, none⟩ = some v3 ∧ w'.cell? ⟨g, 4, none⟩ = some v4) ∧ w'.frozen? ⟨g, 0, none⟩ = false ∧ w'.frozen? ⟨g, 1, none⟩ = false ∧ w'.frozen? ⟨g, 2, none⟩ = false ∧ w'.frozen? ⟨g, 3, none⟩ = false ∧ w'.frozen? ⟨g, 4, none⟩ = false :=
  have h := hX.below hb' hX.lt
  ⟨⟨h.cell 0, h.cell 1, h.cell 2, h.cell 3, h.cell 4⟩, h.frozen 0, h.frozen 1, h.frozen 2, h.frozen 3, h.frozen 4⟩
theorem wr_way1 {wr w' : World} {TT : Th} {d e : Int} {A1 : Option Addr} {n1 c1 : Nat} {z : Value} (hb' : Below (wr.alloc (.cells #[.int .i64 0, .int .i64 0, .int .i64 0, .int .i64 0, z] 24)).drew.heap.size (wr.alloc (.cells #[.int .i64 0, .int .i64 0, .int .i64 0, .int .i64 0, z] 24)).drew w') (hR1 : RdM w' A1 n1 TT.l) (hf1 : ∀ ad, A1 = some ad → (wr.alloc (.cells #[.int .i64 0, .int .i64 0, .int .i64 0, .int .i64 0, z] 24)).drew.heap.size ≤ ad.block) :
    WrCut wr TT d e (.pointer (some ⟨wr.heap.size, 0, none⟩)) (.int .i64 d) (.int .i64 e) (((((w'.setCell ⟨wr.heap.size, 0, none⟩ (.int .i64 TT.o)).setCell ⟨wr.heap.size, 1, none⟩ (.int .i64 TT.r)).setCell ⟨wr.heap.size, 2, none⟩ (.int .i64 TT.t)).setCell ⟨wr.heap.size, 3, none⟩ (.int .i64 TT.b)).setCell ⟨wr.heap.size, 4, none⟩ (.slice A1 n1 c1)) := by
  have hs : (wr.alloc (.cells #[.int .i64 0, .int .i64 0, .int .i64 0, .int .i64 0, z] 24)).drew.heap.size = wr.heap.size + 1 := by simp [World.drew]
  have hne : ∀ ad, A1 = some ad → ad.block ≠ wr.heap.size := fun ad h => by have := hf1 ad h; rw [hs] at this; omega
  have hk : Blk w' wr.heap.size 24 #[.int .i64 0, .int .i64 0, .int .i64 0, .int .i64 0, z] := (Blk.new wr 24 _).drew.below hb' (by rw [hs]; omega)
  have hb : Below wr.heap.size wr w' := (((Below.refl _ wr).alloc (Nat.le_refl _) _).drew).trans (hb'.mono (by rw [hs]; omega))
  exact ⟨wr.heap.size, A1, n1, c1, rfl, rfl, rfl, Nat.le_refl _, set5 hk, RdM.far5 hR1 hne, fun ad h => by have := hf1 ad h; rw [hs] at this; omega, bel5 hb (Nat.le_refl _)⟩
theorem wr_way2 {wr w' : World} {TT : Th} {d e : Int} {A1 : Option Addr} {n1 c1 : Nat} (hb' : Below wr.drew.heap.size wr.drew w') (hR1 : RdM w' A1 n1 TT.l) (hf1 : ∀ ad, A1 = some ad → wr.drew.heap.size ≤ ad.block) :
    WrCut wr TT d e (.pointer (some ⟨w'.heap.size, 0, none⟩)) (.int .i64 d) (.int .i64 e) (w'.alloc (.cells #[.int .i64 TT.o, .int .i64 TT.r, .int .i64 TT.t, .int .i64 TT.b, .slice A1 n1 c1] 24)) := by
  have hb : Below wr.heap.size wr w' := (Below.refl _ wr).drew.trans hb'
  exact ⟨w'.heap.size, A1, n1, c1, rfl, rfl, rfl, hb.size, Blk.new _ _ _, RdM.up hR1 ((Below.refl _ _).alloc (Nat.le_refl _) _), fun ad h => hf1 ad h, hb.alloc hb.size _⟩
def lenV (v : Value) : Nat := match v with | .slice _ n _ => n | _ => 0
set_option maxRecDepth 100000 in
set_option maxHeartbeats 4000000 in
theorem caserun_any (o r : Int) (A0 : Option Addr) (m c0 : Nat) (ws : List Int) (w : World) (hR : RdI w A0 m ws) (hm : m ≤ 40) (hw : ∀ x ∈ ws, 0 ≤ x ∧ x ≤ 60) (ho : 1 ≤ o ∧ o ≤ 30) (hr : 1 ≤ r ∧ r ≤ 60) :
    Calls Try.prog 27 #[.slice A0 m c0, .int .i64 o, .int .i64 r] w fun e w' => e = .returned (.tuple #[.int .i64 (runN ws o r (4 * m + 400)).old, .bool (runN ws o r (4 * m + 400)).free, .bool true]) ∧ Below w.heap.size w w' := by
  have hlen := hR.len
  obtain ⟨g0, off, hg0, hc0⟩ := hR.cells
  have HC := Lib.hid (And.intro hg0 hc0)
  have HL := Lib.hid hlen
  have hB : 0 ≤ r * o := Int.mul_nonneg (by omega) (by omega)
  have HOK := Lib.hid (fun k hk => runN_ok (ws := ws) (o := o) (r := r) (by omega) hw (by omega) (by omega) hB k hk)
  have HB := Lib.hid hB
  have HW := Lib.hid hw
  obtain ⟨M, hM⟩ : ∃ M, 4 * m + 400 = M := ⟨_, rfl⟩
  have hMi : 4 * (m : Int) + 400 = (M : Int) := by omega
  have hM6 : M ≤ 560 := by omega
  have HM := Lib.hid hM
  rw [hM]
  have hN := fun w9 => New_any o r w9
  have hok : okN o r = true := by simp [okN, betwB]; omega
  simp only [newV, newE, hok, if_true, thV] at hN
  have HN := Lib.hid hN
  have hwl : ws.length ≤ 40 := by omega
  clear hN hok hg0 hc0 hB hw hR hlen hM
  go_enter Try.func27, Try.ntmps27
  go_wp2_with fail
  refine (HN.out _).mono ?_
  rintro e w1 ⟨rfl, hb1⟩
  have hQ0 : QuI w w1.heap.size ⟨o, r, 0, 0, []⟩ none 0 0 (.slice none 0 0) none [] (w1.alloc (.cells #[.int .i64 o, .int .i64 r, .int .i64 0, .int .i64 0, .slice none 0 0] 24)) :=
    ⟨⟨Blk.new _ _ _, Reads.none_, (fun ad h => by cases h), hb1.alloc hb1.size _, hb1.size⟩, Que.nil _ _ _, fun h => absurd h (by omega)⟩
  have HQ0 := Lib.hid hQ0
  clear hb1 hQ0
  go_wp2_with fail
  obtain ⟨W0, hW0⟩ : ∃ W0, w1.alloc (.cells #[.int .i64 o, .int .i64 r, .int .i64 0, .int .i64 0, .slice none 0 0] 24) = W0 := ⟨_, rfl⟩
  rw [hW0] at HQ0 ⊢
  generalize w1.heap.size = g at *
  clear hW0
  go_loopw [10, 11, 12, 13, 14, 32] (fun t10 t11 t12 t13 t14 t32 wr => ∃ (k : Nat) (T : Th) (q : List Int) (old : Int) (fr : Bool) (conf : Int) (A : Option Addr) (n c : Nat) (b : Option Nat), k ≤ M ∧ t32 = .int .i64 k ∧ t12 = .int .i64 old ∧ t13 = .bool fr ∧ t14 = .int .i64 conf ∧ QuI w g T A n c t11 b q wr ∧ runN ws o r k = ⟨T, q, old, fr, conf⟩) (fun _ _ _ _ _ i _ => M - (intOf i).toNat)
  case atStart => exact ⟨0, _, [], 0, true, 0, none, 0, 0, none, by omega, rfl, rfl, rfl, rfl, HQ0.out, rfl⟩
  case round =>
    obtain ⟨k, T, q, old, fr, conf, A, n, c, b, hk, rfl, rfl, rfl, rfl, hQ, hS⟩ := hrel
    have hOK := HOK.out k (by omega)
    rw [hS] at hOK
    obtain ⟨g1, g2, g3, g4, ⟨g5, g6⟩, g7, g8⟩ := hOK.few (by omega) (by omega)
    dsimp only at g1 g2 g3 g4 g5 g6 g7 g8
    obtain ⟨o', r', tt, tb, tl⟩ := T
    obtain rfl : o = o' := g1.symm
    obtain rfl : r = r' := g2.symm
    clear g1 g2
    have nl : n ≤ 1000 := by have h1 := hQ.aw.rd.len; dsimp only at h1 g3; omega
    have HQ := Lib.hid hQ
    have HS := Lib.hid hS
    have HK := Lib.hid hOK
    clear hQ hS hOK
    by_cases hkM : k < M
    · have ik : (k : Int) < M := by omega
      obtain ⟨hb0, hb1⟩ := HK.out.back
      obtain ⟨bk, hbk⟩ : ∃ z, backV ⟨o, r, tt, tb, tl⟩ = z := ⟨_, rfl⟩
      obtain ⟨dn, hdn⟩ : ∃ z, min r bk = z := ⟨_, rfl⟩
      obtain ⟨ag, hag⟩ : ∃ z, ageV ⟨o, r, tt, tb, tl⟩ k = z := ⟨_, rfl⟩
      obtain ⟨m1, hm1⟩ : ∃ z, max old ag = z := ⟨_, rfl⟩
      obtain ⟨cf, hcf⟩ : ∃ z, conf + dn = z := ⟨_, rfl⟩
      obtain ⟨l', b', L, total, i, e1, e2, e3⟩ := HK.out.prog (by omega) (by omega) hr.1
      dsimp only at hb0 hb1 e1 e2 e3
      rw [hbk] at hb0 hb1 e1 e2
      rw [hdn, hcf] at e1 e2
      have HP1 := Lib.hid e1
      have HKP := Lib.hid e2
      have HE3 := Lib.hid e3
      have hBa := fun W9 hR9 => Backlog_any ⟨o, r, tt, tb, tl⟩ A n c W9 hR9 nl
      have hAg := fun W9 hR9 => Age_any ⟨o, r, tt, tb, tl⟩ k A n c W9 hR9 nl (by omega)
      have hPr := fun W9 hR9 => Progress_fresh ⟨o, r, tt, tb, tl⟩ k cf A n c W9 hR9 nl
      rw [hbk] at hBa
      rw [hag] at hAg
      rw [e1] at hPr
      have HBa := Lib.hid hBa
      have HAg := Lib.hid hAg
      have HPr := Lib.hid hPr
      have HBK := Lib.hid (And.intro hbk (And.intro hdn (And.intro hag hm1)))
      have hcf0 : 0 ≤ cf ∧ cf ≤ 10000000 := by have h1 := e2.ac.c0; have h2 := e3; omega
      obtain ⟨hcf1, hcf2⟩ := hcf0
      clear hBa hAg hPr hbk hag e1 e2 e3 hb0 hb1
      obtain ⟨⟨f0, f1, f2, f3, f4⟩, z0, z1, z2, z3, z4, lg⟩ := HQ.out.aw.cells
      change wr.cell? ⟨g, 0, none⟩ = some (.int .i64 o) at f0
      change wr.cell? ⟨g, 1, none⟩ = some (.int .i64 r) at f1
      change wr.cell? ⟨g, 2, none⟩ = some (.int .i64 tt) at f2
      change wr.cell? ⟨g, 3, none⟩ = some (.int .i64 tb) at f3
      go_upto_region 9 with fail
      go_cut [16] from 33 to 107 (fun s16 wx => s16 = .int .i64 dn ∧ Below wr.heap.size wr wx)
      case first =>
        clear hm1
        go_wp2_with fail
        refine (HBa.out _ HQ.out.aw.rd).mono ?_
        rintro e w2 ⟨rfl, hb2⟩
        by_cases hrb : r ≤ bk
        · go_wp2_with fail
          go_meet
          exact ⟨by rw [← hdn, Int.min_eq_left hrb], hb2⟩
        · go_wp2_with fail
          go_meet
          exact ⟨by rw [← hdn, Int.min_eq_right (by omega)], hb2⟩
      case rest =>
        obtain ⟨rfl, hb2⟩ := hcut
        clear hdn
        have hQ2 := HQ.out.keep hb2
        replace HQ := Lib.hid hQ2
        clear f0 f1 f2 f3 f4 z0 z1 z2 z3 z4 lg hb2 hQ2 HBa
        obtain ⟨⟨f0, f1, f2, f3, f4⟩, z0, z1, z2, z3, z4, lg⟩ := HQ.out.aw.cells
        change wc.cell? ⟨g, 0, none⟩ = some (.int .i64 o) at f0
        change wc.cell? ⟨g, 1, none⟩ = some (.int .i64 r) at f1
        change wc.cell? ⟨g, 2, none⟩ = some (.int .i64 tt) at f2
        change wc.cell? ⟨g, 3, none⟩ = some (.int .i64 tb) at f3
        go_upto_region 10 with fail
        go_cut [12] from 33 to 107 (fun s12 wx => s12 = .int .i64 m1 ∧ Below wc.heap.size wc wx)
        case first =>
          go_wp2_with fail
          refine (HAg.out _ HQ.out.aw.rd).mono ?_
          rintro e w2 ⟨rfl, hb2⟩
          rcases Int.lt_trichotomy old ag with hrb | hrb | hrb
          · go_wp2_with fail
            go_meet
            exact ⟨by rw [← hm1, Int.max_eq_right (by omega)], hb2⟩
          · subst hrb
            go_wp2_with fail
            go_meet
            exact ⟨by rw [← hm1, Int.max_eq_right (by omega)], hb2⟩
          · go_wp2_with fail
            go_meet
            exact ⟨by rw [← hm1, Int.max_eq_left (by omega)], hb2⟩
        case rest =>
          obtain ⟨rfl, hb2⟩ := hcut
          clear hm1
          have hQ2 := HQ.out.keep hb2
          replace HQ := Lib.hid hQ2
          clear f0 f1 f2 f3 f4 z0 z1 z2 z3 z4 lg hb2 hQ2 HAg
          have HCF := Lib.hid hcf
          obtain ⟨⟨f0, f1, f2, f3, f4⟩, z0, z1, z2, z3, z4, lg⟩ := HQ.out.aw.cells
          change wc.cell? ⟨g, 0, none⟩ = some (.int .i64 o) at f0
          change wc.cell? ⟨g, 1, none⟩ = some (.int .i64 r) at f1
          change wc.cell? ⟨g, 2, none⟩ = some (.int .i64 tt) at f2
          change wc.cell? ⟨g, 3, none⟩ = some (.int .i64 tb) at f3
          go_wp2_with fail
          refine (HPr.out _ HQ.out.aw.rd).mono ?_
          rintro e V1 ⟨⟨_, rfl, A1, n1, c1, rfl, hR1, _, _, hf1⟩, hb1⟩
          have hS1 := HQ.out.put hb1 hR1 hf1 (T' := ⟨o, r, k, b', l'⟩) (c' := c1)
          have HS1 := Lib.hid hS1
          have hQ1 := HQ.out.keep hb1
          clear f0 f1 f2 f3 f4 z0 z1 z2 z3 z4 lg
          replace HQ := Lib.hid hQ1
          clear hR1 hf1 hb1 hQ1 hS1 HPr
          obtain ⟨⟨f0, f1, f2, f3, f4⟩, z0, z1, z2, z3, z4, lg⟩ := HQ.out.aw.cells
          change V1.cell? ⟨g, 0, none⟩ = some (.int .i64 o) at f0
          change V1.cell? ⟨g, 1, none⟩ = some (.int .i64 r) at f1
          change V1.cell? ⟨g, 2, none⟩ = some (.int .i64 tt) at f2
          change V1.cell? ⟨g, 3, none⟩ = some (.int .i64 tb) at f3
          go_upto_region 15 with fail
          clear f0 f1 f2 f3 f4 z0 z1 z2 z3 z4 lg HQ
          obtain ⟨W, hW⟩ : ∃ W, (((((V1.setCell ⟨g, 0, none⟩ (.int .i64 o)).setCell ⟨g, 1, none⟩ (.int .i64 r)).setCell ⟨g, 2, none⟩ (.int .i64 (k : Int))).setCell ⟨g, 3, none⟩ (.int .i64 b')).setCell ⟨g, 4, none⟩ (.slice A1 n1 c1)) = W := ⟨_, rfl⟩
          rw [hW] at HS1 ⊢
          have HQ := Lib.hid HS1.out
          clear HS1 hW
          have hbw := HQ.out.aw.bel
          have hx0 := getD_range HW.out k
          have hd9 : k < m → W.cell? ⟨g0, off + k, none⟩ = some (.int .i64 (ws.getD k 0)) ∧ A0 = some ⟨g0, off, none⟩ := fun h => by
            have hl := HL.out
            obtain ⟨h1, h2⟩ := HC.out.1 (by omega)
            exact ⟨(hbw.cell (p := ⟨g0, off + k, none⟩) h2).trans (HC.out.2 k (by omega)), h1⟩
          have hz9 : ¬ k < m → ws.getD k 0 = 0 := fun h => by
            rw [List.getD_eq_getElem?_getD, List.getElem?_eq_none (by have := HL.out; omega)]
            rfl
          have HD := Lib.hid (And.intro hd9 hz9)
          obtain ⟨x, hx⟩ : ∃ x, ws.getD k 0 = x := ⟨_, rfl⟩
          rw [hx] at HD hx0
          have HX := Lib.hid hx
          clear hbw hd9 hz9 hx
          go_cut [66] from 33 to 107 (fun s66 wx => s66 = .bool (decide (0 < x)) ∧ wx = W)
          case first =>
            by_cases hkm : k < m
            · obtain ⟨d0, rfl⟩ := HD.out.1 hkm
              have ikm : (k : Int) < m := by omega
              by_cases h0 : 0 < x
              · go_wp2_with fail
                go_meet
                exact ⟨by rw [decide_eq_true h0], rfl⟩
              · go_wp2_with fail
                go_meet
                exact ⟨by rw [decide_eq_false (by omega)], rfl⟩
            · have ikm : ¬ (k : Int) < m := by omega
              obtain rfl := HD.out.2 hkm
              go_wp2_with fail
              go_meet
              exact ⟨by simp, rfl⟩
          case rest =>
            obtain ⟨rfl, rfl⟩ := hcut
            go_upto_if 66 with fail
            go_cut [11] from 33 to 107 (fun s11 wx => ∃ b9, QuI w g ⟨o, r, k, b', l'⟩ A1 n1 c1 s11 b9 (askR ws k q) wx)
            case first =>
              have hax : askR ws k q = if 0 < x then q ++ [x] else q := by rw [askR, HX.out]
              by_cases h0 : 0 < x
              · have hkm : k < m := by
                  rcases Nat.lt_or_ge k m with h | h
                  · exact h
                  · have := HD.out.2 (by omega); omega
                rw [if_pos h0] at hax
                have HAX := Lib.hid hax
                clear hax
                obtain ⟨d0, rfl⟩ := HD.out.1 hkm
                have ikm : (k : Int) < m := by omega
                obtain ⟨i0, hi0, hz0, hz1, hz2⟩ := info_parts info3
                have HF := Lib.hid (And.intro hi0 (And.intro hz0 (And.intro hz1 hz2)))
                clear hi0 hz0 hz1 hz2
                go_wp2_with (at_builtin; go_must (refine wpList_append_que wc rfl (.tmp 67) (.tmp 72) _ rfl 3 i0 _ 8 Try.underlying58 HF.out.1 HF.out.2.1 HF.out.2.2.1 HF.out.2.2.2 rfl (g + 1) _ b (q.map (Value.int .i64)) (.int .i64 x) rfl rfl HQ.out.que HQ.out.aw.blk.lt rfl (by rw [List.length_map]; omega) (by omega) ?_; intro v2 b2 w2 h2 h3 h4; have h9 := HQ.out.ask h2 h3 h4; have HQ2 := Lib.hid h9; clear h9 h2 h3 h4))
                go_meet
                exact ⟨b2, by rw [HAX.out]; exact HQ2.out⟩
              · rw [if_neg h0] at hax
                have HAX := Lib.hid hax
                clear hax
                go_wp2_with fail
                go_meet
                exact ⟨b, by rw [HAX.out]; exact HQ.out⟩
            case rest =>
              obtain ⟨b9, hQ9⟩ := hcut
              replace HQ := Lib.hid hQ9
              clear hQ9 HD HX hx0
              obtain ⟨P, hP⟩ : ∃ P, admW ⟨o, r, k, b', l'⟩ k (askR ws k q) fr = P := ⟨_, rfl⟩
              have HPP := Lib.hid hP
              have HAK := Lib.hid (askR_ok (ws := ws) HW.out (k := k) HK.out.q)
              go_wp2_with fail
              go_loopw [11, 13] (fun t11 t13 wr => ∃ (T : Th) (A : Option Addr) (n c : Nat) (b : Option Nat) (q : List Int) (f : Bool) (L : List Mk) (total : Int) (i : Nat), t13 = .bool f ∧ QuI w g T A n c t11 b q wr ∧ admW T k q f = P ∧ okQ q ∧ KpP o r T L k total cf i ∧ i + q.length ≤ 700) (fun v _ _ => lenV v)
              case atStart => exact ⟨_, A1, n1, c1, b9, _, fr, L, total, i, rfl, HQ.out, HPP.out, HAK.out.1, HKP.out, by have h1 := HE3.out; have h2 := HAK.out.2; (try dsimp only at h1 h2); omega⟩
              case round =>
                clear HQ HKP HE3 HAK hP
                obtain ⟨T, A, n, c, b, q', f, L, total, i, rfl, hQ, hA, hq, hK, hi⟩ := hrel
                obtain ⟨o', r', tt, tb, tl⟩ := T
                obtain rfl : o = o' := hK.ac.fo.symm
                obtain rfl : r = r' := hK.ac.fr.symm
                have nl2 : n ≤ 1000 := by have h1 := hQ.aw.rd.len; have h2 := hK.ac.lens; dsimp only at h1 h2; omega
                obtain ⟨Aq, cq, rfl, hq1, hq2, hq3⟩ := hQ.que.form
                cases q' with
                | nil =>
                  have hA' : ((⟨o, r, tt, tb, tl⟩ : Th), ([] : List Int), f) = P := hA
                  subst hA'
                  have HQ := Lib.hid hQ
                  clear hQ hA hq hK hi hq3
                  simp only [List.map_nil, List.length_nil] at HQ hq1 ⊢
                  obtain ⟨ag2, hag2⟩ : ∃ z, ageV ⟨o, r, tt, tb, tl⟩ k = z := ⟨_, rfl⟩
                  obtain ⟨m2, hm2⟩ : ∃ z, max m1 ag2 = z := ⟨_, rfl⟩
                  have hA2 := Age_any ⟨o, r, tt, tb, tl⟩ k A n c wr HQ.out.aw.rd nl2 (by omega)
                  rw [hag2] at hA2
                  have HA2 := Lib.hid hA2
                  have HE := Lib.hid (And.intro hag2 hm2)
                  clear hA2 hag2
                  obtain ⟨⟨f0, f1, f2, f3, f4⟩, z0, z1, z2, z3, z4, lg⟩ := HQ.out.aw.cells
                  try dsimp only at f0 f1 f2 f3 f4
                  go_wp2_with fail
                  refine HA2.out.mono ?_
                  rintro e w2 ⟨rfl, hb2⟩
                  have hQ2 := HQ.out.keep hb2
                  replace HQ := Lib.hid hQ2
                  clear f0 f1 f2 f3 f4 z0 z1 z2 z3 z4 lg hb2 hQ2 HA2
                  rcases Int.lt_trichotomy m1 ag2 with hrb | hrb | hrb
                  · obtain rfl : ag2 = m2 := by omega
                    go_wp2_with fail
                    go_roundw
                    case rel =>
                      refine ⟨k + 1, ⟨o, r, tt, tb, tl⟩, [], _, f, cf, A, n, c, b, by omega, by go_num, rfl, rfl, rfl, HQ.out, ?_⟩
                      show tickR ws r k (runN ws o r k) = _
                      obtain ⟨h1, h2, h3, h4⟩ := HBK.out
                      obtain ⟨h5, h6⟩ := HE.out
                      rw [HS.out, tickR]
                      dsimp only
                      rw [h1, h2, HCF.out, HP1.out]
                      dsimp only
                      rw [HPP.out]
                      dsimp only
                      rw [h3, h4, h5, h6]
                    case measure => simp [intOf]; omega
                  · obtain rfl : ag2 = m2 := by omega
                    subst hrb
                    go_wp2_with fail
                    go_roundw
                    case rel =>
                      refine ⟨k + 1, ⟨o, r, tt, tb, tl⟩, [], _, f, cf, A, n, c, b, by omega, by go_num, rfl, rfl, rfl, HQ.out, ?_⟩
                      show tickR ws r k (runN ws o r k) = _
                      obtain ⟨h1, h2, h3, h4⟩ := HBK.out
                      obtain ⟨h5, h6⟩ := HE.out
                      rw [HS.out, tickR]
                      dsimp only
                      rw [h1, h2, HCF.out, HP1.out]
                      dsimp only
                      rw [HPP.out]
                      dsimp only
                      rw [h3, h4, h5, h6]
                    case measure => simp [intOf]; omega
                  · obtain rfl : m1 = m2 := by omega
                    go_wp2_with fail
                    go_roundw
                    case rel =>
                      refine ⟨k + 1, ⟨o, r, tt, tb, tl⟩, [], _, f, cf, A, n, c, b, by omega, by go_num, rfl, rfl, rfl, HQ.out, ?_⟩
                      show tickR ws r k (runN ws o r k) = _
                      obtain ⟨h1, h2, h3, h4⟩ := HBK.out
                      obtain ⟨h5, h6⟩ := HE.out
                      rw [HS.out, tickR]
                      dsimp only
                      rw [h1, h2, HCF.out, HP1.out]
                      dsimp only
                      rw [HPP.out]
                      dsimp only
                      rw [h3, h4, h5, h6]
                    case measure => simp [intOf]; omega

                | cons x q' =>
                  obtain ⟨gq, qq, rfl, hbq, hh, hcq⟩ := hq3 (by simp)
                  have hx := hq x (List.mem_cons_self ..)
                  have hq' : okQ q' := fun y hy => hq y (List.mem_cons_of_mem _ hy)
                  have hW3 := hK.write (by simp only [List.length_cons] at hi; omega) (k := x) ⟨hx.1, by omega⟩ hr.1
                  obtain ⟨⟨TT, d, e⟩, hWr⟩ : ∃ R, writeR ⟨o, r, tt, tb, tl⟩ k x = R := ⟨_, rfl⟩
                  rw [hWr] at hW3
                  have hC1 := fun W9 hR9 => Write_fresh ⟨o, r, tt, tb, tl⟩ k x A n c W9 hR9 nl2
                  rw [hWr] at hC1
                  have HC1 := Lib.hid hC1
                  have HQ := Lib.hid hQ
                  have HWr := Lib.hid hWr
                  have HA := Lib.hid hA
                  have HW3 := Lib.hid hW3
                  have HK2 := Lib.hid (And.intro hq (And.intro hq' hi))
                  have HKK := Lib.hid hK
                  have lq : gq < wr.heap.size := (hQ.que.lt gq hbq).1
                  have gql : g + 1 ≤ gq := (hQ.que.lt gq hbq).2
                  simp only [List.map_cons, List.length_cons, List.length_map, List.getElem?_cons_zero] at hh hq1 ⊢
                  clear hC1 hWr hW3 hA hK hQ hi hq hq' hq3
                  obtain ⟨⟨f0, f1, f2, f3, f4⟩, z0, z1, z2, z3, z4, lg⟩ := HQ.out.aw.cells
                  change wr.cell? ⟨g, 0, none⟩ = some (.int .i64 o) at f0
                  change wr.cell? ⟨g, 1, none⟩ = some (.int .i64 r) at f1
                  change wr.cell? ⟨g, 2, none⟩ = some (.int .i64 tt) at f2
                  change wr.cell? ⟨g, 3, none⟩ = some (.int .i64 tb) at f3
                  go_upto_region 18 with fail
                  go_cut [17, 18, 19] from 74 to 101 (fun s17 s18 s19 wx => WrCut wr TT d e s17 s18 s19 wx)
                  case first =>
                    go_region_held3 (fun w' => w'.cell? ⟨g, 0, none⟩ = some (.int .i64 o) ∧ w'.cell? ⟨g, 1, none⟩ = some (.int .i64 r) ∧ w'.cell? ⟨g, 2, none⟩ = some (.int .i64 tt) ∧ w'.cell? ⟨g, 3, none⟩ = some (.int .i64 tb) ∧ w'.cell? ⟨g, 4, none⟩ = some (.slice A n c) ∧ w'.cell? ⟨gq, qq, none⟩ = some (.int .i64 x) ∧ Below wr.heap.size wr w')
                      (((refine seven ?_ f0 f1 f2 f3 f4 hh lg lq); (first
                        | ((with_reducible (show Below _ _ (World.setCell _ _ _))); (first | exact bel5 (((Below.refl _ wr).alloc (Nat.le_refl _) _).drew.trans (hb'.mono (sz_le _ _))) (Nat.le_refl _) | exact bel5 (((Below.refl _ wr).drew.alloc (Nat.le_refl _) _).trans (hb'.mono (sz_le _ _))) (Nat.le_refl _) | (trace_state; sorry)))
                        | exact (Below.refl _ wr).drew
                        | exact ((Below.refl _ wr).drew.trans hb')
                        | exact ((Below.refl _ wr).drew.trans hb').drew
                        | exact ((Below.refl _ wr).drew.trans hb').alloc hb'.size _
                        | exact (((Below.refl _ wr).drew.trans hb').alloc hb'.size _).drew
                        | exact (Below.refl _ wr).drew.alloc (Nat.le_refl _) _
                        | exact ((Below.refl _ wr).drew.alloc (Nat.le_refl _) _).drew
                        | exact (Below.refl _ wr).alloc (Nat.le_refl _) _
                        | exact ((Below.refl _ wr).alloc (Nat.le_refl _) _).drew
                        | exact ((Below.refl _ wr).alloc (Nat.le_refl _) _).drew.trans (hb'.mono (sz_le _ _))
                        | exact ((Below.refl _ wr).drew.alloc (Nat.le_refl _) _).trans (hb'.mono (sz_le _ _))
                        | (trace_state; sorry))))
                      (first
                        | (go_at_call 17; refine (HC1.out _ (HQ.out.aw.rd.up ?_)).mono ?_; (first | exact (Below.refl _ wr).drew | exact ((Below.refl _ wr).alloc (Nat.le_refl _) _).drew | (go_split_ands; assumption)); rintro e9 w' ⟨⟨_, rfl, A1, n1, c1, rfl, hR1, _, _, hf1⟩, hb'⟩; (first | (have hY := way_cells (g := wr.heap.size) (Blk.new wr 24 _).drew hb'; obtain ⟨⟨e0, e1, e2, e3, e4⟩, y0, y1, y2, y3, y4⟩ := hY) | skip)))
                    all_goals
                      go_wp2_with fail
                      go_meet
                      first
                        | exact wr_way1 hb' hR1 hf1
                        | exact wr_way2 hb' hR1 hf1
                        | (trace_state; sorry)
                  case rest =>
                  obtain ⟨gz, A1, n1, c1, rfl, rfl, rfl, hgz, hKz, hRz, hfz, hbz⟩ := hcut
                  clear f0 f1 f2 f3 f4 z0 z1 z2 z3 z4 lg
                  have HQ3 := Lib.hid (HQ.out.keep hbz)
                  obtain ⟨v0, v1, v2, v3, v4⟩ := cells5 hKz
                  rcases HW3.out with ⟨_, h9⟩ | ⟨_, l2, L2, h9, hK9⟩ | ⟨_, d2, l2, hd2, h9, hK9⟩
                  · injection h9 with h9a h9b
                    injection h9b with h9b h9c
                    subst h9a
                    subst h9b
                    subst h9c
                    have hA2 : admW ⟨o, r, tt, tb, tl⟩ k q' false = P := by rw [← HA.out, admW, HWr.out, if_pos rfl]
                    have HA2 := Lib.hid hA2
                    clear hA2
                    go_upto_region 20 with fail
                    go_quiet (fail)
                    go_wp2_with fail
                    go_roundw
                    case rel =>
                      exact ⟨_, A, n, c, b, q', false, L, total, i, rfl, (HQ3.out.rest (by simp)).keep (below_drewN (Below.refl _ _) _), HA2.out, HK2.out.2.1, HKK.out, by have h1 := HK2.out.2.2; simp only [List.length_cons] at h1; omega⟩
                    case measure =>
                      show q'.length < q'.length + 1
                      omega
                  · injection h9 with h9a h9b
                    injection h9b with h9b h9c
                    subst h9a
                    subst h9b
                    subst h9c
                    have hA2 : admW ⟨o, r, k, total - cf + x, l2⟩ k q' f = P := by rw [← HA.out, admW, HWr.out, if_neg (show ¬ (0 : Int) = 21 by decide), if_neg (show ¬ (0 : Int) < 0 by decide)]
                    have HA2 := Lib.hid hA2
                    have hP9 := (HQ.out.rest (m := q'.length) (by simp)).put (T' := ⟨o, r, k, total - cf + x, l2⟩) (c' := c1) hbz hRz hfz
                    have HP9 := Lib.hid hP9
                    have HK9 := Lib.hid hK9
                    clear hA2 hP9 hK9
                    obtain ⟨⟨f0, f1, f2, f3, f4⟩, z0, z1, z2, z3, z4, lg⟩ := HQ3.out.aw.cells
                    go_wp2_with fail
                    refine ⟨⟨_, A1, n1, c1, b, q', f, L2, total + x, i + 1, rfl, HP9.out, HA2.out, HK2.out.2.1, HK9.out, by have h1 := HK2.out.2.2; simp only [List.length_cons] at h1; omega⟩, ?_⟩
                    show q'.length < q'.length + 1
                    omega
                  · injection h9 with h9a h9b
                    injection h9b with h9b h9c
                    subst h9a
                    subst h9b
                    subst h9c
                    have hA2 : ((⟨o, r, k, total - cf, l2⟩ : Th), x :: q', false) = P := by rw [← HA.out, admW, HWr.out, if_neg (show ¬ (0 : Int) = 21 by decide), if_pos (show (0 : Int) < d by omega)]
                    subst hA2
                    have nl2 : n1 ≤ 1000 := by have h1 := hRz.len; have h2 := hK9.ac.lens; have h3 := HK2.out.2.2; simp only [List.length_cons] at h3; dsimp only at h1 h2; omega
                    have hP9 := HQ.out.put (T' := ⟨o, r, k, total - cf, l2⟩) (c' := c1) hbz hRz hfz
                    have hl9 : (List.map (Value.int .i64) (x :: q')).length = q'.length + 1 := by simp
                    rw [hl9] at hP9
                    have HP9 := Lib.hid hP9
                    clear hP9 hK9 HK2 HKK hl9
                    obtain ⟨⟨f0, f1, f2, f3, f4⟩, z0, z1, z2, z3, z4, lg⟩ := HQ3.out.aw.cells
                    go_upto_region 24 with fail
                    clear f0 f1 f2 f3 f4 z0 z1 z2 z3 z4 lg HQ HQ3 v0 v1 v2 v3 v4
                    obtain ⟨W9, hW9⟩ : ∃ W9, (((((wc.setCell ⟨g, 0, none⟩ (.int .i64 o)).setCell ⟨g, 1, none⟩ (.int .i64 r)).setCell ⟨g, 2, none⟩ (.int .i64 k)).setCell ⟨g, 3, none⟩ (.int .i64 (total - cf))).setCell ⟨g, 4, none⟩ (.slice A1 n1 c1)) = W9 := ⟨_, rfl⟩
                    have HQ : Hid (QuI w g ⟨o, r, k, total - cf, l2⟩ A1 n1 c1 (.slice (some ⟨gq, qq, none⟩) (q'.length + 1) cq) b (x :: q') W9) := hW9 ▸ HP9
                    rw [hW9]
                    clear HP9 hW9 hKz hRz hfz hbz
                    obtain ⟨ag2, hag2⟩ : ∃ z, ageV ⟨o, r, k, total - cf, l2⟩ k = z := ⟨_, rfl⟩
                    obtain ⟨m2, hm2⟩ : ∃ z, max m1 ag2 = z := ⟨_, rfl⟩
                    have hA2 := Age_any ⟨o, r, k, total - cf, l2⟩ k A1 n1 c1 W9 HQ.out.aw.rd nl2 (by omega)
                    rw [hag2] at hA2
                    have HA2 := Lib.hid hA2
                    have HE := Lib.hid (And.intro hag2 hm2)
                    clear hA2 hag2
                    obtain ⟨⟨f0, f1, f2, f3, f4⟩, z0, z1, z2, z3, z4, lg⟩ := HQ.out.aw.cells
                    try dsimp only at f0 f1 f2 f3 f4
                    go_wp2_with fail
                    refine HA2.out.mono ?_
                    rintro e w2 ⟨rfl, hb2⟩
                    have hQ2 := HQ.out.keep hb2
                    replace HQ := Lib.hid hQ2
                    clear f0 f1 f2 f3 f4 z0 z1 z2 z3 z4 lg hb2 hQ2 HA2
                    rcases Int.lt_trichotomy m1 ag2 with hrb | hrb | hrb
                    · obtain rfl : ag2 = m2 := by omega
                      go_wp2_with fail
                      go_roundw
                      case rel =>
                        refine ⟨k + 1, ⟨o, r, k, total - cf, l2⟩, (x :: q'), _, false, cf, A1, n1, c1, b, by omega, by go_num, rfl, rfl, rfl, HQ.out, ?_⟩
                        show tickR ws r k (runN ws o r k) = _
                        obtain ⟨h1, h2, h3, h4⟩ := HBK.out
                        obtain ⟨h5, h6⟩ := HE.out
                        rw [HS.out, tickR]
                        dsimp only
                        rw [h1, h2, HCF.out, HP1.out]
                        dsimp only
                        rw [HPP.out]
                        dsimp only
                        rw [h3, h4, h5, h6]
                      case measure => simp [intOf]; omega
                    · obtain rfl : ag2 = m2 := by omega
                      subst hrb
                      go_wp2_with fail
                      go_roundw
                      case rel =>
                        refine ⟨k + 1, ⟨o, r, k, total - cf, l2⟩, (x :: q'), _, false, cf, A1, n1, c1, b, by omega, by go_num, rfl, rfl, rfl, HQ.out, ?_⟩
                        show tickR ws r k (runN ws o r k) = _
                        obtain ⟨h1, h2, h3, h4⟩ := HBK.out
                        obtain ⟨h5, h6⟩ := HE.out
                        rw [HS.out, tickR]
                        dsimp only
                        rw [h1, h2, HCF.out, HP1.out]
                        dsimp only
                        rw [HPP.out]
                        dsimp only
                        rw [h3, h4, h5, h6]
                      case measure => simp [intOf]; omega
                    · obtain rfl : m1 = m2 := by omega
                      go_wp2_with fail
                      go_roundw
                      case rel =>
                        refine ⟨k + 1, ⟨o, r, k, total - cf, l2⟩, (x :: q'), _, false, cf, A1, n1, c1, b, by omega, by go_num, rfl, rfl, rfl, HQ.out, ?_⟩
                        show tickR ws r k (runN ws o r k) = _
                        obtain ⟨h1, h2, h3, h4⟩ := HBK.out
                        obtain ⟨h5, h6⟩ := HE.out
                        rw [HS.out, tickR]
                        dsimp only
                        rw [h1, h2, HCF.out, HP1.out]
                        dsimp only
                        rw [HPP.out]
                        dsimp only
                        rw [h3, h4, h5, h6]
                      case measure => simp [intOf]; omega
    · have ik : ¬ (k : Int) < M := by omega
      obtain rfl : k = M := by omega
      go_wp2_with fail
      refine bodyPost_ret (v := .tuple #[.int .i64 old, .bool fr, .bool true]) (by simp [results, Try.results27, go_sem]) rfl ⟨?_, HQ.out.aw.bel⟩
      rw [HS.out]
end Go.Proofs.Ythkpkjigfaannaa
