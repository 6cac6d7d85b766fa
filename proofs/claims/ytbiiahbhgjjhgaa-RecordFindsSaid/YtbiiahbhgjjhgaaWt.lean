/- The walks of Scan and of the reference's Scan. Condition: at most 2000 sectors. -/
import Derived.Test.YtbiiahbhgjjhgaaWq
import Derived.Test.YtbiiahbhgjjhgaaWn
import Derived.Test.YtbiiahbhgjjhgaaMathU
namespace Go.Proofs.Ytbiiahbhgjjhgaa
open Go.RowKit
/-- a record in memory -/
structure Rc where
  k : Nat
  q : Nat
  A : Option Addr
  c : Nat
  p : List Nat
def encRc (r : Rc) : List Value := [.int .i64 (r.k : Nat), .int .i64 (r.q : Nat), .slice r.A r.p.length r.c]
def Rc.trip (r : Rc) : Nat × Nat × List Nat := (r.k, r.q, r.p)
structure RcOk (W : World) (v : Value) (r : Rc) : Prop where
  pay : Reads W W.heap.size 1 r.A r.p.length (u8s r.p)
  far : ∀ ad, 0 < r.p.length → r.A = some ad → v.ownBlock ≠ some ad.block
theorem RcOk.below {W W' : World} {v : Value} {r : Rc} (h : RcOk W v r) (hb : Below W.heap.size W W') : RcOk W' v r := ⟨h.pay.up hb, h.far⟩
theorem RcOk.grown {W W' : World} {v v' : Value} {r : Rc} (h : RcOk W v r) (hg : W.grownBy W' v.ownBlock) (hv : v'.ownBlock = v.ownBlock ∨ v'.ownBlock = some W.heap.size) : RcOk W' v' r := by
  refine ⟨⟨h.pay.1, fun hn => ?_⟩, fun ad hn hA => ?_⟩
  · obtain ⟨ad, hA, hb, hc⟩ := h.pay.2 hn
    refine ⟨ad, hA, Nat.lt_of_lt_of_le hb hg.size, fun j u hu => ?_⟩
    refine (World.cell?_of_block (hg.block _ (by rw [block_of_add]; exact hb) ?_)).trans (hc j u hu)
    rw [block_of_add]
    exact fun e => h.far ad hn hA e.symm
  · obtain ⟨ad', hA', hb, _⟩ := h.pay.2 hn
    rw [hA] at hA'
    cases hA'
    rcases hv with e | e
    · rw [e]; exact h.far ad hn hA
    · rw [e]; intro h9; injection h9 with h9; omega
theorem encRc_len (r : Rc) : (encRc r).length = 3 := rfl
theorem info27b : (Try.prog.info? 27).map (fun i => (i.zero, i.size, i.bytes)) = some (some (.agg #[.int .i64 0, .int .i64 0, .slice none 0 0]), 3, 40) := by kernel_rfl
theorem flat_drop (l : List Sec) (k : Nat) : (l.flatMap encS).drop (k * 8) = (l.drop k).flatMap encS := by
  induction l generalizing k with
  | nil => simp
  | cons s l ih =>
    cases k with
    | zero => simp
    | succ k =>
      rw [List.drop_succ_cons, List.flatMap_cons, ← ih, List.drop_append, show (encS s).length = 8 from rfl]
      rw [List.drop_of_length_le (by rw [show (encS s).length = 8 from rfl]; omega), show (k + 1) * 8 - 8 = k * 8 by omega, List.nil_append]
attribute [local irreducible] decM scanM
/-- what Scan leaves -/
structure ScanR (w : World) (ds : List Dec) (e : Ending) (w' : World) : Prop where
  bel : Below w.heap.size w w'
  val : ∃ A c rs, e = .returned (.tuple #[.slice A (List.length rs) c, .int .i64 (totM ds : Nat)]) ∧ Reads w' w'.heap.size 3 A rs.length (rs.flatMap encRc) ∧ rs.length ≤ c ∧ (∀ r ∈ rs, Reads w' w'.heap.size 1 r.A r.p.length (u8s r.p)) ∧ rs.map Rc.trip = ds.map Dec.trip
set_option maxRecDepth 100000 in
set_option maxHeartbeats 20000000 in
theorem Scan_any (n c : Nat) (A : Option Addr) (l : List Sec) (s : Int) (w : World) (hR : Reads w w.heap.size 8 A n (l.flatMap encS)) (hn : n ≤ 2000) (hc : n ≤ c) (hl : ∀ s ∈ l, s.Ok) :
    Calls Try.prog 21 #[.slice A n c, .int .i64 s] w (ScanR w (scanI l s)) := by
  have hlen := sec_count hR
  obtain ⟨i2, hi2, hy0, hy1, hy2⟩ := info_parts info27b
  have HI := Lib.hid (And.intro hi2 (And.intro hy0 (And.intro hy1 hy2)))
  clear hi2 hy0 hy1 hy2
  have HX := Lib.hid (And.intro hR (And.intro hlen hl))
  clear hR hlen hl
  by_cases hs : s < 1
  · go_enter Try.func21, Try.ntmps21
    go_wp2_with fail
    go_loopw [1, 6, 7, 8, 9, 10] (fun u1 u6 u7 _ _ _ W => u1 = .int .i64 s ∧ u6 = .slice none 0 0 ∧ u7 = .int .i64 0 ∧ W = w) (fun _ _ _ _ _ _ _ => 0)
    case atStart => exact ⟨rfl, rfl, rfl, rfl⟩
    obtain ⟨rfl, rfl, rfl, rfl⟩ := hrel
    go_wp2_with fail
    refine bodyPost_ret (v := .tuple #[.slice none 0 0, .int .i64 0]) (by simp [results, Try.results21]) rfl ?_
    have hz : scanI l s = [] := by unfold scanI; rw [if_pos hs]
    rw [hz]
    exact ⟨Below.refl _ _, none, 0, [], rfl, Reads.none_, Nat.le_refl _, nofun, rfl⟩
  obtain ⟨s0, rfl⟩ := Int.eq_ofNat_of_zero_le (by omega : 0 ≤ s)
  have HS : Hid (scanI l (s0 : Int) = scanM (l.length + 1) l s0) := by
    show scanI _ _ = _
    unfold scanI
    rw [if_neg hs]
    rfl
  go_enter Try.func21, Try.ntmps21
  go_wp2_with fail
  go_loopw [1, 6, 7, 8, 9, 10] (fun u1 u6 u7 _ _ _ W => ∃ (ds : List Dec) (rs : List Rc) (sN pos : Nat), u1 = .int .i64 (sN : Nat) ∧ u7 = .int .i64 (pos : Nat) ∧ sN = s0 + ds.length ∧ ScanI l s0 ds pos ∧ W.ownsRow w.heap.size 27 3 u6 rs.length (rs.flatMap encRc) ∧ rs.map Rc.trip = ds.map Dec.trip ∧ (∀ r ∈ rs, RcOk W u6 r) ∧ Below w.heap.size w W) (fun _ _ u7 _ _ _ _ => n + 2 - (intOf u7).toNat)
  case atStart => exact ⟨[], [], s0, 0, rfl, rfl, rfl, ScanI.start _ _, World.ownsRow_nil _ _ _ _, rfl, nofun, Below.refl _ _⟩
  case round =>
    obtain ⟨ds, rs, sN, pos, rfl, rfl, hsN, hI, hown, htr, hok, hb⟩ := hrel
    have hpn : pos ≤ n := by have := hI.le; have := HX.out.2.1; omega
    have hrl : rs.length ≤ 2000 := by
      have h1 := congrArg List.length htr
      simp only [List.length_map] at h1
      have h2 := hI.two
      omega
    obtain ⟨A6, c6, rfl, _, _, _⟩ := own_slice hown
    have H1 := Lib.hid (And.intro hsN (And.intro hI (And.intro hown (And.intro htr (And.intro hok hb)))))
    have p1 : (1 : Int) ≤ sN := by omega
    have p2 : (pos : Int) ≤ n := by omega
    have p3 : (pos : Int) ≤ c := by omega
    clear hsN hI hown htr hok hb
    have p9 : pos ≤ n := hpn
    by_cases hcp : c = pos
    · have hcp' := hcp.symm
      subst hcp'
      have HRD : Hid (Reads wr wr.heap.size 8 A 0 ((l.drop pos).flatMap encS)) := by
        have h := (HX.out.1.up H1.out.2.2.2.2.2).cut (k := pos) p9 hc
        rw [if_pos rfl, flat_drop, show n - pos = 0 by omega] at h
        exact h
      go_wp2_with fail
      refine (Decode_any 0 0 A (l.drop pos) wr HRD.out (by omega) (by omega) (fun s hs => HX.out.2.2 s (List.mem_of_mem_drop hs))).mono ?_
      rintro e w1 ⟨hb1, A1, c1, rfl, hR1, hc1, hm1, hf1⟩
      have hfx := dec_facts (l := l.drop pos) (fun s hs => HX.out.2.2 s (List.mem_of_mem_drop hs))
      rw [List.length_drop, HX.out.2.1] at hfx
      obtain ⟨d, hd⟩ : ∃ d, decM (l.drop pos) = d := ⟨_, rfl⟩
      rw [hd] at hR1 hc1 hf1 hfx ⊢
      have HD := Lib.hid hd
      clear hd
      obtain ⟨de, dk, dq, dp, dn⟩ := d
      dsimp only at hR1 hc1 hf1 hfx ⊢
      have hbx := hb1.trans (((Below.refl _ w1).alloc (Nat.le_refl _) (.cells #[.int .i64 (dk : Nat), .int .i64 (dq : Nat), .slice A1 dp.length c1] 27)).mono hb1.size)
      have hs1 := hb1.size
      have hbk := Blk.new w1 27 #[.int .i64 (dk : Nat), .int .i64 (dq : Nat), .slice A1 dp.length c1]
      have hRx : Reads (w1.alloc (.cells #[.int .i64 (dk : Nat), .int .i64 (dq : Nat), .slice A1 dp.length c1] 27)) (w1.alloc (.cells #[.int .i64 (dk : Nat), .int .i64 (dq : Nat), .slice A1 dp.length c1] 27)).heap.size 1 A1 dp.length (u8s dp) := hR1.up ((Below.refl _ w1).alloc (Nat.le_refl _) _)
      have HB := Lib.hid hbx
      have HF := Lib.hid (And.intro hf1 (And.intro hRx hbk))
      have hsz := World.size_alloc w1 (.cells #[.int .i64 (dk : Nat), .int .i64 (dq : Nat), .slice A1 dp.length c1] 27)
      clear hb1 hR1 hc1 hm1 hf1 hbx hRx hbk
      by_cases he : de = 0
      · by_cases hq : dq = sN
        · subst he hq
          obtain ⟨f1, f2, f3, f4⟩ := hfx rfl
          exfalso
          omega
        · subst he
          have b1 : ((dq : Int) != (sN : Int)) = true := by rw [bne_iff_ne]; omega
          have HQ := Lib.hid hq
          clear hq hfx
          go_wp2_with fail
          generalize (w1.alloc (.cells #[.int .i64 (dk : Nat), .int .i64 (dq : Nat), .slice A1 dp.length c1] 27)) = W1 at *
          have hds : scanI l (s0 : Int) = ds := by
            rw [HS.out]
            refine H1.out.2.1.stop ?_
            rw [HD.out, ← H1.out.1]
            rintro ⟨g1, g2⟩
            exact HQ.out g2
          have hbw : Below w.heap.size w W1 := H1.out.2.2.2.2.2.trans (HB.out.mono H1.out.2.2.2.2.2.size)
          obtain ⟨A9, c9, hv9, hc9, _, hR9⟩ := own_slice (own_below H1.out.2.2.1 HB.out)
          injection hv9 with e1 e2 e3
          subst e1 e3
          refine bodyPost_ret (v := .tuple #[.slice A6 rs.length c6, .int .i64 (pos : Nat)]) (by simp [results, Try.results21]) rfl ?_
          rw [hds]
          exact ⟨hbw, A6, c6, rs, by rw [← H1.out.2.1.tot], hR9, hc9, fun r hr => ((H1.out.2.2.2.2.1 r hr).below HB.out).pay, H1.out.2.2.2.1⟩

      · have b1 : ((de : Int) != 0) = true := by rw [bne_iff_ne]; omega
        have HQ := Lib.hid he
        clear he hfx
        go_wp2_with fail
        generalize (w1.alloc (.cells #[.int .i64 (dk : Nat), .int .i64 (dq : Nat), .slice A1 dp.length c1] 27)) = W1 at *
        have hds : scanI l (s0 : Int) = ds := by
          rw [HS.out]
          refine H1.out.2.1.stop ?_
          rw [HD.out, ← H1.out.1]
          rintro ⟨g1, g2⟩
          exact HQ.out g1
        have hbw : Below w.heap.size w W1 := H1.out.2.2.2.2.2.trans (HB.out.mono H1.out.2.2.2.2.2.size)
        obtain ⟨A9, c9, hv9, hc9, _, hR9⟩ := own_slice (own_below H1.out.2.2.1 HB.out)
        injection hv9 with e1 e2 e3
        subst e1 e3
        refine bodyPost_ret (v := .tuple #[.slice A6 rs.length c6, .int .i64 (pos : Nat)]) (by simp [results, Try.results21]) rfl ?_
        rw [hds]
        exact ⟨hbw, A6, c6, rs, by rw [← H1.out.2.1.tot], hR9, hc9, fun r hr => ((H1.out.2.2.2.2.1 r hr).below HB.out).pay, H1.out.2.2.2.1⟩
    · have HRD : Hid (Reads wr wr.heap.size 8 (A.map (·.add (pos * 8))) (n - pos) ((l.drop pos).flatMap encS)) := by
        have h := (HX.out.1.up H1.out.2.2.2.2.2).cut (k := pos) p9 hc
        rw [if_neg hcp, flat_drop] at h
        exact h
      go_wp2_with fail
      obtain ⟨B, hB⟩ : ∃ B, (A.map (fun x => x.add (pos * 8))) = B := ⟨_, rfl⟩
      obtain ⟨cd, hcd⟩ : ∃ cd, c - pos = cd := ⟨_, rfl⟩
      obtain ⟨m, hm⟩ : ∃ m, n - pos = m := ⟨_, rfl⟩
      rw [hB, hm] at HRD
      rw [hB, hcd, hm]
      clear hB
      refine (Decode_any m cd B (l.drop pos) wr HRD.out (by omega) (by omega) (fun s hs => HX.out.2.2 s (List.mem_of_mem_drop hs))).mono ?_
      rintro e w1 ⟨hb1, A1, c1, rfl, hR1, hc1, hm1, hf1⟩
      have hfx := dec_facts (l := l.drop pos) (fun s hs => HX.out.2.2 s (List.mem_of_mem_drop hs))
      rw [List.length_drop, HX.out.2.1] at hfx
      obtain ⟨d, hd⟩ : ∃ d, decM (l.drop pos) = d := ⟨_, rfl⟩
      rw [hd] at hR1 hc1 hf1 hfx ⊢
      have HD := Lib.hid hd
      clear hd
      obtain ⟨de, dk, dq, dp, dn⟩ := d
      dsimp only at hR1 hc1 hf1 hfx ⊢
      have hbx := hb1.trans (((Below.refl _ w1).alloc (Nat.le_refl _) (.cells #[.int .i64 (dk : Nat), .int .i64 (dq : Nat), .slice A1 dp.length c1] 27)).mono hb1.size)
      have hs1 := hb1.size
      have hbk := Blk.new w1 27 #[.int .i64 (dk : Nat), .int .i64 (dq : Nat), .slice A1 dp.length c1]
      have hRx : Reads (w1.alloc (.cells #[.int .i64 (dk : Nat), .int .i64 (dq : Nat), .slice A1 dp.length c1] 27)) (w1.alloc (.cells #[.int .i64 (dk : Nat), .int .i64 (dq : Nat), .slice A1 dp.length c1] 27)).heap.size 1 A1 dp.length (u8s dp) := hR1.up ((Below.refl _ w1).alloc (Nat.le_refl _) _)
      have HB := Lib.hid hbx
      have HF := Lib.hid (And.intro hf1 (And.intro hRx hbk))
      have hsz := World.size_alloc w1 (.cells #[.int .i64 (dk : Nat), .int .i64 (dq : Nat), .slice A1 dp.length c1] 27)
      clear hb1 hR1 hc1 hm1 hf1 hbx hRx hbk
      by_cases he : de = 0
      · by_cases hq : dq = sN
        · subst he hq
          obtain ⟨f1, f2, f3, f4⟩ := hfx rfl
          go_upto_region 6 with fail
          generalize (w1.alloc (.cells #[.int .i64 (dk : Nat), .int .i64 (dq : Nat), .slice A1 dp.length c1] 27)) = W1 at *
          have x0 : W1.cell? ⟨w1.heap.size, 0, none⟩ = some (.int .i64 (dk : Nat)) := HF.out.2.2.cell 0
          have x1 : W1.cell? ⟨w1.heap.size, 1, none⟩ = some (.int .i64 (dq : Nat)) := HF.out.2.2.cell 1
          have x2 : W1.cell? ⟨w1.heap.size, 2, none⟩ = some (.slice A1 dp.length c1) := HF.out.2.2.cell 2
          have hbe : Below W1.heap.size W1 (W1.alloc (.cells #[.int .i64 (dk : Nat), .int .i64 (dq : Nat), .slice A1 dp.length c1] 27)) := (Below.refl _ W1).alloc (Nat.le_refl _) _
          have hbwq : Below w.heap.size w W1 := H1.out.2.2.2.2.2.trans (HB.out.mono H1.out.2.2.2.2.2.size)
          have HE := Lib.hid (And.intro hbe (And.intro (own_alloc (own_below H1.out.2.2.1 HB.out) (.cells #[.int .i64 (dk : Nat), .int .i64 (dq : Nat), .slice A1 dp.length c1] 27)) hbwq))
          have HSZ := Lib.hid hsz
          clear hbe hbwq hsz
          go_wp2_with (at_builtin; go_must (refine wpList_append_any (W1.alloc (.cells #[.int .i64 (dk : Nat), .int .i64 (dq : Nat), .slice A1 dp.length c1] 27)) rfl (.tmp 29) (.tmp 31) _ rfl w.heap.size 27 i2 _ 3 40 Try.underlying50 HI.out.1 HI.out.2.1 HI.out.2.2.1 HI.out.2.2.2 rfl (by omega) (.slice A6 rs.length c6) rs.length (rs.flatMap encRc) rfl HE.out.2.1 (W1.heap.size + 1) (some ⟨W1.heap.size, 0, none⟩) 1 1 [.int .i64 (dk : Nat), .int .i64 (dq : Nat), .slice A1 dp.length c1] rfl (elem_reads W1 #[.int .i64 (dk : Nat), .int .i64 (dq : Nat), .slice A1 dp.length c1] 27) (by simp [Value.oneCell']) (by simp only [maxLen]; omega) (by omega) (by rw [World.size_alloc]; have := HE.out.2.2.size; omega) ?_; intro v2 w2 ho2 hg2 hv2))
          go_roundw
          case rel =>
            have hr0 : RcOk (W1.alloc (.cells #[.int .i64 (dk : Nat), .int .i64 (dq : Nat), .slice A1 dp.length c1] 27)) (.slice A6 rs.length c6) ⟨dk, dq, A1, c1, dp⟩ := by
              refine RcOk.below (W := W1) ⟨HF.out.2.1, fun ad h0 hA e => ?_⟩ HE.out.1
              have h1 := own_lt H1.out.2.2.1 _ e
              have h2 := HF.out.1 ad h0 hA
              omega
            have hI2 := H1.out.2.1.step HX.out.2.2 (by rw [HD.out]) (by rw [HD.out]; exact H1.out.1)
            rw [HD.out] at hI2
            refine ⟨ds ++ [⟨0, dk, dq, dp, dn⟩], rs ++ [⟨dk, dq, A1, c1, dp⟩], dq + 1, pos + dn, by go_num, by go_num, by rw [List.length_append, List.length_singleton, H1.out.1, Nat.add_assoc], hI2, ?_, ?_, ?_, ?_⟩
            · rw [List.length_append, List.length_singleton, List.flatMap_append]
              exact ho2
            · rw [List.map_append, List.map_append, H1.out.2.2.2.1]
              rfl
            · intro r hr
              rcases List.mem_append.1 hr with hr | hr
              · exact (((H1.out.2.2.2.2.1 r hr).below HB.out).below HE.out.1).grown hg2 hv2
              · rw [List.mem_singleton] at hr
                rw [hr]
                exact hr0.grown hg2 hv2
            · exact (HE.out.2.2.alloc HE.out.2.2.size _).grown hg2 (by rw [World.size_alloc]; have := HE.out.2.2.size; omega) (own_block_ge HE.out.2.1)
          case measure => simp [intOf]; omega
        · subst he
          have b1 : ((dq : Int) != (sN : Int)) = true := by rw [bne_iff_ne]; omega
          have HQ := Lib.hid hq
          clear hq hfx
          go_wp2_with fail
          generalize (w1.alloc (.cells #[.int .i64 (dk : Nat), .int .i64 (dq : Nat), .slice A1 dp.length c1] 27)) = W1 at *
          have hds : scanI l (s0 : Int) = ds := by
            rw [HS.out]
            refine H1.out.2.1.stop ?_
            rw [HD.out, ← H1.out.1]
            rintro ⟨g1, g2⟩
            exact HQ.out g2
          have hbw : Below w.heap.size w W1 := H1.out.2.2.2.2.2.trans (HB.out.mono H1.out.2.2.2.2.2.size)
          obtain ⟨A9, c9, hv9, hc9, _, hR9⟩ := own_slice (own_below H1.out.2.2.1 HB.out)
          injection hv9 with e1 e2 e3
          subst e1 e3
          refine bodyPost_ret (v := .tuple #[.slice A6 rs.length c6, .int .i64 (pos : Nat)]) (by simp [results, Try.results21]) rfl ?_
          rw [hds]
          exact ⟨hbw, A6, c6, rs, by rw [← H1.out.2.1.tot], hR9, hc9, fun r hr => ((H1.out.2.2.2.2.1 r hr).below HB.out).pay, H1.out.2.2.2.1⟩

      · have b1 : ((de : Int) != 0) = true := by rw [bne_iff_ne]; omega
        have HQ := Lib.hid he
        clear he hfx
        go_wp2_with fail
        generalize (w1.alloc (.cells #[.int .i64 (dk : Nat), .int .i64 (dq : Nat), .slice A1 dp.length c1] 27)) = W1 at *
        have hds : scanI l (s0 : Int) = ds := by
          rw [HS.out]
          refine H1.out.2.1.stop ?_
          rw [HD.out, ← H1.out.1]
          rintro ⟨g1, g2⟩
          exact HQ.out g1
        have hbw : Below w.heap.size w W1 := H1.out.2.2.2.2.2.trans (HB.out.mono H1.out.2.2.2.2.2.size)
        obtain ⟨A9, c9, hv9, hc9, _, hR9⟩ := own_slice (own_below H1.out.2.2.1 HB.out)
        injection hv9 with e1 e2 e3
        subst e1 e3
        refine bodyPost_ret (v := .tuple #[.slice A6 rs.length c6, .int .i64 (pos : Nat)]) (by simp [results, Try.results21]) rfl ?_
        rw [hds]
        exact ⟨hbw, A6, c6, rs, by rw [← H1.out.2.1.tot], hR9, hc9, fun r hr => ((H1.out.2.2.2.2.1 r hr).below HB.out).pay, H1.out.2.2.2.1⟩
set_option maxRecDepth 100000 in
set_option maxHeartbeats 20000000 in
theorem refScan_any (n c : Nat) (A : Option Addr) (l : List Sec) (s : Int) (w : World) (hR : Reads w w.heap.size 8 A n (l.flatMap encS)) (hn : n ≤ 2000) (hc : n ≤ c) (hl : ∀ s ∈ l, s.Ok) :
    Calls Try.prog 22 #[.slice A n c, .int .i64 s] w (ScanR w (scanI l s)) := by
  have hlen := sec_count hR
  obtain ⟨i2, hi2, hy0, hy1, hy2⟩ := info_parts info27b
  have HI := Lib.hid (And.intro hi2 (And.intro hy0 (And.intro hy1 hy2)))
  clear hi2 hy0 hy1 hy2
  have HX := Lib.hid (And.intro hR (And.intro hlen hl))
  clear hR hlen hl
  by_cases hs : s < 1
  · go_enter Try.func22, Try.ntmps22
    go_wp2_with fail
    go_loopw [1, 6, 7, 8, 9, 10] (fun u1 u6 u7 _ _ _ W => u1 = .int .i64 s ∧ u6 = .slice none 0 0 ∧ u7 = .int .i64 0 ∧ W = w) (fun _ _ _ _ _ _ _ => 0)
    case atStart => exact ⟨rfl, rfl, rfl, rfl⟩
    obtain ⟨rfl, rfl, rfl, rfl⟩ := hrel
    go_wp2_with fail
    refine bodyPost_ret (v := .tuple #[.slice none 0 0, .int .i64 0]) (by simp [results, Try.results22]) rfl ?_
    have hz : scanI l s = [] := by unfold scanI; rw [if_pos hs]
    rw [hz]
    exact ⟨Below.refl _ _, none, 0, [], rfl, Reads.none_, Nat.le_refl _, nofun, rfl⟩
  obtain ⟨s0, rfl⟩ := Int.eq_ofNat_of_zero_le (by omega : 0 ≤ s)
  have HS : Hid (scanI l (s0 : Int) = scanM (l.length + 1) l s0) := by
    show scanI _ _ = _
    unfold scanI
    rw [if_neg hs]
    rfl
  go_enter Try.func22, Try.ntmps22
  go_wp2_with fail
  go_loopw [1, 6, 7, 8, 9, 10] (fun u1 u6 u7 _ _ _ W => ∃ (ds : List Dec) (rs : List Rc) (sN pos : Nat), u1 = .int .i64 (sN : Nat) ∧ u7 = .int .i64 (pos : Nat) ∧ sN = s0 + ds.length ∧ ScanI l s0 ds pos ∧ W.ownsRow w.heap.size 27 3 u6 rs.length (rs.flatMap encRc) ∧ rs.map Rc.trip = ds.map Dec.trip ∧ (∀ r ∈ rs, RcOk W u6 r) ∧ Below w.heap.size w W) (fun _ _ u7 _ _ _ _ => n + 2 - (intOf u7).toNat)
  case atStart => exact ⟨[], [], s0, 0, rfl, rfl, rfl, ScanI.start _ _, World.ownsRow_nil _ _ _ _, rfl, nofun, Below.refl _ _⟩
  case round =>
    obtain ⟨ds, rs, sN, pos, rfl, rfl, hsN, hI, hown, htr, hok, hb⟩ := hrel
    have hpn : pos ≤ n := by have := hI.le; have := HX.out.2.1; omega
    have hrl : rs.length ≤ 2000 := by
      have h1 := congrArg List.length htr
      simp only [List.length_map] at h1
      have h2 := hI.two
      omega
    obtain ⟨A6, c6, rfl, _, _, _⟩ := own_slice hown
    have H1 := Lib.hid (And.intro hsN (And.intro hI (And.intro hown (And.intro htr (And.intro hok hb)))))
    have p1 : (1 : Int) ≤ sN := by omega
    have p2 : (pos : Int) ≤ n := by omega
    have p3 : (pos : Int) ≤ c := by omega
    clear hsN hI hown htr hok hb
    have p9 : pos ≤ n := hpn
    by_cases hcp : c = pos
    · have hcp' := hcp.symm
      subst hcp'
      have HRD : Hid (Reads wr wr.heap.size 8 A 0 ((l.drop pos).flatMap encS)) := by
        have h := (HX.out.1.up H1.out.2.2.2.2.2).cut (k := pos) p9 hc
        rw [if_pos rfl, flat_drop, show n - pos = 0 by omega] at h
        exact h
      go_wp2_with fail
      refine (refDecode_any 0 0 A (l.drop pos) wr HRD.out (by omega) (by omega) (fun s hs => HX.out.2.2 s (List.mem_of_mem_drop hs))).mono ?_
      rintro e w1 ⟨hb1, A1, c1, rfl, hR1, hc1, hm1, hf1⟩
      have hfx := dec_facts (l := l.drop pos) (fun s hs => HX.out.2.2 s (List.mem_of_mem_drop hs))
      rw [List.length_drop, HX.out.2.1] at hfx
      obtain ⟨d, hd⟩ : ∃ d, decM (l.drop pos) = d := ⟨_, rfl⟩
      rw [hd] at hR1 hc1 hf1 hfx ⊢
      have HD := Lib.hid hd
      clear hd
      obtain ⟨de, dk, dq, dp, dn⟩ := d
      dsimp only at hR1 hc1 hf1 hfx ⊢
      have hbx := hb1.trans (((Below.refl _ w1).alloc (Nat.le_refl _) (.cells #[.int .i64 (dk : Nat), .int .i64 (dq : Nat), .slice A1 dp.length c1] 27)).mono hb1.size)
      have hs1 := hb1.size
      have hbk := Blk.new w1 27 #[.int .i64 (dk : Nat), .int .i64 (dq : Nat), .slice A1 dp.length c1]
      have hRx : Reads (w1.alloc (.cells #[.int .i64 (dk : Nat), .int .i64 (dq : Nat), .slice A1 dp.length c1] 27)) (w1.alloc (.cells #[.int .i64 (dk : Nat), .int .i64 (dq : Nat), .slice A1 dp.length c1] 27)).heap.size 1 A1 dp.length (u8s dp) := hR1.up ((Below.refl _ w1).alloc (Nat.le_refl _) _)
      have HB := Lib.hid hbx
      have HF := Lib.hid (And.intro hf1 (And.intro hRx hbk))
      have hsz := World.size_alloc w1 (.cells #[.int .i64 (dk : Nat), .int .i64 (dq : Nat), .slice A1 dp.length c1] 27)
      clear hb1 hR1 hc1 hm1 hf1 hbx hRx hbk
      by_cases he : de = 0
      · by_cases hq : dq = sN
        · subst he hq
          obtain ⟨f1, f2, f3, f4⟩ := hfx rfl
          exfalso
          omega
        · subst he
          have b1 : ((dq : Int) != (sN : Int)) = true := by rw [bne_iff_ne]; omega
          have HQ := Lib.hid hq
          clear hq hfx
          go_wp2_with fail
          generalize (w1.alloc (.cells #[.int .i64 (dk : Nat), .int .i64 (dq : Nat), .slice A1 dp.length c1] 27)) = W1 at *
          have hds : scanI l (s0 : Int) = ds := by
            rw [HS.out]
            refine H1.out.2.1.stop ?_
            rw [HD.out, ← H1.out.1]
            rintro ⟨g1, g2⟩
            exact HQ.out g2
          have hbw : Below w.heap.size w W1 := H1.out.2.2.2.2.2.trans (HB.out.mono H1.out.2.2.2.2.2.size)
          obtain ⟨A9, c9, hv9, hc9, _, hR9⟩ := own_slice (own_below H1.out.2.2.1 HB.out)
          injection hv9 with e1 e2 e3
          subst e1 e3
          refine bodyPost_ret (v := .tuple #[.slice A6 rs.length c6, .int .i64 (pos : Nat)]) (by simp [results, Try.results22]) rfl ?_
          rw [hds]
          exact ⟨hbw, A6, c6, rs, by rw [← H1.out.2.1.tot], hR9, hc9, fun r hr => ((H1.out.2.2.2.2.1 r hr).below HB.out).pay, H1.out.2.2.2.1⟩

      · have b1 : ((de : Int) != 0) = true := by rw [bne_iff_ne]; omega
        have HQ := Lib.hid he
        clear he hfx
        go_wp2_with fail
        generalize (w1.alloc (.cells #[.int .i64 (dk : Nat), .int .i64 (dq : Nat), .slice A1 dp.length c1] 27)) = W1 at *
        have hds : scanI l (s0 : Int) = ds := by
          rw [HS.out]
          refine H1.out.2.1.stop ?_
          rw [HD.out, ← H1.out.1]
          rintro ⟨g1, g2⟩
          exact HQ.out g1
        have hbw : Below w.heap.size w W1 := H1.out.2.2.2.2.2.trans (HB.out.mono H1.out.2.2.2.2.2.size)
        obtain ⟨A9, c9, hv9, hc9, _, hR9⟩ := own_slice (own_below H1.out.2.2.1 HB.out)
        injection hv9 with e1 e2 e3
        subst e1 e3
        refine bodyPost_ret (v := .tuple #[.slice A6 rs.length c6, .int .i64 (pos : Nat)]) (by simp [results, Try.results22]) rfl ?_
        rw [hds]
        exact ⟨hbw, A6, c6, rs, by rw [← H1.out.2.1.tot], hR9, hc9, fun r hr => ((H1.out.2.2.2.2.1 r hr).below HB.out).pay, H1.out.2.2.2.1⟩
    · have HRD : Hid (Reads wr wr.heap.size 8 (A.map (·.add (pos * 8))) (n - pos) ((l.drop pos).flatMap encS)) := by
        have h := (HX.out.1.up H1.out.2.2.2.2.2).cut (k := pos) p9 hc
        rw [if_neg hcp, flat_drop] at h
        exact h
      go_wp2_with fail
      obtain ⟨B, hB⟩ : ∃ B, (A.map (fun x => x.add (pos * 8))) = B := ⟨_, rfl⟩
      obtain ⟨cd, hcd⟩ : ∃ cd, c - pos = cd := ⟨_, rfl⟩
      obtain ⟨m, hm⟩ : ∃ m, n - pos = m := ⟨_, rfl⟩
      rw [hB, hm] at HRD
      rw [hB, hcd, hm]
      clear hB
      refine (refDecode_any m cd B (l.drop pos) wr HRD.out (by omega) (by omega) (fun s hs => HX.out.2.2 s (List.mem_of_mem_drop hs))).mono ?_
      rintro e w1 ⟨hb1, A1, c1, rfl, hR1, hc1, hm1, hf1⟩
      have hfx := dec_facts (l := l.drop pos) (fun s hs => HX.out.2.2 s (List.mem_of_mem_drop hs))
      rw [List.length_drop, HX.out.2.1] at hfx
      obtain ⟨d, hd⟩ : ∃ d, decM (l.drop pos) = d := ⟨_, rfl⟩
      rw [hd] at hR1 hc1 hf1 hfx ⊢
      have HD := Lib.hid hd
      clear hd
      obtain ⟨de, dk, dq, dp, dn⟩ := d
      dsimp only at hR1 hc1 hf1 hfx ⊢
      have hbx := hb1.trans (((Below.refl _ w1).alloc (Nat.le_refl _) (.cells #[.int .i64 (dk : Nat), .int .i64 (dq : Nat), .slice A1 dp.length c1] 27)).mono hb1.size)
      have hs1 := hb1.size
      have hbk := Blk.new w1 27 #[.int .i64 (dk : Nat), .int .i64 (dq : Nat), .slice A1 dp.length c1]
      have hRx : Reads (w1.alloc (.cells #[.int .i64 (dk : Nat), .int .i64 (dq : Nat), .slice A1 dp.length c1] 27)) (w1.alloc (.cells #[.int .i64 (dk : Nat), .int .i64 (dq : Nat), .slice A1 dp.length c1] 27)).heap.size 1 A1 dp.length (u8s dp) := hR1.up ((Below.refl _ w1).alloc (Nat.le_refl _) _)
      have HB := Lib.hid hbx
      have HF := Lib.hid (And.intro hf1 (And.intro hRx hbk))
      have hsz := World.size_alloc w1 (.cells #[.int .i64 (dk : Nat), .int .i64 (dq : Nat), .slice A1 dp.length c1] 27)
      clear hb1 hR1 hc1 hm1 hf1 hbx hRx hbk
      by_cases he : de = 0
      · by_cases hq : dq = sN
        · subst he hq
          obtain ⟨f1, f2, f3, f4⟩ := hfx rfl
          go_upto_region 6 with fail
          generalize (w1.alloc (.cells #[.int .i64 (dk : Nat), .int .i64 (dq : Nat), .slice A1 dp.length c1] 27)) = W1 at *
          have x0 : W1.cell? ⟨w1.heap.size, 0, none⟩ = some (.int .i64 (dk : Nat)) := HF.out.2.2.cell 0
          have x1 : W1.cell? ⟨w1.heap.size, 1, none⟩ = some (.int .i64 (dq : Nat)) := HF.out.2.2.cell 1
          have x2 : W1.cell? ⟨w1.heap.size, 2, none⟩ = some (.slice A1 dp.length c1) := HF.out.2.2.cell 2
          have hbe : Below W1.heap.size W1 (W1.alloc (.cells #[.int .i64 (dk : Nat), .int .i64 (dq : Nat), .slice A1 dp.length c1] 27)) := (Below.refl _ W1).alloc (Nat.le_refl _) _
          have hbwq : Below w.heap.size w W1 := H1.out.2.2.2.2.2.trans (HB.out.mono H1.out.2.2.2.2.2.size)
          have HE := Lib.hid (And.intro hbe (And.intro (own_alloc (own_below H1.out.2.2.1 HB.out) (.cells #[.int .i64 (dk : Nat), .int .i64 (dq : Nat), .slice A1 dp.length c1] 27)) hbwq))
          have HSZ := Lib.hid hsz
          clear hbe hbwq hsz
          go_wp2_with (at_builtin; go_must (refine wpList_append_any (W1.alloc (.cells #[.int .i64 (dk : Nat), .int .i64 (dq : Nat), .slice A1 dp.length c1] 27)) rfl (.tmp 29) (.tmp 31) _ rfl w.heap.size 27 i2 _ 3 40 Try.underlying50 HI.out.1 HI.out.2.1 HI.out.2.2.1 HI.out.2.2.2 rfl (by omega) (.slice A6 rs.length c6) rs.length (rs.flatMap encRc) rfl HE.out.2.1 (W1.heap.size + 1) (some ⟨W1.heap.size, 0, none⟩) 1 1 [.int .i64 (dk : Nat), .int .i64 (dq : Nat), .slice A1 dp.length c1] rfl (elem_reads W1 #[.int .i64 (dk : Nat), .int .i64 (dq : Nat), .slice A1 dp.length c1] 27) (by simp [Value.oneCell']) (by simp only [maxLen]; omega) (by omega) (by rw [World.size_alloc]; have := HE.out.2.2.size; omega) ?_; intro v2 w2 ho2 hg2 hv2))
          go_roundw
          case rel =>
            have hr0 : RcOk (W1.alloc (.cells #[.int .i64 (dk : Nat), .int .i64 (dq : Nat), .slice A1 dp.length c1] 27)) (.slice A6 rs.length c6) ⟨dk, dq, A1, c1, dp⟩ := by
              refine RcOk.below (W := W1) ⟨HF.out.2.1, fun ad h0 hA e => ?_⟩ HE.out.1
              have h1 := own_lt H1.out.2.2.1 _ e
              have h2 := HF.out.1 ad h0 hA
              omega
            have hI2 := H1.out.2.1.step HX.out.2.2 (by rw [HD.out]) (by rw [HD.out]; exact H1.out.1)
            rw [HD.out] at hI2
            refine ⟨ds ++ [⟨0, dk, dq, dp, dn⟩], rs ++ [⟨dk, dq, A1, c1, dp⟩], dq + 1, pos + dn, by go_num, by go_num, by rw [List.length_append, List.length_singleton, H1.out.1, Nat.add_assoc], hI2, ?_, ?_, ?_, ?_⟩
            · rw [List.length_append, List.length_singleton, List.flatMap_append]
              exact ho2
            · rw [List.map_append, List.map_append, H1.out.2.2.2.1]
              rfl
            · intro r hr
              rcases List.mem_append.1 hr with hr | hr
              · exact (((H1.out.2.2.2.2.1 r hr).below HB.out).below HE.out.1).grown hg2 hv2
              · rw [List.mem_singleton] at hr
                rw [hr]
                exact hr0.grown hg2 hv2
            · exact (HE.out.2.2.alloc HE.out.2.2.size _).grown hg2 (by rw [World.size_alloc]; have := HE.out.2.2.size; omega) (own_block_ge HE.out.2.1)
          case measure => simp [intOf]; omega
        · subst he
          have b1 : ((dq : Int) != (sN : Int)) = true := by rw [bne_iff_ne]; omega
          have HQ := Lib.hid hq
          clear hq hfx
          go_wp2_with fail
          generalize (w1.alloc (.cells #[.int .i64 (dk : Nat), .int .i64 (dq : Nat), .slice A1 dp.length c1] 27)) = W1 at *
          have hds : scanI l (s0 : Int) = ds := by
            rw [HS.out]
            refine H1.out.2.1.stop ?_
            rw [HD.out, ← H1.out.1]
            rintro ⟨g1, g2⟩
            exact HQ.out g2
          have hbw : Below w.heap.size w W1 := H1.out.2.2.2.2.2.trans (HB.out.mono H1.out.2.2.2.2.2.size)
          obtain ⟨A9, c9, hv9, hc9, _, hR9⟩ := own_slice (own_below H1.out.2.2.1 HB.out)
          injection hv9 with e1 e2 e3
          subst e1 e3
          refine bodyPost_ret (v := .tuple #[.slice A6 rs.length c6, .int .i64 (pos : Nat)]) (by simp [results, Try.results22]) rfl ?_
          rw [hds]
          exact ⟨hbw, A6, c6, rs, by rw [← H1.out.2.1.tot], hR9, hc9, fun r hr => ((H1.out.2.2.2.2.1 r hr).below HB.out).pay, H1.out.2.2.2.1⟩

      · have b1 : ((de : Int) != 0) = true := by rw [bne_iff_ne]; omega
        have HQ := Lib.hid he
        clear he hfx
        go_wp2_with fail
        generalize (w1.alloc (.cells #[.int .i64 (dk : Nat), .int .i64 (dq : Nat), .slice A1 dp.length c1] 27)) = W1 at *
        have hds : scanI l (s0 : Int) = ds := by
          rw [HS.out]
          refine H1.out.2.1.stop ?_
          rw [HD.out, ← H1.out.1]
          rintro ⟨g1, g2⟩
          exact HQ.out g1
        have hbw : Below w.heap.size w W1 := H1.out.2.2.2.2.2.trans (HB.out.mono H1.out.2.2.2.2.2.size)
        obtain ⟨A9, c9, hv9, hc9, _, hR9⟩ := own_slice (own_below H1.out.2.2.1 HB.out)
        injection hv9 with e1 e2 e3
        subst e1 e3
        refine bodyPost_ret (v := .tuple #[.slice A6 rs.length c6, .int .i64 (pos : Nat)]) (by simp [results, Try.results22]) rfl ?_
        rw [hds]
        exact ⟨hbw, A6, c6, rs, by rw [← H1.out.2.1.tot], hR9, hc9, fun r hr => ((H1.out.2.2.2.2.1 r hr).below HB.out).pay, H1.out.2.2.2.1⟩
end Go.Proofs.Ytbiiahbhgjjhgaa
