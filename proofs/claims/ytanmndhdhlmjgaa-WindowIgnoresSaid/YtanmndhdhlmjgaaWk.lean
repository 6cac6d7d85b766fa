/- The walk of copyReceiver. Conditions: small. -/
import Derived.Test.YtanmndhdhlmjgaaVf
namespace Go.Proofs.Ytanmndhdhlmjgaa
open Go.RowKit
/-- a receiver whose row is new -/
structure CopyRR (w : World) (base : Nat) (r : Rm) (e : Ending) (w' : World) : Prop where
  ret : ∃ ve es, e = .returned (.agg (rcC r ve)) ∧ Own1 encA AeR 84 2 w' base w.heap.size ve es ∧ es.map Ae.am = r.early
  bel : Below w.heap.size w w'
set_option maxRecDepth 100000 in
set_option maxHeartbeats 8000000 in
set_option linter.unusedSimpArgs false in
theorem copyReceiver_any (r : Rm) (v : Value) (base : Nat) (w : World) (hv : RcV w base r v) (hs : SmallR r) (hpos : ∀ a ∈ r.early, a.p.length ≤ 100000) (hbw : base ≤ w.heap.size) :
    Calls Try.prog 67 #[v] w (CopyRR w base r) := by
  obtain ⟨ve, rfl, es, hE, heo⟩ := hv
  obtain ⟨Ao, co, rfl, hlo, hmo, hro⟩ := hE.val
  have hno : es.length ≤ 10000 := by have := hs.early; rw [← heo, List.length_map] at this; exact this
  have hpo : ∀ e ∈ es, e.p.length ≤ 100000 := fun e he => hpos e.am (by rw [← heo]; exact List.mem_map_of_mem he)
  have HP := Lib.hid hpo
  have HE := Lib.hid (And.intro hE heo)
  clear hE hs hpo hpos
  obtain ⟨no, hnoo⟩ : ∃ n, es.length = n := ⟨_, rfl⟩
  have HL := Lib.hid hnoo
  rw [hnoo] at hno hlo hro ⊢
  have HR := Lib.hid hro
  clear hnoo heo hro
  have hk := (Blk.new w 33 (rcC r (.slice Ao no co))).alloc (.cells #[.int .i64 0, .int .i64 0, .int .i64 0, .slice none 0 0] 33)
  have hk2 := Blk.new (w.alloc (.cells (rcC r (.slice Ao no co)) 33)) 33 #[.int .i64 0, .int .i64 0, .int .i64 0, .slice none 0 0]
  have hb : Below w.heap.size w ((w.alloc (.cells (rcC r (.slice Ao no co)) 33)).alloc (.cells #[.int .i64 0, .int .i64 0, .int .i64 0, .slice none 0 0] 33)) := ((Below.refl _ w).alloc (Nat.le_refl _) _).alloc (by simp) _
  rw [World.size_alloc] at hk2
  unfold rcC at hk hk2 hb ⊢
  have H1 := Lib.hid (And.intro hk (And.intro hk2 hb))
  go_enter Try.func67, Try.ntmps67
  go_wp2_with fail
  generalize ((w.alloc (.cells #[.int .i64 r.ses, .int .i64 r.lim, .int .i64 r.next, .slice Ao no co] 33)).alloc (.cells #[.int .i64 0, .int .i64 0, .int .i64 0, .slice none 0 0] 33)) = W at *
  have xc3 : W.cell? ⟨w.heap.size, 3, none⟩ = some (.slice Ao no co) := hk.cell 3
  have lW := hk2.lt
  clear hk hk2 hb
  refine (CloneA_any Ao no co (es.flatMap encA) W (HR.out.up H1.out.2.2).rd (by omega) (flat_one encA_one es)).mono ?_
  rintro e w1 ⟨⟨v1, rfl, hown1⟩, hb1⟩
  obtain ⟨A1, c1, rfl, h1a, h1b, -⟩ := own_slice hown1
  have hkA := H1.out.1.below hb1 H1.out.1.lt
  have hkB := H1.out.2.1.below hb1 lW
  have hbA := H1.out.2.2.trans (hb1.mono H1.out.2.2.size)
  have d3 : w1.cell? ⟨w.heap.size, 3, none⟩ = some (.slice Ao no co) := hkA.cell 3
  have z3 := hkA.frozen 3
  have lA := hkA.lt
  have hkV : Blk (w1.setCell ⟨w.heap.size, 3, none⟩ (.slice A1 no c1)) w.heap.size 33 (rcC r (.slice A1 no c1)) := hkA.set_ 3 _
  have hkV2 := hkB.far (p := ⟨w.heap.size, 3, none⟩) (by dsimp only; omega) (.slice A1 no c1)
  have hT2 : Turn base [33] w1 (w1.setCell ⟨w.heap.size, 3, none⟩ (.slice A1 no c1)) := (Turn.refl base [33] w1).set hkA (by simp) hbw 3 _
  have hBV : Below w.heap.size w (w1.setCell ⟨w.heap.size, 3, none⟩ (.slice A1 no c1)) := hbA.setCell (p := ⟨w.heap.size, 3, none⟩) (Nat.le_refl _) _
  have hO1 : Own1 encA AeR 84 2 (w1.setCell ⟨w.heap.size, 3, none⟩ (.slice A1 no c1)) base w.heap.size (.slice A1 no c1) es := (Own1.turn (T := [33]) (W := w1) ⟨by rw [HL.out]; exact own_base hown1 H1.out.2.2.size, fun e he => (HE.out.1.el e he).turn (Turn.of_below (T := []) hbA) (by simp)⟩ hT2 (by simp) (aeR_ab (by simp)))
  have HI := Lib.hid (And.intro hkV (And.intro hkV2 (And.intro hO1 hBV)))
  have e3 : (w1.setCell ⟨w.heap.size, 3, none⟩ (.slice A1 no c1)).cell? ⟨w.heap.size, 3, none⟩ = some (.slice A1 no c1) := hkV.cell 3
  clear hkV hkV2 hO1 hBV hT2 hown1 hb1 xc3 hkA hkB hbA lW
  go_upto_region 2 with fail
  generalize (w1.setCell ⟨w.heap.size, 3, none⟩ (.slice A1 no c1)) = V at *
  clear d3 z3 lA
  go_wp2_with fail
  clear e3
  go_loopw [11] (fun u11 wr => ∃ (k : Nat) (es' : List Ae), k ≤ no ∧ u11 = .int .i64 (k : Nat) ∧ Blk wr w.heap.size 33 (rcC r (.slice A1 no c1)) ∧ Blk wr (w.heap.size + 1) 33 #[.int .i64 0, .int .i64 0, .int .i64 0, .slice none 0 0] ∧ Own1 encA AeR 84 2 wr base w.heap.size (.slice A1 no c1) es' ∧ es'.map Ae.am = r.early ∧ Below w.heap.size w wr) (fun u11 _ => no - (intOf u11).toNat)
  case atStart => exact ⟨0, es, by omega, rfl, HI.out.1, HI.out.2.1, HI.out.2.2.1, HE.out.2, HI.out.2.2.2⟩
  case round =>
    obtain ⟨k, es', hk, rfl, hkV, hkV2, hO1, hom, hBV⟩ := hrel
    clear HI
    have hlen : es'.length = no := by rw [← List.length_map (f := Ae.am), hom, ← HE.out.2, List.length_map, HL.out]
    have lR := hkV.lt
    have e3 : wr.cell? ⟨w.heap.size, 3, none⟩ = some (.slice A1 no c1) := hkV.cell 3
    by_cases hlt : k < no
    · have ik : (k : Int) < no := by omega
      have hkl : k < es'.length := by omega
      have hpl : es'[k].p.length ≤ 100000 := by
        have h1 : es'[k].am.p = (es[k]'(by rw [HL.out]; exact hlt)).am.p := by
          have h2 : (es'.map Ae.am)[k]'(by simp; omega) = (es.map Ae.am)[k]'(by simp; rw [HL.out]; exact hlt) := by simp only [hom, HE.out.2]
          simp only [List.getElem_map] at h2
          rw [h2]
        have h3 := HP.out (es[k]'(by rw [HL.out]; exact hlt)) (List.getElem_mem _)
        have h4 : es'[k].p = (es[k]'(by rw [HL.out]; exact hlt)).p := h1
        rw [h4]
        exact h3
      obtain ⟨g, cc, cur, hv, hg, hbl, _, _, hcell⟩ := hO1.form encA_len (by omega)
      injection hv with hA hn hc
      subst hA hc
      clear hn
      obtain ⟨d4, z4⟩ := hcell k hkl 1 _ rfl
      have hby := hO1.el es'[k] (List.getElem_mem hkl)
      have hgl := hbl.lt
      have HX := Lib.hid (And.intro hkV (And.intro hkV2 (And.intro hO1 (And.intro hom (And.intro hBV (And.intro hby hlen))))))
      obtain ⟨pl, hpll⟩ : ∃ n, es'[k].p.length = n := ⟨_, rfl⟩
      have HPL := Lib.hid hpll
      rw [hpll] at d4 hpl
      clear hkV hkV2 hO1 hom hBV hby hcell hlen hpll hbl
      obtain ⟨pA, hpA⟩ : ∃ a, es'[k].A = a := ⟨_, rfl⟩
      obtain ⟨pc, hpc⟩ : ∃ a, es'[k].c = a := ⟨_, rfl⟩
      rw [hpA, hpc] at d4
      have HPA := Lib.hid (And.intro hpA hpc)
      clear hpA hpc
      go_upto_region 5 with fail
      refine wp_region_lexP [(0, 1), (2, 1), (3, 1), (5, 1), (1, 1), (4, 1), (6, 1), (7, 1), (8, 1), (9, 0), (10, 1), (11, 1), (12, 0)] [12] (fun w9 => w9.cell? ⟨w.heap.size, 3, none⟩ = some (.slice (some ⟨g, 0, none⟩) no c1) ∧ w9.cell? ⟨g, k * 2 + 1, none⟩ = some (.slice pA pl pc)) (by kernel_rfl) (by kernel_rfl) (by kernel_rfl) (by kernel_rfl) (by kernel_rfl) ⟨e3, d4⟩ ?_
      repeat (refine lexP_read rfl (by rfl) (by rfl) (by intro w9 hS9; (try dsimp only at hS9); go_simp <;> with_reducible rfl) ?_; (try simp only [Act.put, List.setIfInBounds_toArray, List.set_cons_zero, List.set_cons_succ]))
      refine lexP_eff rfl (fun _ => trivial) ?_
      go_simp
      refine CallsIn.mono ((callsIn_wide (n := 0)).2 (CloneB_any pA pl pc (u8s es'[k].p) wr.drew (by have h := HX.out.2.2.2.2.2.1; unfold AeR Byt at h; rw [HPL.out, HPA.out.1] at h; exact h.rd) hpl (u8s_one _))) ?_
      rintro e w1 ⟨⟨v3, rfl, hown3⟩, hb3⟩
      dsimp only
      obtain ⟨A3, cc3, rfl, -, -, -⟩ := own_slice hown3
      have hb3' : Below wr.heap.size wr w1 := (Below.refl _ wr).drew.trans hb3
      have q6 := (hb3'.cell (p := ⟨w.heap.size, 3, none⟩) lR).trans e3
      have q4 := (hb3'.cell (p := ⟨g, k * 2 + 1, none⟩) hgl).trans d4
      have qz := (hb3'.frozen (p := ⟨g, k * 2 + 1, none⟩) hgl).trans z4
      have lg1 := Nat.lt_of_lt_of_le hgl hb3'.size
      refine ⟨⟨q6, q4⟩, ?_⟩
      (try simp only [Act.put, List.setIfInBounds_toArray, List.set_cons_zero, List.set_cons_succ])
      repeat (refine lexP_read rfl (by rfl) (by rfl) (by intro w9 hS9; (try dsimp only at hS9); go_simp <;> with_reducible rfl) ?_; (try simp only [Act.put, List.setIfInBounds_toArray, List.set_cons_zero, List.set_cons_succ]))
      refine lexP_eff rfl (fun _ => trivial) ?_
      go_simp
      refine lexP_nil (panQ_normal ?_)
      have hl5 := HX.out.2.2.2.2.2.2
      obtain ⟨hset, hT⟩ := Own1.set (base := base) (by have h := HX.out.2.2.1.up hb3' (aeR_ab (by simp)); rw [← hl5] at h; exact h) hbw (aeR_ab (by simp)) encA_len hkl (j := 1) (by omega) { es'[k] with A := A3, c := cc3 } (.slice A3 pl cc3) (by rw [← HPL.out]; rfl) (byt_of_own hown3 HPL.out)
      have hbS : Below w.heap.size w (w1.setCell ⟨g, k * 2 + 1, none⟩ (.slice A3 pl cc3)) := (HX.out.2.2.2.2.1.trans (hb3'.mono HX.out.2.2.2.2.1.size)).setCell (p := ⟨g, k * 2 + 1, none⟩) hg _
      have hkS := (HX.out.1.below hb3' lR).turn hT (by simp)
      have hkS2 := (HX.out.2.1.below hb3' HX.out.2.1.lt).turn hT (by simp)
      rw [hl5] at hset
      have homS : (es'.set k { es'[k] with A := A3, c := cc3 }).map Ae.am = r.early := by
        rw [List.map_set, show ({ es'[k] with A := A3, c := cc3 } : Ae).am = es'[k].am from rfl, ← HX.out.2.2.2.1]
        apply List.ext_getElem (by simp)
        intro j h1 h2
        rw [List.getElem_set]
        split
        · subst_vars; simp
        · rfl
      have HY := Lib.hid (And.intro hset (And.intro hbS (And.intro hkS (And.intro hkS2 homS))))
      clear hset hbS hkS hkS2 homS hT hl5 q6 q4 qz hown3 hb3 hb3' d4 z4
      go_wp2_with fail
      go_roundw
      case rel => exact ⟨k + 1, _, by omega, by go_num, HY.out.2.2.1, HY.out.2.2.2.1, HY.out.1, HY.out.2.2.2.2, HY.out.2.1⟩
      case measure => simp [intOf]; omega
    · obtain rfl : k = no := by omega
      have xc0 : wr.cell? ⟨w.heap.size, 0, none⟩ = some (.int .i64 r.ses) := hkV.cell 0
      have xc1 : wr.cell? ⟨w.heap.size, 1, none⟩ = some (.int .i64 r.lim) := hkV.cell 1
      have xc2 : wr.cell? ⟨w.heap.size, 2, none⟩ = some (.int .i64 r.next) := hkV.cell 2
      have xc3 : wr.cell? ⟨w.heap.size, 3, none⟩ = some (.slice A1 k c1) := hkV.cell 3
      have xd0 : wr.cell? ⟨w.heap.size + 1, 0, none⟩ = some (.int .i64 0) := hkV2.cell 0
      have xd1 : wr.cell? ⟨w.heap.size + 1, 1, none⟩ = some (.int .i64 0) := hkV2.cell 1
      have xd2 : wr.cell? ⟨w.heap.size + 1, 2, none⟩ = some (.int .i64 0) := hkV2.cell 2
      have xd3 : wr.cell? ⟨w.heap.size + 1, 3, none⟩ = some (.slice none 0 0) := hkV2.cell 3
      have xy0 := hkV2.frozen 0
      have xy1 := hkV2.frozen 1
      have xy2 := hkV2.frozen 2
      have xy3 := hkV2.frozen 3
      have lR2 := hkV2.lt
      have hkF := set33_blk hkV2 (.int .i64 r.ses) (.int .i64 r.lim) (.int .i64 r.next) (.slice A1 k c1)
      have hTF := set33_turn hkV2 (base := base) (by omega) (.int .i64 r.ses) (.int .i64 r.lim) (.int .i64 r.next) (.slice A1 k c1)
      have hbF := set33_below hBV (g := w.heap.size + 1) (by omega) (.int .i64 r.ses) (.int .i64 r.lim) (.int .i64 r.next) (.slice A1 k c1)
      have HF := Lib.hid (And.intro hkF (And.intro (hO1.turn hTF (by simp) (aeR_ab (by simp))) (And.intro hom hbF)))
      clear hkV hkV2 hO1 hom hBV hkF hTF hbF e3
      go_wp2_with fail
      refine bodyPost_ret (results_cell1 (t := 33) rfl _ _ (w.heap.size + 1) _ _ rfl HF.out.1 Try.underlying33 rfl (by kernel_rfl)) rfl ?_
      exact ⟨⟨_, es', rfl, HF.out.2.1, HF.out.2.2.1⟩, HF.out.2.2.2⟩
end Go.Proofs.Ytanmndhdhlmjgaa
