/- The walk of copySender. Conditions: small. -/
import Derived.Test.YtanmndhdhlmjgaaVf
namespace Go.Proofs.Ytanmndhdhlmjgaa
open Go.RowKit
/-- a sender whose rows are new -/
structure CopyS (w : World) (base : Nat) (s : Sm) (e : Ending) (w' : World) : Prop where
  ret : ∃ vo vq es qs, e = .returned (.agg (snC s vo vq)) ∧ Own1 encO OeR 82 5 w' base w.heap.size vo es ∧ es.map Oe.om = s.out ∧ Own1 encQ QeR 42 1 w' base w.heap.size vq qs ∧ qs.map Qe.p = s.q
  bel : Below w.heap.size w w'
set_option maxRecDepth 100000 in
set_option maxHeartbeats 8000000 in
set_option linter.unusedSimpArgs false in
theorem copySender_any (s : Sm) (v : Value) (base : Nat) (w : World) (hv : SnV w base s v) (hs : Small s) (hpos : ∀ o ∈ s.out, o.p.length ≤ 100000) (hpqs : ∀ p ∈ s.q, p.length ≤ 100000) (hbw : base ≤ w.heap.size) :
    Calls Try.prog 51 #[v] w (CopyS w base s) := by
  obtain ⟨vo, vq, rfl, hO, hQ⟩ := hv
  obtain ⟨es, hE, heo⟩ := hO
  obtain ⟨qs, hQe, heq⟩ := hQ
  obtain ⟨Ao, co, rfl, hlo, hmo, hro⟩ := hE.val
  obtain ⟨Aq, cq, rfl, hlq, hmq, hrq⟩ := hQe.val
  have hno : es.length ≤ 10000 := by have := hs.out; rw [← heo, List.length_map] at this; exact this
  have hnq : qs.length ≤ 10000 := by have := hs.q; rw [← heq, List.length_map] at this; exact this
  have hpo : ∀ e ∈ es, e.p.length ≤ 100000 := fun e he => hpos e.om (by rw [← heo]; exact List.mem_map_of_mem he)
  have hpq : ∀ e ∈ qs, e.p.length ≤ 100000 := fun e he => hpqs e.p (by rw [← heq]; exact List.mem_map_of_mem he)
  have HP := Lib.hid (And.intro hpo hpq)
  have HE := Lib.hid (And.intro hE (And.intro hQe (And.intro heo heq)))
  clear hE hQe hs hpo hpq hpos hpqs
  obtain ⟨no, hnoo⟩ : ∃ n, es.length = n := ⟨_, rfl⟩
  obtain ⟨nq, hnqq⟩ : ∃ n, qs.length = n := ⟨_, rfl⟩
  have HL := Lib.hid (And.intro hnoo hnqq)
  rw [hnoo] at hno hlo hro ⊢
  rw [hnqq] at hnq hlq hrq ⊢
  have HR := Lib.hid (And.intro hro hrq)
  clear hro hrq
  clear hnoo hnqq heo heq
  have hk := (Blk.new w 25 (snC s (.slice Ao no co) (.slice Aq nq cq))).alloc (.cells #[.int .i64 0, .int .i64 0, .int .i64 0, .int .i64 0, .int .i64 0, .int .i64 0, .slice none 0 0, .slice none 0 0] 25)
  have hk2 := Blk.new (w.alloc (.cells (snC s (.slice Ao no co) (.slice Aq nq cq)) 25)) 25 #[.int .i64 0, .int .i64 0, .int .i64 0, .int .i64 0, .int .i64 0, .int .i64 0, .slice none 0 0, .slice none 0 0]
  have hb : Below w.heap.size w ((w.alloc (.cells (snC s (.slice Ao no co) (.slice Aq nq cq)) 25)).alloc (.cells #[.int .i64 0, .int .i64 0, .int .i64 0, .int .i64 0, .int .i64 0, .int .i64 0, .slice none 0 0, .slice none 0 0] 25)) := ((Below.refl _ w).alloc (Nat.le_refl _) _).alloc (by simp) _
  rw [World.size_alloc] at hk2
  unfold snC at hk hk2 hb ⊢
  go_enter Try.func51, Try.ntmps51
  go_upto_region 1 with fail
  generalize ((w.alloc (.cells #[.int .i64 s.ses, .int .i64 s.lim, .int .i64 s.tmo, .int .i64 s.base, .int .i64 s.next, .int .i64 s.cred, .slice Ao no co, .slice Aq nq cq] 25)).alloc (.cells #[.int .i64 0, .int .i64 0, .int .i64 0, .int .i64 0, .int .i64 0, .int .i64 0, .slice none 0 0, .slice none 0 0] 25)) = W at *
  have lW := hk2.lt
  have H1 := Lib.hid (And.intro hk (And.intro hk2 hb))
  have c6 : W.drew.cell? ⟨w.heap.size, 6, none⟩ = some (.slice Ao no co) := hk.cell 6
  have c7 : W.drew.cell? ⟨w.heap.size, 7, none⟩ = some (.slice Aq nq cq) := hk.cell 7
  refine wp_region_lexP [(0, 1), (3, 1), (1, 1), (4, 1), (2, 0), (6, 1), (5, 0), (7, 0), (8, 2), (9, 0)] [7, 8, 9] (fun w9 => w9.cell? ⟨w.heap.size, 6, none⟩ = some (.slice Ao no co) ∧ w9.cell? ⟨w.heap.size, 7, none⟩ = some (.slice Aq nq cq)) (by kernel_rfl) (by kernel_rfl) (by kernel_rfl) (by kernel_rfl) (by kernel_rfl) ⟨c6, c7⟩ ?_
  repeat (refine lexP_read rfl (by rfl) (by rfl) (by intro w9 hS9; (try dsimp only at hS9); go_simp <;> with_reducible rfl) ?_; (try simp only [Act.put, List.setIfInBounds_toArray, List.set_cons_zero, List.set_cons_succ]))
  refine lexP_eff rfl (fun _ => trivial) ?_
  go_simp
  refine CallsIn.mono ((callsIn_wide (n := 0)).2 (CloneO_any Ao no co (es.flatMap encO) W.drew ((HR.out.1.up (H1.out.2.2.trans ((Below.refl _ W).drew.mono H1.out.2.2.size))).rd) (by omega) (flat_one encO_one es))) ?_
  rintro e w1 ⟨⟨v1, rfl, hown1⟩, hb1⟩
  dsimp only
  obtain ⟨A1, c1, rfl, h1a, h1b, -⟩ := own_slice hown1
  have c6' := (hb1.cell (p := ⟨w.heap.size, 6, none⟩) (Nat.lt_of_succ_lt lW)).trans c6
  have c7' := (hb1.cell (p := ⟨w.heap.size, 7, none⟩) (Nat.lt_of_succ_lt lW)).trans c7
  refine ⟨⟨c6', c7'⟩, ?_⟩
  (try simp only [Act.put, List.setIfInBounds_toArray, List.set_cons_zero, List.set_cons_succ])
  repeat (refine lexP_read rfl (by rfl) (by rfl) (by intro w9 hS9; (try dsimp only at hS9); go_simp <;> with_reducible rfl) ?_; (try simp only [Act.put, List.setIfInBounds_toArray, List.set_cons_zero, List.set_cons_succ]))
  refine lexP_eff rfl (fun _ => trivial) ?_
  go_simp
  refine CallsIn.mono ((callsIn_wide (n := 0)).2 (CloneQ_any Aq nq cq (qs.flatMap encQ) w1 (((HR.out.2.up H1.out.2.2).up ((Below.refl _ W).drew.trans hb1)).rd) (by omega) (flat_one encQ_one qs))) ?_
  rintro e w2 ⟨⟨v2, rfl, hown2⟩, hb2⟩
  dsimp only
  obtain ⟨A2, c2, rfl, h2a, h2b, -⟩ := own_slice hown2
  have hb12 : Below W.heap.size W w2 := (Below.refl _ W).drew.trans (hb1.trans (hb2.mono hb1.size))
  refine ⟨⟨(hb2.cell (p := ⟨w.heap.size, 6, none⟩) (Nat.lt_of_lt_of_le (Nat.lt_of_succ_lt lW) hb1.size)).trans c6', (hb2.cell (p := ⟨w.heap.size, 7, none⟩) (Nat.lt_of_lt_of_le (Nat.lt_of_succ_lt lW) hb1.size)).trans c7'⟩, ?_⟩
  have hkA := hk.below hb12 (Nat.lt_of_succ_lt lW)
  have hkB := hk2.below hb12 lW
  have d6 : w2.cell? ⟨w.heap.size, 6, none⟩ = some (.slice Ao no co) := hkA.cell 6
  have d7 : w2.cell? ⟨w.heap.size, 7, none⟩ = some (.slice Aq nq cq) := hkA.cell 7
  have z6 := hkA.frozen 6
  have z7 := hkA.frozen 7
  have lA := hkA.lt
  (try simp only [Act.put, List.setIfInBounds_toArray, List.set_cons_zero, List.set_cons_succ])
  refine lexP_eff rfl (fun _ => trivial) ?_
  go_simp
  (try simp only [Act.put, List.setIfInBounds_toArray, List.set_cons_zero, List.set_cons_succ])
  repeat (refine lexP_late rfl (fun _ => trivial) (by rfl) (by intro w9; go_simp <;> with_reducible rfl) ?_; (try simp only [Act.put, List.setIfInBounds_toArray, List.set_cons_zero, List.set_cons_succ]))
  refine lexP_eff rfl (fun _ => trivial) ?_
  go_simp
  refine lexP_nil (panQ_normal ?_)
  have hkV : Blk ((w2.setCell ⟨w.heap.size, 6, none⟩ (.slice A1 no c1)).setCell ⟨w.heap.size, 7, none⟩ (.slice A2 nq c2)) w.heap.size 25 (snC s (.slice A1 no c1) (.slice A2 nq c2)) := (hkA.set_ 6 _).set_ 7 _
  have hkV2 := (hkB.far (p := ⟨w.heap.size, 6, none⟩) (by dsimp only; omega) (.slice A1 no c1)).far (p := ⟨w.heap.size, 7, none⟩) (by dsimp only; omega) (.slice A2 nq c2)
  have hT2 : Turn base [25] w2 ((w2.setCell ⟨w.heap.size, 6, none⟩ (.slice A1 no c1)).setCell ⟨w.heap.size, 7, none⟩ (.slice A2 nq c2)) := ((Turn.refl base [25] w2).set hkA (by simp) hbw 6 _).set (hkA.set_ 6 _) (by simp) hbw 7 _
  have hBV : Below w.heap.size w ((w2.setCell ⟨w.heap.size, 6, none⟩ (.slice A1 no c1)).setCell ⟨w.heap.size, 7, none⟩ (.slice A2 nq c2)) := ((H1.out.2.2.trans (hb12.mono H1.out.2.2.size)).setCell (p := ⟨w.heap.size, 6, none⟩) (Nat.le_refl _) _).setCell (p := ⟨w.heap.size, 7, none⟩) (Nat.le_refl _) _
  generalize ((w2.setCell ⟨w.heap.size, 6, none⟩ (.slice A1 no c1)).setCell ⟨w.heap.size, 7, none⟩ (.slice A2 nq c2)) = V at *
  have hT : Turn base [25] w V := (Turn.of_below (H1.out.2.2.trans (hb12.mono H1.out.2.2.size))).trans hT2
  have hO1 : Own1 encO OeR 82 5 V base w.heap.size (.slice A1 no c1) es := (Own1.turn (T := [25]) (W := w2) ⟨by rw [HL.out.1]; exact own_base (own_below hown1 hb2) H1.out.2.2.size, fun e he => (HE.out.1.el e he).turn (Turn.of_below (T := []) (H1.out.2.2.trans (hb12.mono H1.out.2.2.size))) (by simp)⟩ hT2 (by simp) (oeR_ab (by simp)))
  have hQ1 : Own1 encQ QeR 42 1 V base w.heap.size (.slice A2 nq c2) qs := (Own1.turn (T := [25]) (W := w2) ⟨by rw [HL.out.2]; exact own_base hown2 (Nat.le_trans H1.out.2.2.size hb1.size), fun e he => (HE.out.2.1.el e he).turn (Turn.of_below (T := []) (H1.out.2.2.trans (hb12.mono H1.out.2.2.size))) (by simp)⟩ hT2 (by simp) (qeR_ab (by simp)))
  have lV := hkV.lt
  have HI := Lib.hid (And.intro hkV (And.intro hkV2 (And.intro hO1 (And.intro hQ1 hBV))))
  have e6 : V.cell? ⟨w.heap.size, 6, none⟩ = some (.slice A1 no c1) := hkV.cell 6
  clear hkV hkV2 hO1 hQ1 hBV hT hT2 hk hk2 hb H1 HR hown1 hown2 hb1 hb2 hb12 c6 c7 c6' c7' hkA hkB d6 d7 z6 z7 lA lW
  go_wp2_with fail
  clear e6
  go_loopw [16] (fun u16 wr => ∃ (k : Nat) (es' : List Oe), k ≤ no ∧ u16 = .int .i64 (k : Nat) ∧ Blk wr w.heap.size 25 (snC s (.slice A1 no c1) (.slice A2 nq c2)) ∧ Blk wr (w.heap.size + 1) 25 #[.int .i64 0, .int .i64 0, .int .i64 0, .int .i64 0, .int .i64 0, .int .i64 0, .slice none 0 0, .slice none 0 0] ∧ Own1 encO OeR 82 5 wr base w.heap.size (.slice A1 no c1) es' ∧ es'.map Oe.om = s.out ∧ Own1 encQ QeR 42 1 wr base w.heap.size (.slice A2 nq c2) qs ∧ Below w.heap.size w wr) (fun u16 _ => no - (intOf u16).toNat)
  case atStart => exact ⟨0, es, by omega, rfl, HI.out.1, HI.out.2.1, HI.out.2.2.1, HE.out.2.2.1, HI.out.2.2.2.1, HI.out.2.2.2.2⟩
  case round =>
    obtain ⟨k, es', hk, rfl, hkV, hkV2, hO1, hom, hQ1, hBV⟩ := hrel
    clear HI
    have hlen : es'.length = no := by rw [← List.length_map (f := Oe.om), hom, ← HE.out.2.2.1, List.length_map, HL.out.1]
    have lR := hkV.lt
    have e6 : wr.cell? ⟨w.heap.size, 6, none⟩ = some (.slice A1 no c1) := hkV.cell 6
    have e7 : wr.cell? ⟨w.heap.size, 7, none⟩ = some (.slice A2 nq c2) := hkV.cell 7
    by_cases hlt : k < no
    · have ik : (k : Int) < no := by omega
      have hkl : k < es'.length := by omega
      have hpl : es'[k].p.length ≤ 100000 := by
        have h1 : es'[k].om.p = (es[k]'(by rw [HL.out.1]; exact hlt)).om.p := by
          have h2 : (es'.map Oe.om)[k]'(by simp; omega) = (es.map Oe.om)[k]'(by simp; rw [HL.out.1]; exact hlt) := by simp only [hom, HE.out.2.2.1]
          simp only [List.getElem_map] at h2
          rw [h2]
        have h3 := HP.out.1 (es[k]'(by rw [HL.out.1]; exact hlt)) (List.getElem_mem _)
        have h4 : es'[k].p = (es[k]'(by rw [HL.out.1]; exact hlt)).p := h1
        rw [h4]
        exact h3
      obtain ⟨g, cc, cur, hv, hg, hbl, _, _, hcell⟩ := hO1.form encO_len (by omega)
      injection hv with hA hn hc
      subst hA hc
      clear hn
      obtain ⟨d4, z4⟩ := hcell k hkl 4 _ rfl
      have hby := hO1.el es'[k] (List.getElem_mem hkl)
      have hgl := hbl.lt
      have HX := Lib.hid (And.intro hkV (And.intro hkV2 (And.intro hO1 (And.intro hom (And.intro hQ1 (And.intro hBV (And.intro hby hlen)))))))
      have HS : Hid ((encO es'[k]).set 4 = fun u => (encO es'[k]).set 4 u) := rfl
      obtain ⟨pl, hpll⟩ : ∃ n, es'[k].p.length = n := ⟨_, rfl⟩
      have HPL := Lib.hid hpll
      rw [hpll] at d4 hpl
      clear hkV hkV2 hO1 hom hQ1 hBV hby hcell hlen HS hpll hbl
      obtain ⟨pA, hpA⟩ : ∃ a, es'[k].A = a := ⟨_, rfl⟩
      obtain ⟨pc, hpc⟩ : ∃ a, es'[k].c = a := ⟨_, rfl⟩
      rw [hpA, hpc] at d4
      have HPA := Lib.hid (And.intro hpA hpc)
      clear hpA hpc
      go_upto_region 5 with fail
      refine wp_region_lexP [(0, 1), (2, 1), (3, 1), (5, 1), (1, 1), (4, 1), (6, 1), (7, 1), (8, 1), (9, 0), (10, 1), (11, 1), (12, 0)] [12] (fun w9 => w9.cell? ⟨w.heap.size, 6, none⟩ = some (.slice (some ⟨g, 0, none⟩) no c1) ∧ w9.cell? ⟨g, k * 5 + 4, none⟩ = some (.slice pA pl pc)) (by kernel_rfl) (by kernel_rfl) (by kernel_rfl) (by kernel_rfl) (by kernel_rfl) ⟨e6, d4⟩ ?_
      repeat (refine lexP_read rfl (by rfl) (by rfl) (by intro w9 hS9; (try dsimp only at hS9); go_simp <;> with_reducible rfl) ?_; (try simp only [Act.put, List.setIfInBounds_toArray, List.set_cons_zero, List.set_cons_succ]))
      refine lexP_eff rfl (fun _ => trivial) ?_
      go_simp
      refine CallsIn.mono ((callsIn_wide (n := 0)).2 (CloneB_any pA pl pc (u8s es'[k].p) wr.drew (by have h := HX.out.2.2.2.2.2.2.1; unfold OeR Byt at h; rw [HPL.out, HPA.out.1] at h; exact h.rd) hpl (u8s_one _))) ?_
      rintro e w1 ⟨⟨v3, rfl, hown3⟩, hb3⟩
      dsimp only
      obtain ⟨A3, c3, rfl, -, -, -⟩ := own_slice hown3
      have hb3' : Below wr.heap.size wr w1 := (Below.refl _ wr).drew.trans hb3
      have q6 := (hb3'.cell (p := ⟨w.heap.size, 6, none⟩) lR).trans e6
      have q4 := (hb3'.cell (p := ⟨g, k * 5 + 4, none⟩) hgl).trans d4
      have qz := (hb3'.frozen (p := ⟨g, k * 5 + 4, none⟩) hgl).trans z4
      have lg1 := Nat.lt_of_lt_of_le hgl hb3'.size
      refine ⟨⟨q6, q4⟩, ?_⟩
      (try simp only [Act.put, List.setIfInBounds_toArray, List.set_cons_zero, List.set_cons_succ])
      repeat (refine lexP_read rfl (by rfl) (by rfl) (by intro w9 hS9; (try dsimp only at hS9); go_simp <;> with_reducible rfl) ?_; (try simp only [Act.put, List.setIfInBounds_toArray, List.set_cons_zero, List.set_cons_succ]))
      refine lexP_eff rfl (fun _ => trivial) ?_
      go_simp
      refine lexP_nil (panQ_normal ?_)
      have hl5 := HX.out.2.2.2.2.2.2.2
      obtain ⟨hset, hT⟩ := Own1.set (base := base) (by have h := HX.out.2.2.1.up hb3' (oeR_ab (by simp)); rw [← hl5] at h; exact h) hbw (oeR_ab (by simp)) encO_len hkl (j := 4) (by omega) { es'[k] with A := A3, c := c3 } (.slice A3 pl c3) (by rw [← HPL.out]; rfl) (byt_of_own hown3 HPL.out)
      have hbS : Below w.heap.size w (w1.setCell ⟨g, k * 5 + 4, none⟩ (.slice A3 pl c3)) := (HX.out.2.2.2.2.2.1.trans (hb3'.mono HX.out.2.2.2.2.2.1.size)).setCell (p := ⟨g, k * 5 + 4, none⟩) hg _
      have hkS := (HX.out.1.below hb3' lR).turn hT (by simp)
      have hkS2 := (HX.out.2.1.below hb3' HX.out.2.1.lt).turn hT (by simp)
      have hQS := (HX.out.2.2.2.2.1.up hb3' (qeR_ab (by simp))).turn hT (by simp) (qeR_ab (by simp))
      rw [hl5] at hset
      have homS : (es'.set k { es'[k] with A := A3, c := c3 }).map Oe.om = s.out := by
        rw [List.map_set, show ({ es'[k] with A := A3, c := c3 } : Oe).om = es'[k].om from rfl, ← HX.out.2.2.2.1]
        apply List.ext_getElem (by simp)
        intro j h1 h2
        rw [List.getElem_set]
        split
        · subst_vars; simp
        · rfl
      have HY := Lib.hid (And.intro hset (And.intro hbS (And.intro hkS (And.intro hkS2 (And.intro hQS homS)))))
      clear hset hbS hkS hkS2 hQS homS hT hl5 q6 q4 qz hown3 hb3 hb3' d4 z4
      go_wp2_with fail
      go_roundw
      case rel => exact ⟨k + 1, _, by omega, by go_num, HY.out.2.2.1, HY.out.2.2.2.1, HY.out.1, HY.out.2.2.2.2.2, HY.out.2.2.2.2.1, HY.out.2.1⟩
      case measure => simp [intOf]; omega
    · obtain rfl : k = no := by omega
      have HX := Lib.hid (And.intro hkV (And.intro hkV2 (And.intro hO1 (And.intro hom (And.intro hQ1 hBV)))))
      clear hkV hkV2 hO1 hom hQ1 hBV
      obtain ⟨wo, hwo⟩ : ∃ x : World, x = wr := ⟨_, rfl⟩
      subst hwo
      have e7b := e7
      clear e6 e7
      go_wp2_with fail
      clear e7b
      go_loopw [35] (fun u35 wv => ∃ (j : Nat) (qs' : List Qe), j ≤ nq ∧ u35 = .int .i64 (j : Nat) ∧ Blk wv w.heap.size 25 (snC s (.slice A1 k c1) (.slice A2 nq c2)) ∧ Blk wv (w.heap.size + 1) 25 #[.int .i64 0, .int .i64 0, .int .i64 0, .int .i64 0, .int .i64 0, .int .i64 0, .slice none 0 0, .slice none 0 0] ∧ Own1 encO OeR 82 5 wv base w.heap.size (.slice A1 k c1) es' ∧ Own1 encQ QeR 42 1 wv base w.heap.size (.slice A2 nq c2) qs' ∧ qs'.map Qe.p = s.q ∧ Below w.heap.size w wv) (fun u35 _ => nq - (intOf u35).toNat)
      case atStart => exact ⟨0, qs, by omega, rfl, HX.out.1, HX.out.2.1, HX.out.2.2.1, HX.out.2.2.2.2.1, HE.out.2.2.2, HX.out.2.2.2.2.2⟩
      case round =>
        obtain ⟨j, qs', hj, rfl, hkV, hkV2, hO1, hQ1, hqm, hBV⟩ := hrel
        have hlen2 : qs'.length = nq := by rw [← List.length_map (f := Qe.p), hqm, ← HE.out.2.2.2, List.length_map, HL.out.2]
        have lR := hkV.lt
        have e7 : wr.cell? ⟨w.heap.size, 7, none⟩ = some (.slice A2 nq c2) := hkV.cell 7
        by_cases hlt2 : j < nq
        · have ij : (j : Int) < nq := by omega
          have hjl : j < qs'.length := by omega
          have hpl : qs'[j].p.length ≤ 100000 := by
            have h1 : qs'[j].p = (qs[j]'(by rw [HL.out.2]; exact hlt2)).p := by
              have h2 : (qs'.map Qe.p)[j]'(by simp; omega) = (qs.map Qe.p)[j]'(by simp; rw [HL.out.2]; exact hlt2) := by simp only [hqm, HE.out.2.2.2]
              simpa only [List.getElem_map] using h2
            rw [h1]
            exact HP.out.2 _ (List.getElem_mem _)
          obtain ⟨g, cc, cur, hv, hg, hbl, _, _, hcell⟩ := hQ1.form encQ_len (by omega)
          injection hv with hA hn hc
          subst hA hc
          clear hn
          obtain ⟨d4, z4⟩ := hcell j hjl 0 _ rfl
          rw [Nat.mul_one] at d4 z4
          have hby := hQ1.el qs'[j] (List.getElem_mem hjl)
          have hgl := hbl.lt
          have HY := Lib.hid (And.intro hkV (And.intro hkV2 (And.intro hO1 (And.intro hqm (And.intro hQ1 (And.intro hBV (And.intro hby hlen2)))))))
          obtain ⟨pl, hpll⟩ : ∃ n, qs'[j].p.length = n := ⟨_, rfl⟩
          have HPL := Lib.hid hpll
          rw [hpll] at d4 hpl
          clear hkV hkV2 hO1 hqm hQ1 hBV hby hcell hlen2 hpll hbl
          obtain ⟨pA, hpA⟩ : ∃ a, qs'[j].A = a := ⟨_, rfl⟩
          obtain ⟨pc, hpc⟩ : ∃ a, qs'[j].c = a := ⟨_, rfl⟩
          rw [hpA, hpc] at d4
          have HPA := Lib.hid (And.intro hpA hpc)
          clear hpA hpc
          go_upto_region 10 with fail
          refine wp_region_lexP [(0, 1), (2, 1), (3, 1), (5, 1), (1, 1), (4, 1), (6, 1), (7, 1), (8, 0), (9, 1), (10, 0)] [10] (fun w9 => w9.cell? ⟨w.heap.size, 7, none⟩ = some (.slice (some ⟨g, 0, none⟩) nq c2) ∧ w9.cell? ⟨g, j, none⟩ = some (.slice pA pl pc)) (by kernel_rfl) (by kernel_rfl) (by kernel_rfl) (by kernel_rfl) (by kernel_rfl) ⟨e7, d4⟩ ?_
          repeat (refine lexP_read rfl (by rfl) (by rfl) (by intro w9 hS9; (try dsimp only at hS9); go_simp <;> with_reducible rfl) ?_; (try simp only [Act.put, List.setIfInBounds_toArray, List.set_cons_zero, List.set_cons_succ]))
          refine lexP_eff rfl (fun _ => trivial) ?_
          go_simp
          refine CallsIn.mono ((callsIn_wide (n := 0)).2 (CloneB_any pA pl pc (u8s qs'[j].p) wr.drew (by have h := HY.out.2.2.2.2.2.2.1; unfold QeR Byt at h; rw [HPL.out, HPA.out.1] at h; exact h.rd) hpl (u8s_one _))) ?_
          rintro e w1 ⟨⟨v3, rfl, hown3⟩, hb3⟩
          dsimp only
          obtain ⟨A3, c3, rfl, -, -, -⟩ := own_slice hown3
          have hb3' : Below wr.heap.size wr w1 := (Below.refl _ wr).drew.trans hb3
          have q6 := (hb3'.cell (p := ⟨w.heap.size, 7, none⟩) lR).trans e7
          have q4 := (hb3'.cell (p := ⟨g, j, none⟩) hgl).trans d4
          have qz := (hb3'.frozen (p := ⟨g, j, none⟩) hgl).trans z4
          have lg1 := Nat.lt_of_lt_of_le hgl hb3'.size
          refine ⟨⟨q6, q4⟩, ?_⟩
          (try simp only [Act.put, List.setIfInBounds_toArray, List.set_cons_zero, List.set_cons_succ])
          repeat (refine lexP_read rfl (by rfl) (by rfl) (by intro w9 hS9; (try dsimp only at hS9); go_simp <;> with_reducible rfl) ?_; (try simp only [Act.put, List.setIfInBounds_toArray, List.set_cons_zero, List.set_cons_succ]))
          refine lexP_eff rfl (fun _ => trivial) ?_
          go_simp
          refine lexP_nil (panQ_normal ?_)
          have hl5 := HY.out.2.2.2.2.2.2.2
          obtain ⟨hset, hT⟩ := Own1.set (base := base) (by have h := HY.out.2.2.2.2.1.up hb3' (qeR_ab (by simp)); rw [← hl5] at h; exact h) hbw (qeR_ab (by simp)) encQ_len hjl (j := 0) (by omega) { qs'[j] with A := A3, c := c3 } (.slice A3 pl c3) (by rw [← HPL.out]; rfl) (byt_of_own hown3 HPL.out)
          rw [Nat.mul_one, Nat.add_zero] at hset hT
          have hbS : Below w.heap.size w (w1.setCell ⟨g, j, none⟩ (.slice A3 pl c3)) := (HY.out.2.2.2.2.2.1.trans (hb3'.mono HY.out.2.2.2.2.2.1.size)).setCell (p := ⟨g, j, none⟩) hg _
          have hkS := (HY.out.1.below hb3' lR).turn hT (by simp)
          have hkS2 := (HY.out.2.1.below hb3' HY.out.2.1.lt).turn hT (by simp)
          have hOS := (HY.out.2.2.1.up hb3' (oeR_ab (by simp))).turn hT (by simp) (oeR_ab (by simp))
          rw [hl5] at hset
          have homS : (qs'.set j { qs'[j] with A := A3, c := c3 }).map Qe.p = s.q := by
            rw [List.map_set, ← HY.out.2.2.2.1]
            apply List.ext_getElem (by simp)
            intro i h1 h2
            rw [List.getElem_set]
            split
            · subst_vars; simp
            · rfl
          have HZ := Lib.hid (And.intro hset (And.intro hbS (And.intro hkS (And.intro hkS2 (And.intro hOS homS)))))
          clear hset hbS hkS hkS2 hOS homS hT hl5 q6 q4 qz hown3 hb3 hb3' d4 z4
          go_wp2_with fail
          go_roundw
          case rel => exact ⟨j + 1, _, by omega, by go_num, HZ.out.2.2.1, HZ.out.2.2.2.1, HZ.out.2.2.2.2.1, HZ.out.1, HZ.out.2.2.2.2.2, HZ.out.2.1⟩
          case measure => simp [intOf]; omega
        · obtain rfl : j = nq := by omega
          have f0 : wr.cell? ⟨w.heap.size, 0, none⟩ = some (.int .i64 s.ses) := hkV.cell 0
          have f1 : wr.cell? ⟨w.heap.size, 1, none⟩ = some (.int .i64 s.lim) := hkV.cell 1
          have f2 : wr.cell? ⟨w.heap.size, 2, none⟩ = some (.int .i64 s.tmo) := hkV.cell 2
          have f3 : wr.cell? ⟨w.heap.size, 3, none⟩ = some (.int .i64 s.base) := hkV.cell 3
          have f4 : wr.cell? ⟨w.heap.size, 4, none⟩ = some (.int .i64 s.next) := hkV.cell 4
          have f5 : wr.cell? ⟨w.heap.size, 5, none⟩ = some (.int .i64 s.cred) := hkV.cell 5
          have f6 : wr.cell? ⟨w.heap.size, 6, none⟩ = some (.slice A1 k c1) := hkV.cell 6
          have f7 : wr.cell? ⟨w.heap.size, 7, none⟩ = some (.slice A2 j c2) := hkV.cell 7
          have g0 : wr.cell? ⟨w.heap.size + 1, 0, none⟩ = some (.int .i64 0) := hkV2.cell 0
          have y0 := hkV2.frozen 0
          have g1 : wr.cell? ⟨w.heap.size + 1, 1, none⟩ = some (.int .i64 0) := hkV2.cell 1
          have y1 := hkV2.frozen 1
          have g2 : wr.cell? ⟨w.heap.size + 1, 2, none⟩ = some (.int .i64 0) := hkV2.cell 2
          have y2 := hkV2.frozen 2
          have g3 : wr.cell? ⟨w.heap.size + 1, 3, none⟩ = some (.int .i64 0) := hkV2.cell 3
          have y3 := hkV2.frozen 3
          have g4 : wr.cell? ⟨w.heap.size + 1, 4, none⟩ = some (.int .i64 0) := hkV2.cell 4
          have y4 := hkV2.frozen 4
          have g5 : wr.cell? ⟨w.heap.size + 1, 5, none⟩ = some (.int .i64 0) := hkV2.cell 5
          have y5 := hkV2.frozen 5
          have g6 : wr.cell? ⟨w.heap.size + 1, 6, none⟩ = some (.slice none 0 0) := hkV2.cell 6
          have y6 := hkV2.frozen 6
          have g7 : wr.cell? ⟨w.heap.size + 1, 7, none⟩ = some (.slice none 0 0) := hkV2.cell 7
          have y7 := hkV2.frozen 7
          have lR2 := hkV2.lt
          have HY := Lib.hid (And.intro (set25_blk hkV2 (.int .i64 s.ses) (.int .i64 s.lim) (.int .i64 s.tmo) (.int .i64 s.base) (.int .i64 s.next) (.int .i64 s.cred) (.slice A1 k c1) (.slice A2 j c2)) (And.intro (set25_turn hkV2 (base := base) (by omega) (.int .i64 s.ses) (.int .i64 s.lim) (.int .i64 s.tmo) (.int .i64 s.base) (.int .i64 s.next) (.int .i64 s.cred) (.slice A1 k c1) (.slice A2 j c2)) (And.intro hO1 (And.intro hQ1 (And.intro hqm (set25_below hBV (g := w.heap.size + 1) (by omega) (.int .i64 s.ses) (.int .i64 s.lim) (.int .i64 s.tmo) (.int .i64 s.base) (.int .i64 s.next) (.int .i64 s.cred) (.slice A1 k c1) (.slice A2 j c2)))))))
          clear hkV hkV2 hO1 hQ1 hqm hBV e7
          go_wp2_with fail
          refine bodyPost_ret (results_cell1 (t := 25) rfl _ _ (w.heap.size + 1) _ _ rfl HY.out.1 Try.underlying25 rfl (by kernel_rfl)) rfl ?_
          exact ⟨⟨_, _, es', qs', rfl, HY.out.2.2.1.turn HY.out.2.1 (by simp) (oeR_ab (by simp)), HX.out.2.2.2.1, HY.out.2.2.2.1.turn HY.out.2.1 (by simp) (qeR_ab (by simp)), HY.out.2.2.2.2.1⟩, HY.out.2.2.2.2.2⟩
end Go.Proofs.Ytanmndhdhlmjgaa
