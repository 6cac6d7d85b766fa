/- The walk of Extend. Condition: at most 1000 spans. -/
import Derived.Test.YtnhemndpnjhbfaaMathB
import Derived.Test.YtnhemndpnjhbfaaWr
namespace Go.Proofs.Ytnhemndpnjhbfaa
open Go.RowKit Go.Shelf
/-- a lineage and an error -/
def LinR (l : List Span) (v : Int) (e : Ending) (w' : World) : Prop := ∃ A n c, e = .returned (.tuple #[.slice A n c, .int .i64 v]) ∧ RdS w' A n l ∧ n ≤ c ∧ c ≤ maxLen
theorem RdS.of_own {w : World} {base : Nat} {v : Value} {n : Nat} {l : List Span} (h : w.ownsRow base 68 3 v n (l.flatMap encS)) : ∃ A c, v = .slice A n c ∧ RdS w A n l ∧ n ≤ c ∧ c ≤ maxLen := by
  obtain ⟨A, c, hv, h1, h2, hr⟩ := own_slice h
  exact ⟨A, c, hv, hr, h1, h2⟩
theorem RdS.nil (w : World) : RdS w none 0 [] ∧ 0 ≤ 0 ∧ 0 ≤ maxLen := ⟨Reads.none_, Nat.le_refl _, Nat.zero_le _⟩
theorem set_last {l : List Span} {j : Nat} (hj : l.length = j + 1) (c : Int) : (l.flatMap encS).set (j * 3 + 2) (.int .i64 c) = (l.set (l.length - 1) ⟨(lastS l).e, (lastS l).f, c⟩).flatMap encS := by
  have hl : lastS l = atS l j := by rw [lastS, hj]; rfl
  have ha : atS l j = l[j] := by simp [atS, hj]
  rw [hl, hj, Nat.add_sub_cancel]
  exact flatMap_set (E := encS) (sz := 3) (fun _ => rfl) l j (by omega) _ 2 _ (by omega) (by rw [ha]; rfl)
set_option maxRecDepth 100000 in
set_option maxHeartbeats 2000000 in
theorem Extend_any (A : Option Addr) (n c : Nat) (ep cy : Int) (l : List Span) (w : World) (hR : RdS w A n l) (hl : n ≤ 1000) :
    Calls Try.prog 28 #[.slice A n c, .int .i64 ep, .int .i64 cy] w fun e w' => LinR (extV l ep cy) (extE l ep cy) e w' ∧ Below w.heap.size w w' := by
  have hlen := hR.len
  subst hlen
  have hb : Below w.heap.size w ((w.alloc (.cells #[.int .i64 ep] 3)).alloc (.cells #[.int .i64 cy] 3)) := ((Below.refl _ w).alloc (Nat.le_refl _) _).alloc (by simp) _
  have HB := Lib.hid hb
  have HR := Lib.hid hR
  have HCL := Lib.hid (CheckLineage_any A l.length c l _ (hR.up hb) hl)
  obtain ⟨v, hvv⟩ : ∃ v, lineageE l = v := ⟨_, rfl⟩
  rw [hvv] at HCL
  clear hb hR
  by_cases hz : v = 0
  · subst hz
    have HBD := Lib.hid (last_bd hvv)
    have HE : Hid (extE l ep cy = extR (lastS l) ep cy) := if_pos hvv
    clear hvv
    go_enter Try.func28, Try.ntmps28
    go_wp2_with fail
    refine HCL.out.mono ?_
    rintro e w1 ⟨rfl, hb1⟩
    have HBw1 := Lib.hid (HB.out.trans (hb1.mono HB.out.size))
    have HT := Lib.hid (tail_any A l.length c l w1 (HR.out.up HBw1.out) hl)
    go_wp2_with fail
    refine HT.out.mono ?_
    rintro e w2 ⟨rfl, hb2⟩
    have HBw2 := Lib.hid (HBw1.out.trans (hb2.mono HBw1.out.size))
    have hz2 : w.heap.size + 2 ≤ w2.heap.size := by have h1 := hb1.size; have h2 := hb2.size; simp at h1; omega
    obtain ⟨hc1, _⟩ := bcell hb1
    obtain ⟨hc2, _⟩ := bcell hb2
    have hz1 : w.heap.size + 2 ≤ w1.heap.size := by have h1 := hb1.size; simp at h1; omega
    have b0 : w2.cell? ⟨w.heap.size, 0, none⟩ = some (.int .i64 ep) := by rw [hc2 _ _ (by omega), hc1 _ _ (by simp <;> omega)]; go_simp
    have b1 : w2.cell? ⟨w.heap.size + 1, 0, none⟩ = some (.int .i64 cy) := by rw [hc2 _ _ (by omega), hc1 _ _ (by simp <;> omega)]; go_simp
    obtain ⟨⟨pe, pf, pt⟩, hp⟩ : ∃ p, lastS l = p := ⟨_, rfl⟩
    rw [hp] at HBD HE
    have HP := Lib.hid hp
    rw [hp]
    clear hp hc1 hc2
    simp only [spanV]
    obtain ⟨W2, hW2⟩ : ∃ W2, w2.alloc (.cells #[.int .i64 pe, .int .i64 pf, .int .i64 pt] 68) = W2 := ⟨_, rfl⟩
    have hbW2 : Below w2.heap.size w2 W2 := by rw [← hW2]; exact (Below.refl _ w2).alloc (Nat.le_refl _) _
    have hk9 : Blk W2 w2.heap.size 68 #[.int .i64 pe, .int .i64 pf, .int .i64 pt] := by rw [← hW2]; exact Blk.new _ _ _
    have hsW2 : W2.heap.size = w2.heap.size + 1 := by rw [← hW2]; simp
    have d0 : W2.cell? ⟨w.heap.size, 0, none⟩ = some (.int .i64 ep) := (hbW2.cell (p := ⟨w.heap.size, 0, none⟩) (by dsimp only; omega)).trans b0
    have d1 : W2.cell? ⟨w.heap.size + 1, 0, none⟩ = some (.int .i64 cy) := (hbW2.cell (p := ⟨w.heap.size + 1, 0, none⟩) (by dsimp only; omega)).trans b1
    have d2 : W2.cell? ⟨w2.heap.size, 0, none⟩ = some (.int .i64 pe) := hk9.cell 0
    have d3 : W2.cell? ⟨w2.heap.size, 2, none⟩ = some (.int .i64 pt) := hk9.cell 2
    have HF := Lib.hid (first_new [⟨51, #[.pointer (some ⟨w.heap.size, 0, none⟩), .pointer (some ⟨w.heap.size + 1, 0, none⟩)], inB ep 1 && inB cy 1, 2⟩, ⟨52, #[.pointer (some ⟨w.heap.size, 0, none⟩), .pointer (some ⟨w2.heap.size, 0, none⟩)], decide (pe ≤ ep), 13⟩, ⟨53, #[.pointer (some ⟨w.heap.size + 1, 0, none⟩), .pointer (some ⟨w2.heap.size, 0, none⟩)], decide (pt < cy), 8⟩] 3 W2 _ rfl 3 rfl (by decide) (by
      intro r hr
      simp only [List.mem_cons, List.not_mem_nil, or_false] at hr
      rcases hr with rfl | rfl | rfl
      · exact ext1_ok _ _ ep cy W2 (by omega) (by omega) d0 d1
      · exact ext2_ok _ _ ep pe W2 (by omega) (by omega) d0 d2
      · exact ext3_ok _ _ cy pt W2 (by omega) (by omega) d1 d3))
    rw [firstV_ext _ _ _ ⟨pe, pf, pt⟩ ep cy] at HF
    obtain ⟨x, hx⟩ : ∃ x, extR ⟨pe, pf, pt⟩ ep cy = x := ⟨_, rfl⟩
    rw [hx] at HF HE
    have HZ := Lib.hid (fun h0 : x = 0 => extR_zero (hx.trans h0))
    have HW2 := Lib.hid (And.intro hbW2 (And.intro hk9 (And.intro d0 (And.intro d1 (And.intro d2 d3)))))
    clear hx b0 b1 d0 d1 d2 d3 hk9 hbW2
    go_wp2_with fail
    rw [hsW2] at HF
    refine HF.out.mono ?_
    rintro e w3 ⟨rfl, hb3⟩
    have HBw3 := Lib.hid (HBw2.out.trans ((HW2.out.1.mono HBw2.out.size).trans (hb3.mono (by omega))))
    by_cases hx0 : x = 0
    · subst hx0
      obtain ⟨n0, n1, n2, n3, n4, n5⟩ := HZ.out rfl
      obtain ⟨q0, q1, q2, q3⟩ := HBD.out
      change pe ≤ ep at n4
      change pt < cy at n5
      change 0 ≤ pe at q0
      change pe ≤ _ at q1
      change 0 ≤ pt at q2
      change pt ≤ _ at q3
      have HCn := Lib.hid (Clone_any A l.length c l w3 (HR.out.up HBw3.out) hl)
      have hz3 := hb3.size
      have f0 := (hb3.cell (p := ⟨w.heap.size, 0, none⟩) (by dsimp only; omega)).trans HW2.out.2.2.1
      have f1 := (hb3.cell (p := ⟨w.heap.size + 1, 0, none⟩) (by dsimp only; omega)).trans HW2.out.2.2.2.1
      have f2 := (hb3.cell (p := ⟨w2.heap.size, 0, none⟩) (by dsimp only; omega)).trans HW2.out.2.2.2.2.1
      have f3 := (hb3.cell (p := ⟨w2.heap.size, 2, none⟩) (by dsimp only; omega)).trans HW2.out.2.2.2.2.2
      go_wp2_with fail
      refine HCn.out.mono ?_
      rintro e w4 ⟨⟨v4, rfl, hown⟩, hb4⟩
      replace f0 := (hb4.cell (p := ⟨w.heap.size, 0, none⟩) (by dsimp only; omega)).trans f0
      replace f1 := (hb4.cell (p := ⟨w.heap.size + 1, 0, none⟩) (by dsimp only; omega)).trans f1
      replace f2 := (hb4.cell (p := ⟨w2.heap.size, 0, none⟩) (by dsimp only; omega)).trans f2
      replace f3 := (hb4.cell (p := ⟨w2.heap.size, 2, none⟩) (by dsimp only; omega)).trans f3
      have HBw4 := Lib.hid (HBw3.out.trans (hb4.mono HBw3.out.size))
      have hz4 : w.heap.size + 2 ≤ w4.heap.size := by have := hb4.size; omega
      have HV : Hid (extV l ep cy = extL l ep cy) := if_pos HE.out
      have HL : Hid (extL l ep cy = if l ≠ [] ∧ ep = (lastS l).e then l.set (l.length - 1) ⟨(lastS l).e, (lastS l).f, cy⟩ else l ++ [⟨ep, (lastS l).t + 1, cy⟩]) := rfl
      have hw1 : IntKind.i64.wrap (pt + 1) = pt + 1 := IntWalk.i64_in _ (by omega)
      by_cases ha : 0 < l.length ∧ ep = pe
      · obtain ⟨ha, rfl⟩ := ha
        obtain ⟨j, hj⟩ : ∃ j, l.length = j + 1 := ⟨l.length - 1, by omega⟩
        have jw : IntKind.i64.wrap ((j : Int) + 1 - 1) = j := by rw [IntWalk.i64_in _ (by omega)]; omega
        have jw2 : IntKind.i64.wrap (j : Int) = j := IntWalk.i64_in _ (by omega)
        have HSL := Lib.hid (set_last hj cy)
        have hne : l ≠ [] := by intro h; subst h; simp at ha
        have HL2 : Hid (extL l ep cy = l.set (l.length - 1) ⟨(lastS l).e, (lastS l).f, cy⟩) := by rw [Hid, HL.out, if_pos ⟨hne, by rw [HP.out]⟩]
        obtain ⟨g4, c4, cur, rfl, hbg, hK4, hnc, hcm, hcs, hct⟩ := own_blk hown (by omega)
        have hfz : w4.frozen? ⟨g4, j * 3 + 2, none⟩ = false := hK4.frozen _
        have hce : w4.cell? ⟨g4, j * 3 + 2, none⟩ = some cur[j * 3 + 2] := (hK4.cell _).trans (Array.getElem?_eq_getElem (by omega))
        obtain ⟨u, hu⟩ : ∃ u, cur[j * 3 + 2] = u := ⟨_, rfl⟩
        rw [hu] at hce
        have HO := Lib.hid (own_set hown (j * 3 + 2) (.int .i64 cy))
        clear hown hK4 hct hu hcs
        rw [hj]
        go_wp2_with fail
        go_ret2
        refine ⟨⟨_, _, _, by rw [HE.out]; rfl, ?_⟩, HBw4.out.setCell (p := ⟨g4, j * 3 + 2, none⟩) (by dsimp only; omega) _⟩
        have h9 := HO.out
        rw [HSL.out] at h9
        obtain ⟨A9, c9, h9v, hr9⟩ := RdS.of_own h9
        injection h9v with e1 e2 e3
        rw [HV.out, HL2.out, e1, e3, ← hj]
        exact hr9
      · have HL2 : Hid (extL l ep cy = l ++ [⟨ep, pt + 1, cy⟩]) := by
          rw [Hid, HL.out, if_neg (by rw [HP.out]; rintro ⟨h1, h2⟩; exact ha ⟨by cases l <;> simp_all, h2⟩), HP.out]
        obtain ⟨i0, hi0, hz0, hz1, hz2⟩ := info_parts info68
        have HI := Lib.hid (And.intro hi0 (And.intro hz0 (And.intro hz1 hz2)))
        clear hi0 hz0 hz1 hz2
        obtain ⟨A4, c4, rfl, _, _, _⟩ := own_slice hown
        have hlw : l.length ≤ 1000 := hl
        have HO := Lib.hid hown
        have hz34 := hb4.size
        clear hown
        have fin : ∀ (v2 : Value) (w5 : World), w5.ownsRow w3.heap.size 68 3 v2 (l.length + 1) (l.flatMap encS ++ #[.int .i64 ep, .int .i64 (pt + 1), .int .i64 cy].toList) → Below w3.heap.size w4 w5 → LinR (extV l ep cy) (extE l ep cy) (.returned (.tuple #[v2, .int .i64 0])) w5 ∧ Below w.heap.size w w5 := fun v2 w5 h1 h2 => by
          have h3 : l.flatMap encS ++ #[.int .i64 ep, .int .i64 (pt + 1), .int .i64 cy].toList = (l ++ [(⟨ep, pt + 1, cy⟩ : Span)]).flatMap encS := by simp [encS]
          rw [h3] at h1
          obtain ⟨A9, c9, rfl, hr9⟩ := RdS.of_own h1
          refine ⟨⟨_, _, _, by rw [HE.out], ?_⟩, HBw4.out.trans (h2.mono (by omega))⟩
          rw [HV.out, HL2.out]
          exact hr9
        have FIN := Lib.hid fin
        clear fin
        by_cases hl0 : 0 < l.length
        · have hpe : ¬ ep = pe := fun h => ha ⟨hl0, h⟩
          clear ha
          have hl1 : (0 : Int) < l.length := by omega
          go_wp2_with (at_builtin; go_must (refine wpList_append_elem w4 rfl (.tmp 49) (.tmp 56) _ rfl w3.heap.size 68 i0 _ 3 24 Try.underlying39 HI.out.1 HI.out.2.1 HI.out.2.2.1 HI.out.2.2.2 rfl (by omega) _ l.length (l.flatMap encS) #[.int .i64 ep, .int .i64 (pt + 1), .int .i64 cy] rfl rfl rfl HO.out (one3 _ _ _) (by unfold maxLen; omega) (by omega) hz34 ?_; intro v5 w5 hown5 hb5; have H5 := Lib.hid (And.intro hown5 hb5); clear hown5 hb5))
          go_ret2
          exact FIN.out _ _ H5.out.1 H5.out.2
        · have hl1 : ¬ (0 : Int) < l.length := by omega
          clear ha
          go_wp2_with (at_builtin; go_must (refine wpList_append_elem w4 rfl (.tmp 49) (.tmp 56) _ rfl w3.heap.size 68 i0 _ 3 24 Try.underlying39 HI.out.1 HI.out.2.1 HI.out.2.2.1 HI.out.2.2.2 rfl (by omega) _ l.length (l.flatMap encS) #[.int .i64 ep, .int .i64 (pt + 1), .int .i64 cy] rfl rfl rfl HO.out (one3 _ _ _) (by unfold maxLen; omega) (by omega) hz34 ?_; intro v5 w5 hown5 hb5; have H5 := Lib.hid (And.intro hown5 hb5); clear hown5 hb5))
          go_ret2
          exact FIN.out _ _ H5.out.1 H5.out.2
    · have hx0' : (x != 0) = true := by simpa using hx0
      have HV : Hid (extV l ep cy = []) := if_neg (by rw [HE.out]; exact hx0)
      go_wp2_with fail
      go_ret2
      exact ⟨⟨_, _, _, by rw [HE.out]; rfl, by rw [HV.out]; exact RdS.nil _⟩, HBw3.out⟩
  · have hz' : (v != 0) = true := by simpa using hz
    have HE : Hid (extE l ep cy = v) := by rw [Hid, extE, if_neg (by rw [hvv]; exact hz), hvv]
    have HV : Hid (extV l ep cy = []) := if_neg (by rw [HE.out]; exact hz)
    clear hvv
    go_enter Try.func28, Try.ntmps28
    go_wp2_with fail
    refine HCL.out.mono ?_
    rintro e w1 ⟨rfl, hb1⟩
    have hbb := HB.out.trans (hb1.mono HB.out.size)
    go_wp2_with fail
    go_ret2
    exact ⟨⟨_, _, _, by rw [HE.out]; rfl, by rw [HV.out]; exact RdS.nil _⟩, hbb⟩
end Go.Proofs.Ytnhemndpnjhbfaa
