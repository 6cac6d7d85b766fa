/- The walk of the reference Extend. Condition: at most 1000 spans. -/
import Derived.Test.YtnhemndpnjhbfaaWs
namespace Go.Proofs.Ytnhemndpnjhbfaa
open Go.RowKit Go.Shelf
set_option maxRecDepth 100000 in
set_option maxHeartbeats 2000000 in
theorem refExtend_any (A : Option Addr) (n c : Nat) (ep cy : Int) (l : List Span) (w : World) (hR : RdS w A n l) (hl : n ≤ 1000) :
    Calls Try.prog 29 #[.slice A n c, .int .i64 ep, .int .i64 cy] w fun e w' => LinR (extV l ep cy) (extE l ep cy) e w' ∧ Below w.heap.size w w' := by
  have hlen := hR.len
  subst hlen
  have HR := Lib.hid hR
  have HCL := Lib.hid (refCheckLineage_any A l.length c l w hR hl)
  obtain ⟨v, hvv⟩ : ∃ v, lineageE l = v := ⟨_, rfl⟩
  rw [hvv] at HCL
  clear hR
  by_cases hz : v = 0
  · subst hz
    have HBD := Lib.hid (last_bd hvv)
    have HE : Hid (extE l ep cy = extR (lastS l) ep cy) := if_pos hvv
    clear hvv
    have err : ∀ (x : Int) (w' : World), extR (lastS l) ep cy = x → x ≠ 0 → Below w.heap.size w w' → LinR (extV l ep cy) (extE l ep cy) (.returned (.tuple #[.slice none 0 0, .int .i64 x])) w' ∧ Below w.heap.size w w' := fun x w' h1 h2 h3 =>
      ⟨⟨_, _, _, by rw [HE.out, h1], by rw [show extV l ep cy = [] from if_neg (by rw [HE.out, h1]; exact h2)]; exact RdS.nil _⟩, h3⟩
    have ER := Lib.hid err
    clear err
    go_enter Try.func29, Try.ntmps29
    go_wp2_with fail
    refine HCL.out.mono ?_
    rintro e w1 ⟨rfl, hb1⟩
    by_cases hr : ep < 1 ∨ 1073741824 < ep ∨ cy < 1 ∨ 1073741824 < cy
    · have HX : Hid (extR (lastS l) ep cy = 2) := by
        rw [Hid, extR, if_neg]
        simp only [inB, Bool.and_eq_true, decide_eq_true_eq]
        omega
      have HH := Lib.hid hr
      clear hr
      go_wp2_with fail
      all_goals first | (go_ret2; exact ER.out 2 _ HX.out (by omega) hb1) | (exfalso; have := HH.out; omega)
    · have HX : Hid (extR (lastS l) ep cy = if (lastS l).e ≤ ep then (if (lastS l).t < cy then 0 else 8) else 13) := by
        rw [Hid, extR, if_pos]
        simp only [inB, Bool.and_eq_true, decide_eq_true_eq]
        omega
      simp only [not_or, Int.not_lt] at hr
      obtain ⟨r0, r1, r2, r3⟩ := hr
      have HEnd := Lib.hid (End_any A l.length c l w1 (HR.out.up hb1) hl)
      obtain ⟨⟨pe, pf, pt⟩, hp⟩ : ∃ p, lastS l = p := ⟨_, rfl⟩
      rw [hp] at HBD HE HEnd HX ER
      have HP := Lib.hid hp
      clear hp
      obtain ⟨q0, q1, q2, q3⟩ := HBD.out
      change 0 ≤ pe at q0
      change pe ≤ _ at q1
      change 0 ≤ pt at q2
      change pt ≤ _ at q3
      go_wp2_with fail
      refine HEnd.out.mono ?_
      rintro e w2 ⟨rfl, hb2⟩
      have HBw2 := Lib.hid (hb1.trans (hb2.mono hb1.size))
      by_cases c0 : pe ≤ ep
      · by_cases c1 : pt < cy
        · have HE0 : Hid (extE l ep cy = 0) := by rw [Hid, HE.out, HX.out, if_pos c0, if_pos c1]
          have HV : Hid (extV l ep cy = extL l ep cy) := if_pos HE0.out
          have HL : Hid (extL l ep cy = if l ≠ [] ∧ ep = (lastS l).e then l.set (l.length - 1) ⟨(lastS l).e, (lastS l).f, cy⟩ else l ++ [⟨ep, (lastS l).t + 1, cy⟩]) := rfl
          have hw1 : IntKind.i64.wrap (pt + 1) = pt + 1 := IntWalk.i64_in _ (by omega)
          obtain ⟨i0, hi0, hz0, hz1, hz2⟩ := info_parts info68
          have HI := Lib.hid (And.intro hi0 (And.intro hz0 (And.intro hz1 hz2)))
          clear hi0 hz0 hz1 hz2
          have HR2 := Lib.hid (HR.out.up HBw2.out)
          have hlw : l.length ≤ 1000 := hl
          by_cases ha : 0 < l.length ∧ ep = pe
          · obtain ⟨ha, rfl⟩ := ha
            obtain ⟨j, hj⟩ : ∃ j, l.length = j + 1 := ⟨l.length - 1, by omega⟩
            have jw : IntKind.i64.wrap ((j : Int) + 1 - 1) = j := by rw [IntWalk.i64_in _ (by omega)]; omega
            have jw2 : IntKind.i64.wrap (j : Int) = j := IntWalk.i64_in _ (by omega)
            have HSL := Lib.hid (set_last hj cy)
            have hne : l ≠ [] := by intro h; subst h; simp at ha
            have HL2 : Hid (extL l ep cy = l.set (l.length - 1) ⟨(lastS l).e, (lastS l).f, cy⟩) := by rw [Hid, HL.out, if_pos ⟨hne, by rw [HP.out]⟩]
            have HJ := Lib.hid hj
            have hjl : j + 1 ≤ l.length := by omega
            clear hne hj
            go_wp2_with (at_builtin; go_must (refine wpList_append_any _ rfl (.tmp 42) (.tmp 43) _ rfl w2.heap.size 68 i0 _ 3 24 Try.underlying39 HI.out.1 HI.out.2.1 HI.out.2.2.1 HI.out.2.2.2 rfl (by omega) (.slice none 0 0) 0 [] rfl (World.ownsRow_nil _ _ 68 3) w2.heap.size A l.length c (l.flatMap encS) rfl HR2.out (encS_one _) (by unfold maxLen; omega) (by omega) (Nat.le_refl _) ?_; intro v4 w4 hown hg4 _; simp only [Nat.zero_add, List.nil_append] at hown; have hb4 : Below w2.heap.size w2 w4 := (Below.refl _ _).grown hg4 (Nat.le_refl _) (by intro k hk; simp [Value.ownBlock] at hk); obtain ⟨g4, c4, cur, rfl, hbg, hK4, hnc, hcm, hcs, hct⟩ := own_blk hown (by omega); have hfz : w4.frozen? ⟨g4, j * 3 + 2, none⟩ = false := hK4.frozen _; have hce : w4.cell? ⟨g4, j * 3 + 2, none⟩ = some cur[j * 3 + 2] := (hK4.cell _).trans (Array.getElem?_eq_getElem (by omega)); obtain ⟨u, hu⟩ : ∃ u, cur[j * 3 + 2] = u := ⟨_, rfl⟩; rw [hu] at hce; have HO := Lib.hid (And.intro (own_set hown (j * 3 + 2) (.int .i64 cy)) hb4); have hz34 := hb4.size; clear hown hg4 hb4 hK4 hct hu hcs; rw [HJ.out]))
            go_ret2
            refine ⟨⟨_, _, _, by rw [HE0.out]; rfl, ?_⟩, (HBw2.out.trans (HO.out.2.mono HBw2.out.size)).setCell (p := ⟨g4, j * 3 + 2, none⟩) (by have := HBw2.out.size; dsimp only; omega) _⟩
            have h9 := HO.out.1
            rw [HSL.out] at h9
            obtain ⟨A9, c9, h9v, hr9⟩ := RdS.of_own h9
            injection h9v with e1 e2 e3
            rw [HV.out, HL2.out, e1, e3, ← HJ.out]
            exact hr9
          · have HL2 : Hid (extL l ep cy = l ++ [⟨ep, pt + 1, cy⟩]) := by
              rw [Hid, HL.out, if_neg (by rw [HP.out]; rintro ⟨h1, h2⟩; exact ha ⟨by cases l <;> simp_all, h2⟩), HP.out]
            have fin : ∀ (v2 : Value) (w4 w5 : World), w5.ownsRow w2.heap.size 68 3 v2 (l.length + 1) (l.flatMap encS ++ #[.int .i64 ep, .int .i64 (pt + 1), .int .i64 cy].toList) → Below w2.heap.size w2 w4 → Below w2.heap.size w4 w5 → LinR (extV l ep cy) (extE l ep cy) (.returned (.tuple #[v2, .int .i64 0])) w5 ∧ Below w.heap.size w w5 := fun v2 w4 w5 h1 h0 h2 => by
              have h3 : l.flatMap encS ++ #[.int .i64 ep, .int .i64 (pt + 1), .int .i64 cy].toList = (l ++ [(⟨ep, pt + 1, cy⟩ : Span)]).flatMap encS := by simp [encS]
              rw [h3] at h1
              obtain ⟨A9, c9, rfl, hr9⟩ := RdS.of_own h1
              refine ⟨⟨_, _, _, by rw [HE0.out], ?_⟩, HBw2.out.trans ((h0.trans h2).mono HBw2.out.size)⟩
              rw [HV.out, HL2.out]
              exact hr9
            have FIN := Lib.hid fin
            clear fin
            by_cases hl0 : 0 < l.length
            · have hpe : ¬ ep = pe := fun h => ha ⟨hl0, h⟩
              clear ha
              have hl1 : (0 : Int) < l.length := by omega
              go_wp2_with (at_builtin; first | (refine wpList_append_any _ rfl (.tmp 42) (.tmp 43) _ rfl w2.heap.size 68 i0 _ 3 24 Try.underlying39 HI.out.1 HI.out.2.1 HI.out.2.2.1 HI.out.2.2.2 rfl (by omega) (.slice none 0 0) 0 [] rfl (World.ownsRow_nil _ _ 68 3) w2.heap.size A l.length c (l.flatMap encS) rfl HR2.out (encS_one _) (by unfold maxLen; omega) (by omega) (Nat.le_refl _) ?_; intro v4 w4 hown hg4 _; simp only [Nat.zero_add, List.nil_append] at hown; have hb4 : Below w2.heap.size w2 w4 := (Below.refl _ _).grown hg4 (Nat.le_refl _) (by intro k hk; simp [Value.ownBlock] at hk); obtain ⟨A4, c4, rfl, _, _, _⟩ := own_slice hown; have H4 := Lib.hid (And.intro hown hb4); have hz34 := hb4.size; clear hown hg4 hb4) | (go_must (refine wpList_append_elem w4 rfl (.tmp 61) (.tmp 67) _ rfl w2.heap.size 68 i0 _ 3 24 Try.underlying39 HI.out.1 HI.out.2.1 HI.out.2.2.1 HI.out.2.2.2 rfl (by omega) _ l.length (l.flatMap encS) #[.int .i64 ep, .int .i64 (pt + 1), .int .i64 cy] rfl rfl rfl H4.out.1 (one3 _ _ _) (by unfold maxLen; omega) (by omega) hz34 ?_; intro v5 w5 hown5 hb5; have H5 := Lib.hid (And.intro hown5 hb5); clear hown5 hb5)))
              go_ret2
              exact FIN.out _ _ _ H5.out.1 H4.out.2 H5.out.2
            · have hl1 : ¬ (0 : Int) < l.length := by omega
              clear ha
              go_wp2_with (at_builtin; first | (refine wpList_append_any _ rfl (.tmp 42) (.tmp 43) _ rfl w2.heap.size 68 i0 _ 3 24 Try.underlying39 HI.out.1 HI.out.2.1 HI.out.2.2.1 HI.out.2.2.2 rfl (by omega) (.slice none 0 0) 0 [] rfl (World.ownsRow_nil _ _ 68 3) w2.heap.size A l.length c (l.flatMap encS) rfl HR2.out (encS_one _) (by unfold maxLen; omega) (by omega) (Nat.le_refl _) ?_; intro v4 w4 hown hg4 _; simp only [Nat.zero_add, List.nil_append] at hown; have hb4 : Below w2.heap.size w2 w4 := (Below.refl _ _).grown hg4 (Nat.le_refl _) (by intro k hk; simp [Value.ownBlock] at hk); obtain ⟨A4, c4, rfl, _, _, _⟩ := own_slice hown; have H4 := Lib.hid (And.intro hown hb4); have hz34 := hb4.size; clear hown hg4 hb4) | (go_must (refine wpList_append_elem w4 rfl (.tmp 61) (.tmp 67) _ rfl w2.heap.size 68 i0 _ 3 24 Try.underlying39 HI.out.1 HI.out.2.1 HI.out.2.2.1 HI.out.2.2.2 rfl (by omega) _ l.length (l.flatMap encS) #[.int .i64 ep, .int .i64 (pt + 1), .int .i64 cy] rfl rfl rfl H4.out.1 (one3 _ _ _) (by unfold maxLen; omega) (by omega) hz34 ?_; intro v5 w5 hown5 hb5; have H5 := Lib.hid (And.intro hown5 hb5); clear hown5 hb5)))
              go_ret2
              exact FIN.out _ _ _ H5.out.1 H4.out.2 H5.out.2
        · go_wp2_with fail
          go_ret2
          exact ER.out 8 _ (by rw [HX.out, if_pos c0, if_neg (by omega)]) (by omega) HBw2.out
      · go_wp2_with fail
        go_ret2
        exact ER.out 13 _ (by rw [HX.out, if_neg (by omega)]) (by omega) HBw2.out
  · have hz' : (v != 0) = true := by simpa using hz
    have HE : Hid (extE l ep cy = v) := by rw [Hid, extE, if_neg (by rw [hvv]; exact hz), hvv]
    have HV : Hid (extV l ep cy = []) := if_neg (by rw [HE.out]; exact hz)
    clear hvv
    go_enter Try.func29, Try.ntmps29
    go_wp2_with fail
    refine HCL.out.mono ?_
    rintro e w1 ⟨rfl, hb1⟩
    go_wp2_with fail
    go_ret2
    exact ⟨⟨_, _, _, by rw [HE.out]; rfl, by rw [HV.out]; exact RdS.nil _⟩, hb1⟩
end Go.Proofs.Ytnhemndpnjhbfaa
