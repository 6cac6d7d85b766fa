/- The walks of the reference's Cancel and Pop. Condition: at most 4096 events. -/
import Derived.Test.YtknedclejhiegaaWp
namespace Go.Proofs.Ytknedclejhiegaa
open Go.RowKit
set_option maxRecDepth 100000 in
set_option maxHeartbeats 4000000 in
theorem refCancel_any (A : Option Addr) (m c : Nat) (l : List Ev) (nx num : Int) (w : World) (hR : Evs w A m l) (hm : m ≤ 4096) (hmc : m ≤ c) (hp : ∀ e ∈ l, e.p.length ≤ 100000) :
    Calls Try.prog 26 #[.agg #[.slice A m c, .int .i64 nx], .int .i64 num] w (CancelR w nx (cancelQ (l.map Ev.em) nx num)) := by
  have hlen := hR.count
  have hb0 : Below w.heap.size w ((w.alloc (.cells #[.slice A m c, .int .i64 nx] 24)).alloc (.cells #[.slice none 0 0, .int .i64 0] 24)) := (((Below.refl _ _).alloc (Nat.le_refl _) _).alloc (by simp) _)
  have g0 : Blk ((w.alloc (.cells #[.slice A m c, .int .i64 nx] 24)).alloc (.cells #[.slice none 0 0, .int .i64 0] 24)) w.heap.size 24 #[.slice A m c, .int .i64 nx] := ((Blk.new w 24 #[.slice A m c, .int .i64 nx]).alloc _)
  have g1 : Blk ((w.alloc (.cells #[.slice A m c, .int .i64 nx] 24)).alloc (.cells #[.slice none 0 0, .int .i64 0] 24)) (w.alloc (.cells #[.slice A m c, .int .i64 nx] 24)).heap.size 24 #[.slice none 0 0, .int .i64 0] := (Blk.new (w.alloc (.cells #[.slice A m c, .int .i64 nx] 24)) 24 #[.slice none 0 0, .int .i64 0])
  simp only [World.size_alloc] at g0 g1
  have hs0 : ((w.alloc (.cells #[.slice A m c, .int .i64 nx] 24)).alloc (.cells #[.slice none 0 0, .int .i64 0] 24)).heap.size = w.heap.size + 2 := by simp
  have HX := Lib.hid (And.intro (hR.up hb0) (And.intro hlen (And.intro hp (And.intro hb0 hR))))
  clear hR hlen hp hb0
  go_enter Try.func26, Try.ntmps26
  go_upto_region 1 with fail
  generalize ((w.alloc (.cells #[.slice A m c, .int .i64 nx] 24)).alloc (.cells #[.slice none 0 0, .int .i64 0] 24)) = W at *
  have q0 : W.cell? ⟨w.heap.size, 0, none⟩ = some (.slice A m c) := g0.cell 0
  have q1 : W.cell? ⟨w.heap.size, 1, none⟩ = some (.int .i64 nx) := g0.cell 1
  go_wp2_with fail
  refine (refCheck_any A m c l nx W HX.out.1 hm).mono ?_
  rintro e w1 ⟨rfl, hb1⟩
  have hbw : Below w.heap.size w w1 := HX.out.2.2.2.1.trans (hb1.mono HX.out.2.2.2.1.size)
  have G0 := g0.below hb1 (by omega)
  have G1 := g1.below hb1 (by omega)
  have hs1 := hb1.size
  have H1 := Lib.hid (And.intro (HX.out.1.up hb1) (And.intro hbw (And.intro G0 G1)))
  clear hb1 hbw g0 g1 q0 q1 G0 G1
  have q0 : w1.cell? ⟨w.heap.size, 0, none⟩ = some (.slice A m c) := H1.out.2.2.1.cell 0
  have q1 : w1.cell? ⟨w.heap.size, 1, none⟩ = some (.int .i64 nx) := H1.out.2.2.1.cell 1
  obtain ⟨r, hr⟩ : ∃ r, chkQ nx (l.map Ev.em) = r := ⟨_, rfl⟩
  rw [hr]
  have HRR := Lib.hid hr
  clear hr
  by_cases hr0 : r = 0
  · subst hr0
    go_wp2_with fail
    go_loopw [6] (fun u6 V => ∃ i : Nat, i ≤ m ∧ u6 = .int .i64 (i : Nat) ∧ (∀ j y, j < i → (l.map Ev.em)[j]? = some y → numB num y = false) ∧ V = w1) (fun u6 _ => m + 1 - (intOf u6).toNat)
    case atStart => exact ⟨0, by omega, rfl, fun j y hj => absurd hj (by omega), rfl⟩
    case round =>
      obtain ⟨i, hi, rfl, hf, rfl⟩ := hrel
      have HF := Lib.hid hf
      clear hf
      by_cases hlt : i < m
      · have hil : i < l.length := by have := HX.out.2.1; omega
        have hlt' : (i : Int) < m := by omega
        obtain ⟨b, off, rfl, hbw, hc⟩ := H1.out.1.cells (by omega)
        obtain ⟨_, d1, _, _, _⟩ := hc i _ (List.getElem?_eq_getElem hil)
        have HS : Hid ((l.map Ev.em)[i]? = some l[i].em) := by
          show _ = _
          rw [List.getElem?_map, List.getElem?_eq_getElem hil]
          rfl
        clear hc
        generalize hlk : l[i] = ev at *
        obtain ⟨xt, xn, xk, xo, xA, xc, xp⟩ := ev
        dsimp only at d1
        dsimp only [Ev.em] at HS
        clear hlk
        by_cases hx : xn = num
        · subst hx
          go_wp2_with fail
          refine (without_any (some ⟨b, off, none⟩) m c i l nx _ H1.out.1 hm hlt HX.out.2.2.1).mono ?_
          rintro e w2 ⟨⟨v2, rfl, hv2⟩, hb2⟩
          obtain ⟨A2, n2, c2, rfl⟩ := hv2.cells
          have H2 := Lib.hid (And.intro hv2 (And.intro hb2 (H1.out.2.2.2.below hb2 (by omega))))
          clear hv2 hb2 q0 q1 d1
          go_wp2_with (refine wpList_store_row rfl _ _ _ rfl (w.heap.size + 1) _ rfl rfl 24 _ H2.out.2.2 (by kernel_rfl) rfl (by simp [Value.oneCell']) ?_)
          refine bodyPost_ret (results_cell_tmp (t := 24) rfl _ _ (w.heap.size + 1) _ _ rfl (H2.out.2.2.setRow _) Try.underlying24 rfl (by kernel_rfl)) rfl ?_
          have hq : cancelQ (l.map Ev.em) nx xn = ((l.map Ev.em).take i ++ (l.map Ev.em).drop (i + 1), true) := by
            unfold cancelQ
            rw [HRR.out, if_neg (by simp), idxB_some HF.out HS.out (by simp [numB])]
          rw [hq]
          exact ⟨below_setRow (H1.out.2.1.trans (H2.out.2.1.mono H1.out.2.1.size)) (by omega) _, _, rfl, (H2.out.1.row (by omega) _).q⟩
        · have hne : (xn == num) = false := by rw [beq_eq_false_iff_ne]; exact hx
          have HNE := Lib.hid hne
          clear hx
          go_wp2_with fail
          go_roundw
          case rel =>
            refine ⟨i + 1, by omega, by go_num, fun j y hj hy => ?_, trivial⟩
            rcases Nat.lt_or_ge j i with h | h
            · exact HF.out j y h hy
            · obtain rfl : j = i := by omega
              rw [HS.out] at hy
              injection hy with hy
              rw [← hy]
              exact HNE.out
          case measure => simp [intOf]; omega
      · have hlt' : ¬ (i : Int) < m := by omega
        go_wp2_with (refine wpList_store_row rfl _ _ _ rfl (w.heap.size + 1) _ rfl rfl 24 _ H1.out.2.2.2 (by kernel_rfl) rfl (by simp [Value.oneCell']) ?_)
        refine bodyPost_ret (results_cell_tmp (t := 24) rfl _ _ (w.heap.size + 1) _ _ rfl (H1.out.2.2.2.setRow _) Try.underlying24 rfl (by kernel_rfl)) rfl ?_
        have hq : cancelQ (l.map Ev.em) nx num = (l.map Ev.em, false) := by
          unfold cancelQ
          rw [HRR.out, if_neg (by simp), idxB_none]
          intro y hy
          obtain ⟨j, hj, rfl⟩ := List.getElem_of_mem hy
          rw [List.length_map] at hj
          exact HF.out j _ (by have := HX.out.2.1; omega) (List.getElem?_eq_getElem (by rw [List.length_map]; exact hj))
        rw [hq]
        have hB := below_setRow H1.out.2.1 (g := w.heap.size + 1) (by omega) #[.slice A m c, .int .i64 nx]
        exact ⟨hB, _, rfl, QVal.of nx (HX.out.2.2.2.2.up hB) hmc⟩
  · have hr1 : ((r : Int) != 0) = true := by rw [bne_iff_ne]; omega
    have HR0 := Lib.hid hr0
    clear hr0
    go_wp2_with (refine wpList_store_row rfl _ _ _ rfl (w.heap.size + 1) _ rfl rfl 24 _ H1.out.2.2.2 (by kernel_rfl) rfl (by simp [Value.oneCell']) ?_)
    refine bodyPost_ret (results_cell_tmp (t := 24) rfl _ _ (w.heap.size + 1) _ _ rfl (H1.out.2.2.2.setRow _) Try.underlying24 rfl (by kernel_rfl)) rfl ?_
    have hq : cancelQ (l.map Ev.em) nx num = (l.map Ev.em, false) := by
      unfold cancelQ
      rw [HRR.out, if_pos HR0.out]
    rw [hq]
    have hB := below_setRow H1.out.2.1 (g := w.heap.size + 1) (by omega) #[.slice A m c, .int .i64 nx]
    exact ⟨hB, _, rfl, QVal.of nx (HX.out.2.2.2.2.up hB) hmc⟩
end Go.Proofs.Ytknedclejhiegaa
