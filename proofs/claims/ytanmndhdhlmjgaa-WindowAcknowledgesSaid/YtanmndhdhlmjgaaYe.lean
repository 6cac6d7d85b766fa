/- The walk of the reference's acked. Conditions: small. -/
import Derived.Test.YtanmndhdhlmjgaaMathD
import Derived.Test.YtanmndhdhlmjgaaVf
namespace Go.Proofs.Ytanmndhdhlmjgaa
open Go.RowKit
set_option maxRecDepth 100000 in
set_option maxHeartbeats 800000 in
set_option linter.unusedSimpArgs false in
theorem refacked_any (p : Pm) (n : Int) (pv : Value) (base : Nat) (w : World) (hp : PkV w base p pv) (hbd : BdX p.sel) (hs : p.sel.length ≤ 10000) :
    Calls Try.prog 65 #[pv, .int .i64 n] w fun e w' => e = .returned (.bool (ackedB p n)) ∧ Below w.heap.size w w' := by
  obtain ⟨vs, vp, rfl, hX, Ap, cp, rfl, hB⟩ := hp
  have HX := Lib.hid (And.intro hX hbd)
  obtain ⟨As, cs, rfl, -, -⟩ := hX.form
  clear hX hB hbd
  obtain ⟨ns, hns⟩ : ∃ n, p.sel.length = n := ⟨_, rfl⟩
  obtain ⟨np, hnp⟩ : ∃ n, p.p.length = n := ⟨_, rfl⟩
  rw [hns] at HX hs ⊢
  rw [hnp]
  have HL := Lib.hid hns
  clear hns hnp
  unfold pkC
  have hb : Below w.heap.size w (w.alloc (.cells #[.int .i64 p.kind, .int .i64 p.ses, .int .i64 p.seq, .int .i64 p.ack, .int .i64 p.cred, .slice As ns cs, .slice Ap np cp] 55)) := (Below.refl _ w).alloc (Nat.le_refl _) _
  have HB := Lib.hid (And.intro hb (Blk.new w 55 #[.int .i64 p.kind, .int .i64 p.ses, .int .i64 p.seq, .int .i64 p.ack, .int .i64 p.cred, .slice As ns cs, .slice Ap np cp]))
  clear hb
  by_cases hlt : n < p.ack
  · have HM : Hid (ackedB p n = true) := by show _ = _; unfold ackedB; rw [decide_eq_true hlt, Bool.true_or]
    go_enter Try.func65, Try.ntmps65
    go_wp2_with fail
    go_ret
    exact ⟨ret_bool HM.out.symm, HB.out.1⟩
  have HM : Hid (ackedB p n = p.sel.any (inX n)) := by show _ = _; unfold ackedB; rw [decide_eq_false hlt, Bool.false_or]; rfl
  have HLT := Lib.hid hlt
  go_enter Try.func65, Try.ntmps65
  go_wp2_with fail
  clear hlt
  generalize (w.alloc (.cells #[.int .i64 p.kind, .int .i64 p.ses, .int .i64 p.seq, .int .i64 p.ack, .int .i64 p.cred, .slice As ns cs, .slice Ap np cp] 55)) = W at *
  go_loopw [5] (fun v5 wr => ∃ k : Nat, k ≤ ns ∧ v5 = .int .i64 k ∧ (∀ j y, j < k → p.sel[j]? = some y → inX n y = false) ∧ Blk wr w.heap.size 55 #[.int .i64 p.kind, .int .i64 p.ses, .int .i64 p.seq, .int .i64 p.ack, .int .i64 p.cred, .slice As ns cs, .slice Ap np cp] ∧ Below w.heap.size w wr) (fun v5 _ => ns - (intOf v5).toNat)
  case atStart => exact ⟨0, by omega, rfl, fun j y hj => by omega, HB.out.2, HB.out.1⟩
  case round =>
    obtain ⟨k, hk, rfl, hf, hkB, hb⟩ := hrel
    have HF := Lib.hid (And.intro hf (And.intro hkB hb))
    have xs5 : wr.cell? ⟨w.heap.size, 5, none⟩ = some (.slice As ns cs) := hkB.cell 5
    have lB := hkB.lt
    clear hf hkB hb
    by_cases hlt : k < ns
    · have ik : (k : Int) < ns := by omega
      have hkl : k < p.sel.length := by rw [HL.out]; exact hlt
      obtain ⟨b, off, c2, hv2, -, -, hbw2, hc⟩ := (HX.out.1.up HF.out.2.2).at_ encX_len (by omega) (by omega)
      injection hv2 with hA hn2 hc2
      subst hA hc2
      clear hn2
      obtain ⟨x, hx⟩ : ∃ x, x = p.sel[k] := ⟨_, rfl⟩
      have hxs : p.sel[k]? = some x := by rw [List.getElem?_eq_getElem hkl, hx]
      have d0 : wr.cell? ⟨b, off + k * 2, none⟩ = some (.int .i64 x.s) := by rw [hx]; exact hc k hkl 0 _ rfl
      have d1 : wr.cell? ⟨b, off + k * 2 + 1, none⟩ = some (.int .i64 x.c) := by rw [hx]; exact hc k hkl 1 _ rfl
      have hbx := HX.out.2 x (by rw [hx]; exact List.getElem_mem hkl)
      have kw : IntKind.i64.wrap (x.s + x.c) = x.s + x.c := by rw [IntWalk.i64_in _ (by omega)]
      have HS := Lib.hid hxs
      clear hc hx hxs hkl
      by_cases h1 : x.s ≤ n
      rotate_left 1
      · have k1 : decide (x.s ≤ n) = false := decide_eq_false h1
        have HN : Hid (inX n x = false) := by show _ = _; unfold inX; exact decide_eq_false (fun h => h1 h.1)
        clear h1
        go_upto_region 6 with fail
        trace_state
        refine wp_region_lexP [(0, 1), (1, 1), (3, 1), (2, 1), (4, 1), (5, 1), (6, 1), (7, 1), (8, 1), (9, 1), (10, 1), (12, 1), (16, 1), (18, 1), (11, 1), (17, 1), (13, 1), (19, 1), (14, 1), (20, 1), (15, 1), (21, 1), (22, 1), (23, 1), (24, 1)] [] (fun w9 => w9.cell? ⟨w.heap.size, 5, none⟩ = some (.slice (some ⟨b, off, none⟩) ns cs) ∧ w9.cell? ⟨b, off + k * 2, none⟩ = some (.int .i64 x.s) ∧ w9.cell? ⟨b, off + k * 2 + 1, none⟩ = some (.int .i64 x.c)) (by kernel_rfl) (by kernel_rfl) (by kernel_rfl) (by kernel_rfl) (by kernel_rfl) ⟨xs5, d0, d1⟩ ?_
        repeat ((first | (refine lexP_read rfl (by rfl) (by first | exact wanted_none rfl | exact wanted_some (b := true) (c := true) rfl rfl rfl | exact wanted_some (b := false) (c := false) rfl rfl rfl) (by intro w9 hS9; (try dsimp only at hS9); go_simp <;> with_reducible rfl) ?_) | (refine lexP_skip rfl (fun _ => trivial) (by first | exact wanted_some (b := true) (c := false) rfl rfl rfl | exact wanted_some (b := false) (c := true) rfl rfl rfl) ?_) | (refine lexP_builtin rfl (fun _ => trivial) (by first | exact wanted_none rfl | exact wanted_some (b := true) (c := true) rfl rfl rfl | exact wanted_some (b := false) (c := false) rfl rfl rfl) (by intro w9 hS9; (try dsimp only at hS9); go_simp <;> with_reducible rfl) ?_)); (try simp only [Act.put, List.getElem_toArray, List.getElem_cons_succ, List.getElem_cons_zero, List.setIfInBounds_toArray, List.set_cons_zero, List.set_cons_succ]))
        refine lexP_nil (panQ_normal ?_)
        go_wp2_with fail
        go_roundw
        case rel =>
          refine ⟨k + 1, by omega, by go_num, fun j y hj hy => ?_, HF.out.2.1.drew, HF.out.2.2.drew⟩
          rcases Nat.lt_or_ge j k with h | h
          · exact HF.out.1 j y h hy
          · obtain rfl : j = k := by omega
            rw [HS.out] at hy
            injection hy with hy
            rw [← hy]
            exact HN.out
        case measure => simp [intOf]; omega
      have k1 : decide (x.s ≤ n) = true := decide_eq_true h1
      by_cases h2 : n < x.s + x.c
      rotate_left 1
      · have k2 : decide (n < x.s + x.c) = false := decide_eq_false h2
        have HN : Hid (inX n x = false) := by show _ = _; unfold inX; exact decide_eq_false (fun h => h2 h.2)
        clear h1 h2
        go_upto_region 6 with fail
        trace_state
        refine wp_region_lexP [(0, 1), (1, 1), (3, 1), (2, 1), (4, 1), (5, 1), (6, 1), (7, 1), (8, 1), (9, 1), (10, 1), (12, 1), (16, 1), (18, 1), (11, 1), (17, 1), (13, 1), (19, 1), (14, 1), (20, 1), (15, 1), (21, 1), (22, 1), (23, 1), (24, 1)] [] (fun w9 => w9.cell? ⟨w.heap.size, 5, none⟩ = some (.slice (some ⟨b, off, none⟩) ns cs) ∧ w9.cell? ⟨b, off + k * 2, none⟩ = some (.int .i64 x.s) ∧ w9.cell? ⟨b, off + k * 2 + 1, none⟩ = some (.int .i64 x.c)) (by kernel_rfl) (by kernel_rfl) (by kernel_rfl) (by kernel_rfl) (by kernel_rfl) ⟨xs5, d0, d1⟩ ?_
        repeat ((first | (refine lexP_read rfl (by rfl) (by first | exact wanted_none rfl | exact wanted_some (b := true) (c := true) rfl rfl rfl | exact wanted_some (b := false) (c := false) rfl rfl rfl) (by intro w9 hS9; (try dsimp only at hS9); go_simp <;> with_reducible rfl) ?_) | (refine lexP_skip rfl (fun _ => trivial) (by first | exact wanted_some (b := true) (c := false) rfl rfl rfl | exact wanted_some (b := false) (c := true) rfl rfl rfl) ?_) | (refine lexP_builtin rfl (fun _ => trivial) (by first | exact wanted_none rfl | exact wanted_some (b := true) (c := true) rfl rfl rfl | exact wanted_some (b := false) (c := false) rfl rfl rfl) (by intro w9 hS9; (try dsimp only at hS9); go_simp <;> with_reducible rfl) ?_)); (try simp only [Act.put, List.getElem_toArray, List.getElem_cons_succ, List.getElem_cons_zero, List.setIfInBounds_toArray, List.set_cons_zero, List.set_cons_succ]))
        refine lexP_nil (panQ_normal ?_)
        go_wp2_with fail
        go_roundw
        case rel =>
          refine ⟨k + 1, by omega, by go_num, fun j y hj hy => ?_, HF.out.2.1.drew, HF.out.2.2.drew⟩
          rcases Nat.lt_or_ge j k with h | h
          · exact HF.out.1 j y h hy
          · obtain rfl : j = k := by omega
            rw [HS.out] at hy
            injection hy with hy
            rw [← hy]
            exact HN.out
        case measure => simp [intOf]; omega
      have k2 : decide (n < x.s + x.c) = true := decide_eq_true h2
      have HN : Hid (inX n x = true) := by show _ = _; unfold inX; exact decide_eq_true ⟨h1, h2⟩
      clear h1 h2
      go_upto_region 6 with fail
      trace_state
      refine wp_region_lexP [(0, 1), (1, 1), (3, 1), (2, 1), (4, 1), (5, 1), (6, 1), (7, 1), (8, 1), (9, 1), (10, 1), (12, 1), (16, 1), (18, 1), (11, 1), (17, 1), (13, 1), (19, 1), (14, 1), (20, 1), (15, 1), (21, 1), (22, 1), (23, 1), (24, 1)] [] (fun w9 => w9.cell? ⟨w.heap.size, 5, none⟩ = some (.slice (some ⟨b, off, none⟩) ns cs) ∧ w9.cell? ⟨b, off + k * 2, none⟩ = some (.int .i64 x.s) ∧ w9.cell? ⟨b, off + k * 2 + 1, none⟩ = some (.int .i64 x.c)) (by kernel_rfl) (by kernel_rfl) (by kernel_rfl) (by kernel_rfl) (by kernel_rfl) ⟨xs5, d0, d1⟩ ?_
      repeat ((first | (refine lexP_read rfl (by rfl) (by first | exact wanted_none rfl | exact wanted_some (b := true) (c := true) rfl rfl rfl | exact wanted_some (b := false) (c := false) rfl rfl rfl) (by intro w9 hS9; (try dsimp only at hS9); go_simp <;> with_reducible rfl) ?_) | (refine lexP_skip rfl (fun _ => trivial) (by first | exact wanted_some (b := true) (c := false) rfl rfl rfl | exact wanted_some (b := false) (c := true) rfl rfl rfl) ?_) | (refine lexP_builtin rfl (fun _ => trivial) (by first | exact wanted_none rfl | exact wanted_some (b := true) (c := true) rfl rfl rfl | exact wanted_some (b := false) (c := false) rfl rfl rfl) (by intro w9 hS9; (try dsimp only at hS9); go_simp <;> with_reducible rfl) ?_)); (try simp only [Act.put, List.getElem_toArray, List.getElem_cons_succ, List.getElem_cons_zero, List.setIfInBounds_toArray, List.set_cons_zero, List.set_cons_succ]))
      refine lexP_nil (panQ_normal ?_)
      go_wp2_with fail
      go_ret
      refine ⟨ret_bool ?_, HF.out.2.2.drew⟩
      rw [HM.out]
      symm
      rw [List.any_eq_true]
      exact ⟨x, List.mem_of_getElem? HS.out, HN.out⟩
    · go_wp2_with fail
      go_ret
      refine ⟨ret_bool ?_, HF.out.2.2⟩
      rw [HM.out]
      symm
      rw [List.any_eq_false]
      intro y hy
      obtain ⟨j, hj, rfl⟩ := List.getElem_of_mem hy
      rw [HF.out.1 j _ (by rw [HL.out] at hj; omega) (List.getElem?_eq_getElem hj)]
      simp
end Go.Proofs.Ytanmndhdhlmjgaa
