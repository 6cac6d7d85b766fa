/- The walk of the reference's Copy. Condition: at most 10000 flights, sizes as named. -/
import Derived.Test.YtjaoppopfeonhaaWe
namespace Go.Proofs.Ytjaoppopfeonhaa
open Go.RowKit
set_option linter.unusedSimpArgs false in
set_option maxRecDepth 100000 in
set_option maxHeartbeats 4000000 in
theorem Copy_any (mi ma ra : Int) (dn : Bool) (id nx : Int) (A : Option Addr) (m c : Nat) (l : List Ev) (w : World) (hR : Evs w A m l) (hm : m ≤ 10000) (hp : ∀ e ∈ l, e.p.length ≤ 100000) :
    Calls Try.prog 43 #[.agg (lkC mi ma ra dn id nx A m c)] w (LinkR w ⟨mi, ma, ra, dn, id, nx, l.map Ev.em⟩) := by
  unfold lkC
  have hlen := hR.count
  obtain ⟨i2, hi2, hy0, hy1, hy2⟩ := info_parts info69b
  have HI := Lib.hid (And.intro hi2 (And.intro hy0 (And.intro hy1 hy2)))
  clear hi2 hy0 hy1 hy2
  have hb : Below w.heap.size w ((w.alloc (.cells #[.int .i64 mi, .int .i64 ma, .int .i64 ra, .bool dn, .int .i64 id, .int .i64 nx, .slice A m c] 26)).alloc (.cells #[.int .i64 0, .int .i64 0, .int .i64 0, .bool false, .int .i64 0, .int .i64 0, .slice none 0 0] 26)) := ((Below.refl _ w).alloc (Nat.le_refl _) _).alloc (by simp) _
  have h1 := (Blk.new w 26 #[.int .i64 mi, .int .i64 ma, .int .i64 ra, .bool dn, .int .i64 id, .int .i64 nx, .slice A m c]).alloc (.cells #[.int .i64 0, .int .i64 0, .int .i64 0, .bool false, .int .i64 0, .int .i64 0, .slice none 0 0] 26)
  have h2 := Blk.new (w.alloc (.cells #[.int .i64 mi, .int .i64 ma, .int .i64 ra, .bool dn, .int .i64 id, .int .i64 nx, .slice A m c] 26)) 26 #[.int .i64 0, .int .i64 0, .int .i64 0, .bool false, .int .i64 0, .int .i64 0, .slice none 0 0]
  rw [World.size_alloc] at h2
  have hsV : ((w.alloc (.cells #[.int .i64 mi, .int .i64 ma, .int .i64 ra, .bool dn, .int .i64 id, .int .i64 nx, .slice A m c] 26)).alloc (.cells #[.int .i64 0, .int .i64 0, .int .i64 0, .bool false, .int .i64 0, .int .i64 0, .slice none 0 0] 26)).heap.size = w.heap.size + 2 := by simp
  have HX := Lib.hid (And.intro (hR.up hb) (And.intro hlen (And.intro hp (And.intro hb (And.intro h1 (And.intro h2 hsV))))))
  clear hR hlen hp hb h1 h2 hsV
  go_enter Try.func43, Try.ntmps43
  go_wp2_with fail
  generalize ((w.alloc (.cells #[.int .i64 mi, .int .i64 ma, .int .i64 ra, .bool dn, .int .i64 id, .int .i64 nx, .slice A m c] 26)).alloc (.cells #[.int .i64 0, .int .i64 0, .int .i64 0, .bool false, .int .i64 0, .int .i64 0, .slice none 0 0] 26)) = V at *
  go_loopw [3, 4] (fun u3 u9 W => ∃ (k : Nat) (es : List Ev), k ≤ m ∧ u9 = .int .i64 (k : Nat) ∧ es.map Ev.em = (l.take k).map Ev.em ∧ OwnE W V.heap.size u3 es ∧ NewP V.heap.size es ∧ Below V.heap.size V W) (fun _ u9 _ => m + 1 - (intOf u9).toNat)
  case atStart => exact ⟨0, [], by omega, rfl, rfl, OwnE.nil _ _, nofun, Below.refl _ _⟩
  case round =>
    have hV2 := HX.out.2.2.2.2.2.2
    obtain ⟨k, es, hk, rfl, hes, hown, hnew, hb⟩ := hrel
    have HNP := Lib.hid hnew
    clear hnew
    have hel : es.length = k := by
      have := congrArg List.length hes
      rw [List.length_map, List.length_map, List.length_take, HX.out.2.1] at this
      omega
    obtain ⟨A3, c3, rfl⟩ := hown.form
    have HO := Lib.hid (And.intro hes (And.intro hown hb))
    have HEL := Lib.hid hel
    have hel2 : es.length ≤ 10000 := by omega
    have hsr := hb.size
    clear hes hown hb hel
    have G6 := HX.out.2.2.2.2.1.below HO.out.2.2 (by omega)
    have q6 : wr.cell? ⟨w.heap.size, 6, none⟩ = some (.slice A m c) := G6.cell 6
    clear G6
    by_cases hlt : k < m
    · have hkl : k < l.length := by have := HX.out.2.1; omega
      obtain ⟨b, off, rfl, hbw, hc⟩ := HX.out.1.cells (by omega)
      obtain ⟨d0, d1, d2⟩ := hc k _ (List.getElem?_eq_getElem hkl)
      replace d0 := (HO.out.2.2.cell (p := ⟨b, off + k * 3, none⟩) hbw).trans d0
      replace d1 := (HO.out.2.2.cell (p := ⟨b, off + k * 3 + 1, none⟩) hbw).trans d1
      replace d2 := (HO.out.2.2.cell (p := ⟨b, off + k * 3 + 2, none⟩) hbw).trans d2
      have HS : Hid ((l.take (k + 1)).map Ev.em = (l.take k).map Ev.em ++ [l[k].em]) := by
        show _ = _
        rw [List.take_succ_eq_append_getElem hkl, List.map_append]
        rfl
      have hxr := (HX.out.1.ev _ (List.getElem_mem hkl)).up HO.out.2.2
      have hxp := HX.out.2.2.1 _ (List.getElem_mem hkl)
      clear hc
      generalize l[k] = ev at *
      obtain ⟨et, en, eA, ec, ep⟩ := ev
      dsimp only at d0 d1 d2 hxp
      have HXR := Lib.hid hxr
      clear hxr
      have ik : (k : Int) < m := by omega
      go_upto_region 5 with fail
      refine wp_pan (Pc := fun _ _ _ => False) (fun _ _ _ h => h.elim) ?_
      refine wp_region_tail_lit (S := fun V => V.cell? ⟨w.heap.size, 6, none⟩ = some (.slice (some ⟨b, off, none⟩) m c) ∧ V.cell? ⟨b, off + k * 3, none⟩ = some (.int .i64 et) ∧ V.cell? ⟨b, off + k * 3 + 1, none⟩ = some (.int .i64 en) ∧ V.cell? ⟨b, off + k * 3 + 2, none⟩ = some (.slice eA ep.length ec)) 22 (by kernel_rfl) (by kernel_rfl) ⟨q6, d0, d1, d2⟩ (fun hHeld => ?_)
      simp only [List.take, List.drop]
      refine wpAnyH_take (i := 0) (oi := _) (v := ?_) rfl (by kernel_rfl) (by kernel_rfl) (by kernel_rfl) (fun _ _ _ h => h) (Or.inl ⟨by rfl, ?_⟩) (by assumption) ?_
      rotate_left 1
      · (intro w9 hS9; (try dsimp only at hS9); go_simp <;> with_reducible rfl)
      try simp only [List.getElem_toArray, List.getElem_cons_succ, List.getElem_cons_zero, Act.put, List.setIfInBounds_toArray, List.set_cons_zero, List.set_cons_succ]
      refine wpAnyH_take (i := 1) (oi := _) (v := ?_) rfl (by kernel_rfl) (by kernel_rfl) (by kernel_rfl) (fun _ _ _ h => h) (Or.inl ⟨by rfl, ?_⟩) (by assumption) ?_
      rotate_left 1
      · (intro w9 hS9; (try dsimp only at hS9); go_simp <;> with_reducible rfl)
      try simp only [List.getElem_toArray, List.getElem_cons_succ, List.getElem_cons_zero, Act.put, List.setIfInBounds_toArray, List.set_cons_zero, List.set_cons_succ]
      refine wpAnyH_take (i := 2) (oi := _) (v := ?_) rfl (by kernel_rfl) (by kernel_rfl) (by kernel_rfl) (fun _ _ _ h => h) (Or.inl ⟨by rfl, ?_⟩) (by assumption) ?_
      rotate_left 1
      · (intro w9 hS9; (try dsimp only at hS9); go_simp <;> with_reducible rfl)
      try simp only [List.getElem_toArray, List.getElem_cons_succ, List.getElem_cons_zero, Act.put, List.setIfInBounds_toArray, List.set_cons_zero, List.set_cons_succ]
      refine wpAnyH_take (i := 3) (oi := _) (v := ?_) rfl (by kernel_rfl) (by kernel_rfl) (by kernel_rfl) (fun _ _ _ h => h) (Or.inl ⟨by rfl, ?_⟩) (by assumption) ?_
      rotate_left 1
      · (intro w9 hS9; (try dsimp only at hS9); go_simp <;> with_reducible rfl)
      try simp only [List.getElem_toArray, List.getElem_cons_succ, List.getElem_cons_zero, Act.put, List.setIfInBounds_toArray, List.set_cons_zero, List.set_cons_succ]
      refine wpAnyH_take (i := 4) (oi := _) (v := ?_) rfl (by kernel_rfl) (by kernel_rfl) (by kernel_rfl) (fun _ _ _ h => h) (Or.inl ⟨by rfl, ?_⟩) (by assumption) ?_
      rotate_left 1
      · (intro w9 hS9; (try dsimp only at hS9); go_simp <;> with_reducible rfl)
      try simp only [List.getElem_toArray, List.getElem_cons_succ, List.getElem_cons_zero, Act.put, List.setIfInBounds_toArray, List.set_cons_zero, List.set_cons_succ]
      refine wpAnyH_take (i := 5) (oi := _) (v := ?_) rfl (by kernel_rfl) (by kernel_rfl) (by kernel_rfl) (fun _ _ _ h => h) (Or.inl ⟨by rfl, ?_⟩) (by assumption) ?_
      rotate_left 1
      · (intro w9 hS9; (try dsimp only at hS9); go_simp <;> with_reducible rfl)
      try simp only [List.getElem_toArray, List.getElem_cons_succ, List.getElem_cons_zero, Act.put, List.setIfInBounds_toArray, List.set_cons_zero, List.set_cons_succ]
      refine wpAnyH_take (i := 6) (oi := _) (v := ?_) rfl (by kernel_rfl) (by kernel_rfl) (by kernel_rfl) (fun _ _ _ h => h) (Or.inl ⟨by rfl, ?_⟩) (by assumption) ?_
      rotate_left 1
      · (intro w9 hS9; (try dsimp only at hS9); go_simp <;> with_reducible rfl)
      try simp only [List.getElem_toArray, List.getElem_cons_succ, List.getElem_cons_zero, Act.put, List.setIfInBounds_toArray, List.set_cons_zero, List.set_cons_succ]
      refine wpAnyH_take (i := 7) (oi := _) (v := ?_) rfl (by kernel_rfl) (by kernel_rfl) (by kernel_rfl) (fun _ _ _ h => h) (Or.inl ⟨by rfl, ?_⟩) (by assumption) ?_
      rotate_left 1
      · (intro w9 hS9; (try dsimp only at hS9); go_simp <;> with_reducible rfl)
      try simp only [List.getElem_toArray, List.getElem_cons_succ, List.getElem_cons_zero, Act.put, List.setIfInBounds_toArray, List.set_cons_zero, List.set_cons_succ]
      refine wpAnyH_take (i := 8) (oi := _) (v := ?_) rfl (by kernel_rfl) (by kernel_rfl) (by kernel_rfl) (fun _ _ _ h => h) (Or.inl ⟨by rfl, ?_⟩) (by assumption) ?_
      rotate_left 1
      · (intro w9 hS9; (try dsimp only at hS9); go_simp <;> with_reducible rfl)
      try simp only [List.getElem_toArray, List.getElem_cons_succ, List.getElem_cons_zero, Act.put, List.setIfInBounds_toArray, List.set_cons_zero, List.set_cons_succ]
      refine wpAnyH_take (i := 9) (oi := _) (v := ?_) rfl (by kernel_rfl) (by kernel_rfl) (by kernel_rfl) (fun _ _ _ h => h) (Or.inl ⟨by rfl, ?_⟩) (by assumption) ?_
      rotate_left 1
      · (intro w9 hS9; (try dsimp only at hS9); go_simp <;> with_reducible rfl)
      try simp only [List.getElem_toArray, List.getElem_cons_succ, List.getElem_cons_zero, Act.put, List.setIfInBounds_toArray, List.set_cons_zero, List.set_cons_succ]
      refine wpAnyH_take (i := 10) (oi := _) (v := ?_) rfl (by kernel_rfl) (by kernel_rfl) (by kernel_rfl) (fun _ _ _ h => h) (Or.inl ⟨by rfl, ?_⟩) (by assumption) ?_
      rotate_left 1
      · (intro w9 hS9; (try dsimp only at hS9); go_simp <;> with_reducible rfl)
      try simp only [List.getElem_toArray, List.getElem_cons_succ, List.getElem_cons_zero, Act.put, List.setIfInBounds_toArray, List.set_cons_zero, List.set_cons_succ]
      refine wpAnyH_take (i := 11) (oi := _) (v := ?_) rfl (by kernel_rfl) (by kernel_rfl) (by kernel_rfl) (fun _ _ _ h => h) (Or.inl ⟨by rfl, ?_⟩) (by assumption) ?_
      rotate_left 1
      · (intro w9 hS9; (try dsimp only at hS9); go_simp <;> with_reducible rfl)
      try simp only [List.getElem_toArray, List.getElem_cons_succ, List.getElem_cons_zero, Act.put, List.setIfInBounds_toArray, List.set_cons_zero, List.set_cons_succ]
      refine wpAnyH_take (i := 12) (oi := _) (v := ?_) rfl (by kernel_rfl) (by kernel_rfl) (by kernel_rfl) (fun _ _ _ h => h) (Or.inl ⟨by rfl, ?_⟩) (by assumption) ?_
      rotate_left 1
      · (intro w9 hS9; (try dsimp only at hS9); go_simp <;> with_reducible rfl)
      try simp only [List.getElem_toArray, List.getElem_cons_succ, List.getElem_cons_zero, Act.put, List.setIfInBounds_toArray, List.set_cons_zero, List.set_cons_succ]
      refine wpAnyH_take (i := 13) (oi := _) (v := ?_) rfl (by kernel_rfl) (by kernel_rfl) (by kernel_rfl) (fun _ _ _ h => h) (Or.inl ⟨by rfl, ?_⟩) (by assumption) ?_
      rotate_left 1
      · (intro w9 hS9; (try dsimp only at hS9); go_simp <;> with_reducible rfl)
      try simp only [List.getElem_toArray, List.getElem_cons_succ, List.getElem_cons_zero, Act.put, List.setIfInBounds_toArray, List.set_cons_zero, List.set_cons_succ]
      refine wpAnyH_take (i := 14) (oi := _) (v := ?_) rfl (by kernel_rfl) (by kernel_rfl) (by kernel_rfl) (fun _ _ _ h => h) (Or.inl ⟨by rfl, ?_⟩) (by assumption) ?_
      rotate_left 1
      · (intro w9 hS9; (try dsimp only at hS9); go_simp <;> with_reducible rfl)
      try simp only [List.getElem_toArray, List.getElem_cons_succ, List.getElem_cons_zero, Act.put, List.setIfInBounds_toArray, List.set_cons_zero, List.set_cons_succ]
      refine wpAnyH_take (i := 15) (oi := _) (v := ?_) rfl (by kernel_rfl) (by kernel_rfl) (by kernel_rfl) (fun _ _ _ h => h) (Or.inl ⟨by rfl, ?_⟩) (by assumption) ?_
      rotate_left 1
      · (intro w9 hS9; (try dsimp only at hS9); go_simp <;> with_reducible rfl)
      try simp only [List.getElem_toArray, List.getElem_cons_succ, List.getElem_cons_zero, Act.put, List.setIfInBounds_toArray, List.set_cons_zero, List.set_cons_succ]
      refine wpAnyH_take (i := 16) (oi := _) (v := ?_) rfl (by kernel_rfl) (by kernel_rfl) (by kernel_rfl) (fun _ _ _ h => h) (Or.inl ⟨by rfl, ?_⟩) (by assumption) ?_
      rotate_left 1
      · (intro w9 hS9; (try dsimp only at hS9); go_simp <;> with_reducible rfl)
      try simp only [List.getElem_toArray, List.getElem_cons_succ, List.getElem_cons_zero, Act.put, List.setIfInBounds_toArray, List.set_cons_zero, List.set_cons_succ]
      refine wpAnyH_take (i := 17) (oi := _) (v := ?_) rfl (by kernel_rfl) (by kernel_rfl) (by kernel_rfl) (fun _ _ _ h => h) (Or.inl ⟨by rfl, ?_⟩) (by assumption) ?_
      rotate_left 1
      · (intro w9 hS9; (try dsimp only at hS9); go_simp <;> with_reducible rfl)
      try simp only [List.getElem_toArray, List.getElem_cons_succ, List.getElem_cons_zero, Act.put, List.setIfInBounds_toArray, List.set_cons_zero, List.set_cons_succ]
      refine wpAnyH_take (i := 18) (oi := _) (v := ?_) rfl (by kernel_rfl) (by kernel_rfl) (by kernel_rfl) (fun _ _ _ h => h) (Or.inl ⟨by rfl, ?_⟩) (by assumption) ?_
      rotate_left 1
      · (intro w9 hS9; (try dsimp only at hS9); go_simp <;> with_reducible rfl)
      try simp only [List.getElem_toArray, List.getElem_cons_succ, List.getElem_cons_zero, Act.put, List.setIfInBounds_toArray, List.set_cons_zero, List.set_cons_succ]
      refine wpAnyH_ready (rs := [19]) (by kernel_rfl) (by simp) ?_
      refine AllReadyH.cons (o := _) rfl (fun K hK => ?_) AllReadyH.nil
      try simp only [List.getElem_toArray, List.getElem_cons_succ, List.getElem_cons_zero]
      go_simp
      refine (refcopied_any eA ep.length ec ep _ (Reads.drew HXR.out) hxp).mono ?_
      rintro e w1 ⟨⟨v1, rfl, hv1⟩, hb1⟩
      obtain ⟨A2, c2, rfl, _, _, hr2⟩ := own_slice hv1
      have hf2 := own_addr hv1
      have hbr1 : Below wr.heap.size wr w1 := (Below.refl _ wr).drew.trans hb1
      have hs1 := hbr1.size
      clear hv1 hb1
      go_wp2_with fail
      refine hK.out _ _ ⟨(hbr1.cell (p := ⟨w.heap.size, 6, none⟩) (by dsimp only; omega)).trans q6, (hbr1.cell (p := ⟨b, off + k * 3, none⟩) (by dsimp only; omega)).trans d0, (hbr1.cell (p := ⟨b, off + k * 3 + 1, none⟩) (by dsimp only; omega)).trans d1, (hbr1.cell (p := ⟨b, off + k * 3 + 2, none⟩) (by dsimp only; omega)).trans d2⟩ (fun hHeld => ?_)
      clear hK K
      try simp only [List.getElem_toArray, List.getElem_cons_succ, List.getElem_cons_zero, Act.put, List.setIfInBounds_toArray, List.set_cons_zero, List.set_cons_succ]
      refine wpAnyH_take (i := 20) (oi := _) (v := ?_) rfl (by kernel_rfl) (by kernel_rfl) (by kernel_rfl) (fun _ _ _ h => h) (Or.inl ⟨by rfl, ?_⟩) (by assumption) ?_
      rotate_left 1
      · (intro w9 hS9; (try dsimp only at hS9); go_simp <;> with_reducible rfl)
      try simp only [List.getElem_toArray, List.getElem_cons_succ, List.getElem_cons_zero, Act.put, List.setIfInBounds_toArray, List.set_cons_zero, List.set_cons_succ]
      refine wpAnyH_ready (rs := [21]) (by kernel_rfl) (by simp) ?_
      refine AllReadyH.cons (o := _) rfl (fun K hK => ?_) AllReadyH.nil
      try simp only [List.getElem_toArray, List.getElem_cons_succ, List.getElem_cons_zero]
      go_simp
      have hbr2 : Below wr.heap.size wr (w1.alloc (.cells #[.int .i64 et, .int .i64 en, .slice A2 ep.length c2] 69)) := hbr1.alloc hbr1.size _
      have hE2 := (HO.out.2.1.below hbr1).below ((Below.refl _ w1).alloc (Nat.le_refl _) (.cells #[.int .i64 et, .int .i64 en, .slice A2 ep.length c2] 69))
      have her := elem_reads w1 #[.int .i64 et, .int .i64 en, .slice A2 ep.length c2] 69
      have hx2 : EvR (w1.alloc (.cells #[.int .i64 et, .int .i64 en, .slice A2 ep.length c2] 69)) ⟨et, en, A2, c2, ep⟩ := Reads.up hr2 ((Below.refl _ w1).alloc (Nat.le_refl _) _)
      have hs2 : (w1.alloc (.cells #[.int .i64 et, .int .i64 en, .slice A2 ep.length c2] 69)).heap.size = w1.heap.size + 1 := by simp
      refine hK.out _ _ ⟨(hbr2.cell (p := ⟨w.heap.size, 6, none⟩) (by dsimp only; omega)).trans q6, (hbr2.cell (p := ⟨b, off + k * 3, none⟩) (by dsimp only; omega)).trans d0, (hbr2.cell (p := ⟨b, off + k * 3 + 1, none⟩) (by dsimp only; omega)).trans d1, (hbr2.cell (p := ⟨b, off + k * 3 + 2, none⟩) (by dsimp only; omega)).trans d2⟩ (fun hHeld => ?_)
      clear hK K
      try simp only [List.getElem_toArray, List.getElem_cons_succ, List.getElem_cons_zero, Act.put, List.setIfInBounds_toArray, List.set_cons_zero, List.set_cons_succ]
      generalize (w1.alloc (.cells #[.int .i64 et, .int .i64 en, .slice A2 ep.length c2] 69)) = w2 at *
      refine wpAnyH_done (by kernel_rfl) ?_ _
      refine tailQ_step rfl ?_
      go_wp2_with (at_builtin; go_must (refine wpList_append_any w2 rfl (.tmp 12) (.tmp 33) _ rfl V.heap.size 69 i2 _ 3 40 Try.underlying24 HI.out.1 HI.out.2.1 HI.out.2.2.1 HI.out.2.2.2 rfl (by omega) (.slice A3 es.length c3) es.length (es.flatMap encEv) rfl hE2.own (w1.heap.size + 1) (some ⟨w1.heap.size, 0, none⟩) 1 1 [.int .i64 et, .int .i64 en, .slice A2 ep.length c2] rfl her (by simp [Value.oneCell']) (by simp only [maxLen]; omega) (by omega) (by omega) ?_; intro v3 w3 ho3 hg3 hv3))
      refine tailQ_step rfl ?_
      go_wp2_with fail
      refine tailQ_nil (panQ_normal ?_)
      go_wp2_with fail
      go_roundw
      case rel =>
        have hf : ∀ ad, 0 < ep.length → A2 = some ad → (Value.slice A3 es.length c3).ownBlock ≠ some ad.block := by
          intro ad h0 hA e
          have h1 := own_lt HO.out.2.1.own _ e
          have h2 := hf2 ad h0 hA
          have h3 : wr.drew.heap.size = wr.heap.size := rfl
          omega
        refine ⟨k + 1, es ++ [⟨et, en, A2, c2, ep⟩], by omega, by go_num, ?_, OwnE.push (x := ⟨et, en, A2, c2, ep⟩) hE2 ho3 hg3 hv3 hx2 hf, ?_, ?_⟩
        · rw [List.map_append, HO.out.1, HS.out]
          rfl
        · intro e he ad h0 hA
          rcases List.mem_append.1 he with he | he
          · exact HNP.out e he ad h0 hA
          · rw [List.mem_singleton] at he
            subst he
            have h2 := hf2 ad h0 hA
            have h3 : wr.drew.heap.size = wr.heap.size := rfl
            omega
        · exact (HO.out.2.2.trans (hbr2.mono HO.out.2.2.size)).grown hg3 (by omega) (own_block_ge hE2.own)
      case measure => simp [intOf]; omega
    · obtain rfl : k = m := by omega
      have hlV : w.heap.size < V.heap.size := by have := HX.out.2.2.2.2.2.2; omega
      have hlV1 : w.heap.size + 1 < V.heap.size := by have := HX.out.2.2.2.2.2.2; omega
      have G0 := HX.out.2.2.2.2.1.below HO.out.2.2 hlV
      have G1 := HX.out.2.2.2.2.2.1.below HO.out.2.2 hlV1
      have f6 : wr.frozen? ⟨w.heap.size, 6, none⟩ = false := G0.frozen 6
      have HG := Lib.hid (And.intro G0 G1)
      clear G0 G1
      go_upto_region 7 with fail
      clear q6 f6
      have G0 : Blk (wr.setCell ⟨w.heap.size, 6, none⟩ (.slice A3 es.length c3)) w.heap.size 26 #[.int .i64 mi, .int .i64 ma, .int .i64 ra, .bool dn, .int .i64 id, .int .i64 nx, .slice A3 es.length c3] := HG.out.1.set_ 6 _
      have G1 := HG.out.2.far (p := ⟨w.heap.size, 6, none⟩) (by simp) (.slice A3 es.length c3)
      have hbw : Below w.heap.size w (wr.setCell ⟨w.heap.size, 6, none⟩ (.slice A3 es.length c3)) := (HX.out.2.2.2.1.trans (HO.out.2.2.mono HX.out.2.2.2.1.size)).setCell (Nat.le_refl _) _
      have hE := HO.out.2.1.keepN (W' := wr.setCell ⟨w.heap.size, 6, none⟩ (.slice A3 es.length c3)) HNP.out (fun g hg _ => Below.heap_setCell _ _ _ _ (by simp only; omega)) (by simp)
      have HW := Lib.hid (And.intro hbw (And.intro hE G1))
      clear hbw hE HG
      generalize wr.setCell ⟨w.heap.size, 6, none⟩ (.slice A3 es.length c3) = W2 at *
      have a0 : W2.cell? ⟨w.heap.size, 0, none⟩ = some (.int .i64 mi) := G0.cell 0
      have a1 : W2.cell? ⟨w.heap.size, 1, none⟩ = some (.int .i64 ma) := G0.cell 1
      have a2 : W2.cell? ⟨w.heap.size, 2, none⟩ = some (.int .i64 ra) := G0.cell 2
      have a3 : W2.cell? ⟨w.heap.size, 3, none⟩ = some (.bool dn) := G0.cell 3
      have a4 : W2.cell? ⟨w.heap.size, 4, none⟩ = some (.int .i64 id) := G0.cell 4
      have a5 : W2.cell? ⟨w.heap.size, 5, none⟩ = some (.int .i64 nx) := G0.cell 5
      have a6 : W2.cell? ⟨w.heap.size, 6, none⟩ = some (.slice A3 es.length c3) := G0.cell 6
      clear G0 G1
      go_wp2_with (refine wpList_store_row rfl _ _ _ rfl (w.heap.size + 1) _ rfl rfl 26 _ HW.out.2.2 (by kernel_rfl) rfl (by simp [Value.oneCell']) ?_)
      have GR := HW.out.2.2.setRow #[.int .i64 mi, .int .i64 ma, .int .i64 ra, .bool dn, .int .i64 id, .int .i64 nx, .slice A3 es.length c3]
      refine bodyPost_ret (v := .agg (lkV ⟨mi, ma, ra, dn, id, nx, l.map Ev.em⟩ (.slice A3 es.length c3))) (results_cell1 (t := 26) rfl _ _ (w.heap.size + 1) _ _ rfl GR Try.underlying26 rfl (by kernel_rfl)) rfl ⟨below_setRow HW.out.1 (by omega) _, _, es, rfl, (HW.out.2.1.keepN HNP.out (fun g hg _ => setRow_other _ _ _ _ (by omega)) (by simp)).low (by omega), ?_, HNP.out.low (by omega)⟩
      rw [HO.out.1, List.take_of_length_le (by have := HX.out.2.1; omega)]
end Go.Proofs.Ytjaoppopfeonhaa
