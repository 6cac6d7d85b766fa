/- The walk of added. Condition: times that are possible, at most 100. -/
import Derived.Test.YtknedclejhiegaaWv
namespace Go.Proofs.Ytknedclejhiegaa
open Go.RowKit
set_option linter.unusedSimpArgs false in
set_option maxRecDepth 100000 in
set_option maxHeartbeats 8000000 in
theorem added_any (A : Option Addr) (m c : Nat) (ts : List Int) (w : World) (hR : Reads w w.heap.size 1 A m (intsV ts)) (hm : m ≤ 100) (ht : ∀ t ∈ ts, 0 ≤ t ∧ t ≤ 1073741824) :
    Calls Try.prog 18 #[.slice A m c] w (AddedR w ts) := by
  have hlen : ts.length = m := by have := hR.1; rw [intsV_len] at this; omega
  have g0 : Blk ((w.alloc (.cells #[.slice none 0 0, .int .i64 0] 24)).alloc (.cells #[.slice none 0 0, .int .i64 0] 24)) w.heap.size 24 #[.slice none 0 0, .int .i64 0] := (Blk.new w 24 #[.slice none 0 0, .int .i64 0]).alloc _
  have g1 := Blk.new (w.alloc (.cells #[.slice none 0 0, .int .i64 0] 24)) 24 #[.slice none 0 0, .int .i64 0]
  rw [World.size_alloc] at g1
  have hb0 : Below w.heap.size w ((w.alloc (.cells #[.slice none 0 0, .int .i64 0] 24)).alloc (.cells #[.slice none 0 0, .int .i64 0] 24)) := ((Below.refl _ _).alloc (Nat.le_refl _) _).alloc (by simp) _
  have H0 : Hid (AdI2 w ts 0 ((w.alloc (.cells #[.slice none 0 0, .int .i64 0] 24)).alloc (.cells #[.slice none 0 0, .int .i64 0] 24))) := ⟨g0, ⟨none, 0, 0, g1, QVal.nil _ _⟩, hb0⟩
  have HX := Lib.hid (And.intro hR (And.intro hlen ht))
  clear hR hlen ht g0 g1 hb0
  go_enter Try.func18, Try.ntmps18
  go_wp2_with fail
  generalize ((w.alloc (.cells #[.slice none 0 0, .int .i64 0] 24)).alloc (.cells #[.slice none 0 0, .int .i64 0] 24)) = V0 at *
  go_loopw [5, 6, 7, 8] (fun u5 _ _ _ W => ∃ i : Nat, i ≤ m ∧ u5 = .int .i64 (i : Nat) ∧ AdI2 w ts i W) (fun u5 _ _ _ _ => m + 1 - (intOf u5).toNat)
  case atStart => exact ⟨0, by omega, rfl, H0.out⟩
  case round =>
    obtain ⟨i, hi, rfl, hz, ⟨Aq, n, c2, hq, hqv⟩, hbel⟩ := hrel
    obtain ⟨hok, hal⟩ := addM_ok HX.out.2.2 (by have := HX.out.2.1; omega) i (by have := HX.out.2.1; omega)
    obtain ⟨Aq', c2', eq, hv', hq1, hq2, hq3⟩ := hqv.val
    injection hv' with hv'
    simp only [Array.mk.injEq, List.cons.injEq, Value.slice.injEq, and_true] at hv'
    obtain ⟨rfl, rfl, rfl⟩ := hv'
    have hln : eq.length = i := by rw [← hal, ← hq2, List.length_map]
    have hq4 : ∀ e ∈ eq, e.p.length ≤ 4096 := fun e he => (wrong_fact (hok.each e.em (by rw [← hq2]; exact List.mem_map_of_mem he))).2.2.2.2.2.2
    obtain ⟨n, hn⟩ : ∃ n, eq.length = n := ⟨_, rfl⟩
    rw [hn] at hq hqv hq1 hq3 hln
    have hlt0 := hq.lt
    have HZ := Lib.hid (And.intro hz (And.intro hq hbel))
    have HEQ := Lib.hid hq1
    have HQV := Lib.hid hqv
    have z0 : wr.cell? ⟨w.heap.size + 1, 0, none⟩ = some (.slice Aq n c2) := hq.cell 0
    have z1 : wr.cell? ⟨w.heap.size + 1, 1, none⟩ = some (.int .i64 (i : Nat)) := hq.cell 1
    have hnb : n ≤ 1000 := by omega
    have HQ2 := Lib.hid hq2
    clear hz hq hbel hq1 hqv hn hln hal hq2 hok
    by_cases hlt : i < m
    · obtain ⟨b, off, t, rfl, hbb, htx, e0⟩ := intsV_at HX.out.1 hlt
      replace e0 := (HZ.out.2.2.cell (p := ⟨b, off + i, none⟩) hbb).trans e0
      have hsw := HZ.out.2.2.size
      have HST : Hid (addQ (addM ts i) i t i 0 [] = ⟨addM ts (i + 1), (i + 1 : Nat), i, 0⟩) := add_step HX.out.2.2 (by have := HX.out.2.1; omega) htx
      clear htx
      have hi1 : (i : Int) < m := by omega
      have hi0 : (0 : Int) ≤ i := by omega
      · skip
        go_upto_region 5 with fail
        refine wp_pan (Pc := fun _ _ _ => False) (fun _ _ _ h => h.elim) ?_
        refine wp_region_tail_lit (S := fun V => V.cell? ⟨w.heap.size + 1, 0, none⟩ = some (.slice Aq n c2) ∧ V.cell? ⟨w.heap.size + 1, 1, none⟩ = some (.int .i64 (i : Nat)) ∧ V.cell? ⟨b, off + i, none⟩ = some (.int .i64 t)) 14 (by kernel_rfl) (by kernel_rfl) ⟨z0, z1, e0⟩ (fun hHeld => ?_)
        simp only [List.take, List.drop]
        refine wpAnyH_take (i := 0) (oi := _) (v := ?_) rfl (by kernel_rfl) (by kernel_rfl) (by kernel_rfl) (fun _ _ _ h => h) (Or.inl ⟨by rfl, ?_⟩) (by assumption) ?_
        rotate_left 1
        · (intro w9 hS9; (try dsimp only at hS9); go_simp <;> with_reducible rfl)
        try simp only [List.getElem_toArray, List.getElem_cons_succ, List.getElem_cons_zero, Act.put, List.setIfInBounds_toArray, List.set_cons_zero, List.set_cons_succ]
        refine wpAnyH_take (i := 1) (oi := _) (v := ?_) rfl (by kernel_rfl) (by kernel_rfl) (by kernel_rfl) (fun _ _ _ h => h) (Or.inl ⟨by rfl, ?_⟩) (by assumption) ?_
        rotate_left 1
        · (intro w9 hS9; (try dsimp only at hS9); go_simp <;> with_reducible rfl)
        try simp only [List.getElem_toArray, List.getElem_cons_succ, List.getElem_cons_zero, Act.put, List.setIfInBounds_toArray, List.set_cons_zero, List.set_cons_succ]
        refine wpAnyH_take (i := 2) (oi := _) (v := ?_) rfl (by kernel_rfl) (by kernel_rfl) (by kernel_rfl) (fun _ _ _ h => h) (Or.inl ⟨by rfl, ?_⟩) (by assumption) ?_
        rotate_left 1
        · (intro w9 hS9; (try dsimp only at hS9); go_simp <;> with_reducible rfl)
        try simp only [List.getElem_toArray, List.getElem_cons_succ, List.getElem_cons_zero, Act.put, List.setIfInBounds_toArray, List.set_cons_zero, List.set_cons_succ]
        refine wpAnyH_take (i := 3) (oi := _) (v := ?_) rfl (by kernel_rfl) (by kernel_rfl) (by kernel_rfl) (fun _ _ _ h => h) (Or.inl ⟨by rfl, ?_⟩) (by assumption) ?_
        rotate_left 1
        · (intro w9 hS9; (try dsimp only at hS9); go_simp <;> with_reducible rfl)
        try simp only [List.getElem_toArray, List.getElem_cons_succ, List.getElem_cons_zero, Act.put, List.setIfInBounds_toArray, List.set_cons_zero, List.set_cons_succ]
        refine wpAnyH_take (i := 4) (oi := _) (v := ?_) rfl (by kernel_rfl) (by kernel_rfl) (by kernel_rfl) (fun _ _ _ h => h) (Or.inl ⟨by rfl, ?_⟩) (by assumption) ?_
        rotate_left 1
        · (intro w9 hS9; (try dsimp only at hS9); go_simp <;> with_reducible rfl)
        try simp only [List.getElem_toArray, List.getElem_cons_succ, List.getElem_cons_zero, Act.put, List.setIfInBounds_toArray, List.set_cons_zero, List.set_cons_succ]
        refine wpAnyH_take (i := 5) (oi := _) (v := ?_) rfl (by kernel_rfl) (by kernel_rfl) (by kernel_rfl) (fun _ _ _ h => h) (Or.inl ⟨by rfl, ?_⟩) (by assumption) ?_
        rotate_left 1
        · (intro w9 hS9; (try dsimp only at hS9); go_simp <;> with_reducible rfl)
        try simp only [List.getElem_toArray, List.getElem_cons_succ, List.getElem_cons_zero, Act.put, List.setIfInBounds_toArray, List.set_cons_zero, List.set_cons_succ]
        refine wpAnyH_ready (rs := [6, 11]) (by kernel_rfl) (by simp) ?_
        refine AllReadyH.cons (o := _) rfl (fun K hK => ?_) (AllReadyH.cons (o := _) rfl (fun K hK => ?_) AllReadyH.nil)
        · try simp only [List.getElem_toArray, List.getElem_cons_succ, List.getElem_cons_zero]
          go_simp
          refine (Add_nil Aq n c2 eq (i : Nat) t (i : Nat) _ (HEQ.out.drew) (by omega) hq3 (fun e he => by have := hq4 e he; omega)).mono ?_
          rintro e wa ⟨hba, va, rfl, hva⟩
          rw [HQ2.out, HST.out] at hva ⊢
          dsimp only at hva ⊢
          rw [show ((i + 1 : Nat) : Int) = (i : Int) + 1 from rfl] at hva
          obtain ⟨Aa, na, ca, rfl⟩ := hva.cells
          have hwa : Below wr.heap.size wr wa := (Below.refl _ wr).drew.trans hba
          have hsa := hwa.size
          go_wp2_with fail
          refine hK.out _ _ ⟨(hwa.cell (p := ⟨w.heap.size + 1, 0, none⟩) (by dsimp only; omega)).trans z0, (hwa.cell (p := ⟨w.heap.size + 1, 1, none⟩) (by dsimp only; omega)).trans z1, (hwa.cell (p := ⟨b, off + i, none⟩) (by dsimp only; omega)).trans e0⟩ (fun hHeld => ?_)
          clear hK K
          try simp only [List.getElem_toArray, List.getElem_cons_succ, List.getElem_cons_zero, Act.put, List.setIfInBounds_toArray, List.set_cons_zero, List.set_cons_succ]
          refine wpAnyH_take (i := 7) (oi := _) (v := ?_) rfl (by kernel_rfl) (by kernel_rfl) (by kernel_rfl) (fun _ _ _ h => h) (Or.inl ⟨by rfl, ?_⟩) (by assumption) ?_
          rotate_left 1
          · (intro w9 hS9; (try dsimp only at hS9); go_simp <;> with_reducible rfl)
          try simp only [List.getElem_toArray, List.getElem_cons_succ, List.getElem_cons_zero, Act.put, List.setIfInBounds_toArray, List.set_cons_zero, List.set_cons_succ]
          refine wpAnyH_take (i := 8) (oi := _) (v := ?_) rfl (by kernel_rfl) (by kernel_rfl) (by kernel_rfl) (fun _ _ _ h => h) (Or.inl ⟨by rfl, ?_⟩) (by assumption) ?_
          rotate_left 1
          · (intro w9 hS9; (try dsimp only at hS9); go_simp <;> with_reducible rfl)
          try simp only [List.getElem_toArray, List.getElem_cons_succ, List.getElem_cons_zero, Act.put, List.setIfInBounds_toArray, List.set_cons_zero, List.set_cons_succ]
          refine wpAnyH_take (i := 9) (oi := _) (v := ?_) rfl (by kernel_rfl) (by kernel_rfl) (by kernel_rfl) (fun _ _ _ h => h) (Or.inl ⟨by rfl, ?_⟩) (by assumption) ?_
          rotate_left 1
          · (intro w9 hS9; (try dsimp only at hS9); go_simp <;> with_reducible rfl)
          try simp only [List.getElem_toArray, List.getElem_cons_succ, List.getElem_cons_zero, Act.put, List.setIfInBounds_toArray, List.set_cons_zero, List.set_cons_succ]
          refine wpAnyH_take (i := 10) (oi := _) (v := ?_) rfl (by kernel_rfl) (by kernel_rfl) (by kernel_rfl) (fun _ _ _ h => h) (Or.inl ⟨by rfl, ?_⟩) (by assumption) ?_
          rotate_left 1
          · (intro w9 hS9; (try dsimp only at hS9); go_simp <;> with_reducible rfl)
          try simp only [List.getElem_toArray, List.getElem_cons_succ, List.getElem_cons_zero, Act.put, List.setIfInBounds_toArray, List.set_cons_zero, List.set_cons_succ]
          refine wpAnyH_ready (rs := [11]) (by kernel_rfl) (by simp) ?_
          refine AllReadyH.cons (o := _) rfl (fun K hK => ?_) AllReadyH.nil
          try simp only [List.getElem_toArray, List.getElem_cons_succ, List.getElem_cons_zero]
          go_simp
          have hB4 : Blk (wa.alloc (.cells #[.slice none 0 0, .int .i64 0] 24)) wa.heap.size 24 #[.slice none 0 0, .int .i64 0] := Blk.new wa 24 #[.slice none 0 0, .int .i64 0]
          have HBK := Lib.hid hB4
          have hwv : Below wr.heap.size wr (wa.alloc (.cells #[.slice none 0 0, .int .i64 0] 24)) := hwa.alloc hwa.size _
          have HQA := Lib.hid (hva.up ((Below.refl _ wa).alloc (Nat.le_refl _) (.cells #[.slice none 0 0, .int .i64 0] 24)))
          have hsv : (wa.alloc (.cells #[.slice none 0 0, .int .i64 0] 24)).heap.size = wa.heap.size + 1 := by simp
          refine hK.out _ _ ⟨(hwv.cell (p := ⟨w.heap.size + 1, 0, none⟩) (by dsimp only; omega)).trans z0, (hwv.cell (p := ⟨w.heap.size + 1, 1, none⟩) (by dsimp only; omega)).trans z1, (hwv.cell (p := ⟨b, off + i, none⟩) (by dsimp only; omega)).trans e0⟩ (fun hHeld => ?_)
          clear hK K
          try simp only [List.getElem_toArray, List.getElem_cons_succ, List.getElem_cons_zero, Act.put, List.setIfInBounds_toArray, List.set_cons_zero, List.set_cons_succ]
          generalize (wa.alloc (.cells #[.slice none 0 0, .int .i64 0] 24)) = wv at *
          refine wpAnyH_ready (rs := [12]) (by kernel_rfl) (by simp) ?_
          refine AllReadyH.cons (o := _) rfl (fun K hK => ?_) AllReadyH.nil
          try simp only [List.getElem_toArray, List.getElem_cons_succ, List.getElem_cons_zero]
          rw [if_pos (show Region.wanted _ _ = true from rfl)]
          refine wp_store_row 24 _ _ (by rfl) wa.heap.size #[.slice Aa na ca, .int .i64 ((i : Int) + 1)] (by rfl) (by rfl) 24 _ HBK.out (by kernel_rfl) rfl (by simp [Value.oneCell']) ?_
          refine hK.out _ _ ⟨(World.cell?_of_block (setRow_other _ _ _ _ (by dsimp only; omega))).trans ((hwv.cell (p := ⟨w.heap.size + 1, 0, none⟩) (by dsimp only; omega)).trans z0), (World.cell?_of_block (setRow_other _ _ _ _ (by dsimp only; omega))).trans ((hwv.cell (p := ⟨w.heap.size + 1, 1, none⟩) (by dsimp only; omega)).trans z1), (World.cell?_of_block (setRow_other _ _ _ _ (by dsimp only; omega))).trans ((hwv.cell (p := ⟨b, off + i, none⟩) (by dsimp only; omega)).trans e0)⟩ (fun hHeld => ?_)
          clear hK K
          try simp only [List.getElem_toArray, List.getElem_cons_succ, List.getElem_cons_zero, Act.put, List.setIfInBounds_toArray, List.set_cons_zero, List.set_cons_succ]
          refine wpAnyH_take (i := 13) (oi := _) (v := ?_) rfl (by kernel_rfl) (by kernel_rfl) (by kernel_rfl) (fun _ _ _ h => h) (Or.inl ⟨by rfl, ?_⟩) (by assumption) ?_
          rotate_left 1
          · (intro w9 hS9; (try dsimp only at hS9); go_simp <;> with_reducible rfl)
          try simp only [List.getElem_toArray, List.getElem_cons_succ, List.getElem_cons_zero, Act.put, List.setIfInBounds_toArray, List.set_cons_zero, List.set_cons_succ]
          refine wpAnyH_done (by kernel_rfl) ?_ _
          refine tailQ_step rfl ?_
          go_wp2_with fail
          refine tailQ_nil (panQ_normal ?_)
          have hq6 := (HQA.out.row_q HBK.out #[.slice Aa na ca, .int .i64 ((i : Int) + 1)])
          have hB5 := HBK.out.setRow #[.slice Aa na ca, .int .i64 ((i : Int) + 1)]
          have hbv : Below wr.heap.size wr wv := hwv
          have hb5 := below_setRow hbv (g := wa.heap.size) (by omega) #[.slice Aa na ca, .int .i64 ((i : Int) + 1)]
          have hs5 := hb5.size
          have H5 := Lib.hid (And.intro hq6 (And.intro hb5 (And.intro (HZ.out.1.below hb5 (by omega)) (HZ.out.2.1.below hb5 (by omega)))))
          have y0 : (wv.setRow wa.heap.size #[.slice Aa na ca, .int .i64 ((i : Int) + 1)]).cell? ⟨wa.heap.size, 0, none⟩ = some (.slice Aa na ca) := hB5.cell 0
          have y1 : (wv.setRow wa.heap.size #[.slice Aa na ca, .int .i64 ((i : Int) + 1)]).cell? ⟨wa.heap.size, 1, none⟩ = some (.int .i64 ((i : Int) + 1)) := hB5.cell 1
          clear hq6 hB5 hbv hb5
          generalize (wv.setRow wa.heap.size #[.slice Aa na ca, .int .i64 ((i : Int) + 1)]) = V6 at *
          go_wp2_with (refine wpList_store_row rfl _ _ _ rfl (w.heap.size + 1) _ rfl rfl 24 _ H5.out.2.2.2 (by kernel_rfl) rfl (by simp [Value.oneCell']) ?_)
          go_roundw
          case rel =>
            refine ⟨i + 1, by omega, by go_num, H5.out.2.2.1.row_far (by omega) _, ⟨Aa, na, ca, H5.out.2.2.2.setRow _, H5.out.1.row_q H5.out.2.2.2 _⟩, below_setRow (HZ.out.2.2.trans (H5.out.2.1.mono HZ.out.2.2.size)) (by omega) _⟩
          case measure => simp [intOf]; omega
        · try simp only [List.getElem_toArray, List.getElem_cons_succ, List.getElem_cons_zero]
          go_simp
          have hB4 : Blk ((wr.alloc (.cells #[.slice none 0 0, .int .i64 0] 24)).drew) wr.heap.size 24 #[.slice none 0 0, .int .i64 0] := (Blk.new wr 24 #[.slice none 0 0, .int .i64 0]).drew
          have hwv : Below wr.heap.size wr ((wr.alloc (.cells #[.slice none 0 0, .int .i64 0] 24)).drew) := ((Below.refl _ wr).alloc (Nat.le_refl _) _).drew
          have hsv : ((wr.alloc (.cells #[.slice none 0 0, .int .i64 0] 24)).drew).heap.size = wr.heap.size + 1 := by simp
          refine hK.out _ _ ⟨(hwv.cell (p := ⟨w.heap.size + 1, 0, none⟩) (by dsimp only; omega)).trans z0, (hwv.cell (p := ⟨w.heap.size + 1, 1, none⟩) (by dsimp only; omega)).trans z1, (hwv.cell (p := ⟨b, off + i, none⟩) (by dsimp only; omega)).trans e0⟩ (fun hHeld => ?_)
          clear hK K
          try simp only [List.getElem_toArray, List.getElem_cons_succ, List.getElem_cons_zero, Act.put, List.setIfInBounds_toArray, List.set_cons_zero, List.set_cons_succ]
          generalize (wr.alloc (.cells #[.slice none 0 0, .int .i64 0] 24)).drew = wv at *
          refine wpAnyH_ready (rs := [6]) (by kernel_rfl) (by simp) ?_
          refine AllReadyH.cons (o := _) rfl (fun K hK => ?_) AllReadyH.nil
          try simp only [List.getElem_toArray, List.getElem_cons_succ, List.getElem_cons_zero]
          go_simp
          refine (Add_nil Aq n c2 eq (i : Nat) t (i : Nat) _ (HEQ.out.up hwv) (by omega) hq3 (fun e he => by have := hq4 e he; omega)).mono ?_
          rintro e wa ⟨hba, va, rfl, hva⟩
          rw [HQ2.out, HST.out] at hva ⊢
          dsimp only at hva ⊢
          rw [show ((i + 1 : Nat) : Int) = (i : Int) + 1 from rfl] at hva
          obtain ⟨Aa, na, ca, rfl⟩ := hva.cells
          have hwa : Below wr.heap.size wr wa := hwv.trans (hba.mono hwv.size)
          have hsa := hwa.size
          go_wp2_with fail
          refine hK.out _ _ ⟨(hwa.cell (p := ⟨w.heap.size + 1, 0, none⟩) (by dsimp only; omega)).trans z0, (hwa.cell (p := ⟨w.heap.size + 1, 1, none⟩) (by dsimp only; omega)).trans z1, (hwa.cell (p := ⟨b, off + i, none⟩) (by dsimp only; omega)).trans e0⟩ (fun hHeld => ?_)
          clear hK K
          try simp only [List.getElem_toArray, List.getElem_cons_succ, List.getElem_cons_zero, Act.put, List.setIfInBounds_toArray, List.set_cons_zero, List.set_cons_succ]
          refine wpAnyH_take (i := 7) (oi := _) (v := ?_) rfl (by kernel_rfl) (by kernel_rfl) (by kernel_rfl) (fun _ _ _ h => h) (Or.inl ⟨by rfl, ?_⟩) (by assumption) ?_
          rotate_left 1
          · (intro w9 hS9; (try dsimp only at hS9); go_simp <;> with_reducible rfl)
          try simp only [List.getElem_toArray, List.getElem_cons_succ, List.getElem_cons_zero, Act.put, List.setIfInBounds_toArray, List.set_cons_zero, List.set_cons_succ]
          refine wpAnyH_take (i := 8) (oi := _) (v := ?_) rfl (by kernel_rfl) (by kernel_rfl) (by kernel_rfl) (fun _ _ _ h => h) (Or.inl ⟨by rfl, ?_⟩) (by assumption) ?_
          rotate_left 1
          · (intro w9 hS9; (try dsimp only at hS9); go_simp <;> with_reducible rfl)
          try simp only [List.getElem_toArray, List.getElem_cons_succ, List.getElem_cons_zero, Act.put, List.setIfInBounds_toArray, List.set_cons_zero, List.set_cons_succ]
          refine wpAnyH_take (i := 9) (oi := _) (v := ?_) rfl (by kernel_rfl) (by kernel_rfl) (by kernel_rfl) (fun _ _ _ h => h) (Or.inl ⟨by rfl, ?_⟩) (by assumption) ?_
          rotate_left 1
          · (intro w9 hS9; (try dsimp only at hS9); go_simp <;> with_reducible rfl)
          try simp only [List.getElem_toArray, List.getElem_cons_succ, List.getElem_cons_zero, Act.put, List.setIfInBounds_toArray, List.set_cons_zero, List.set_cons_succ]
          refine wpAnyH_take (i := 10) (oi := _) (v := ?_) rfl (by kernel_rfl) (by kernel_rfl) (by kernel_rfl) (fun _ _ _ h => h) (Or.inl ⟨by rfl, ?_⟩) (by assumption) ?_
          rotate_left 1
          · (intro w9 hS9; (try dsimp only at hS9); go_simp <;> with_reducible rfl)
          try simp only [List.getElem_toArray, List.getElem_cons_succ, List.getElem_cons_zero, Act.put, List.setIfInBounds_toArray, List.set_cons_zero, List.set_cons_succ]
          have HBK := Lib.hid (hB4.below hba (by omega))
          have HQA := Lib.hid hva
          refine wpAnyH_ready (rs := [12]) (by kernel_rfl) (by simp) ?_
          refine AllReadyH.cons (o := _) rfl (fun K hK => ?_) AllReadyH.nil
          try simp only [List.getElem_toArray, List.getElem_cons_succ, List.getElem_cons_zero]
          rw [if_pos (show Region.wanted _ _ = true from rfl)]
          refine wp_store_row 24 _ _ (by rfl) wr.heap.size #[.slice Aa na ca, .int .i64 ((i : Int) + 1)] (by rfl) (by rfl) 24 _ HBK.out (by kernel_rfl) rfl (by simp [Value.oneCell']) ?_
          refine hK.out _ _ ⟨(World.cell?_of_block (setRow_other _ _ _ _ (by dsimp only; omega))).trans ((hwa.cell (p := ⟨w.heap.size + 1, 0, none⟩) (by dsimp only; omega)).trans z0), (World.cell?_of_block (setRow_other _ _ _ _ (by dsimp only; omega))).trans ((hwa.cell (p := ⟨w.heap.size + 1, 1, none⟩) (by dsimp only; omega)).trans z1), (World.cell?_of_block (setRow_other _ _ _ _ (by dsimp only; omega))).trans ((hwa.cell (p := ⟨b, off + i, none⟩) (by dsimp only; omega)).trans e0)⟩ (fun hHeld => ?_)
          clear hK K
          try simp only [List.getElem_toArray, List.getElem_cons_succ, List.getElem_cons_zero, Act.put, List.setIfInBounds_toArray, List.set_cons_zero, List.set_cons_succ]
          refine wpAnyH_take (i := 13) (oi := _) (v := ?_) rfl (by kernel_rfl) (by kernel_rfl) (by kernel_rfl) (fun _ _ _ h => h) (Or.inl ⟨by rfl, ?_⟩) (by assumption) ?_
          rotate_left 1
          · (intro w9 hS9; (try dsimp only at hS9); go_simp <;> with_reducible rfl)
          try simp only [List.getElem_toArray, List.getElem_cons_succ, List.getElem_cons_zero, Act.put, List.setIfInBounds_toArray, List.set_cons_zero, List.set_cons_succ]
          refine wpAnyH_done (by kernel_rfl) ?_ _
          refine tailQ_step rfl ?_
          go_wp2_with fail
          refine tailQ_nil (panQ_normal ?_)
          have hq6 := (HQA.out.row_q HBK.out #[.slice Aa na ca, .int .i64 ((i : Int) + 1)])
          have hB5 := HBK.out.setRow #[.slice Aa na ca, .int .i64 ((i : Int) + 1)]
          have hbv : Below wr.heap.size wr wa := hwa
          have hb5 := below_setRow hbv (g := wr.heap.size) (by omega) #[.slice Aa na ca, .int .i64 ((i : Int) + 1)]
          have hs5 := hb5.size
          have H5 := Lib.hid (And.intro hq6 (And.intro hb5 (And.intro (HZ.out.1.below hb5 (by omega)) (HZ.out.2.1.below hb5 (by omega)))))
          have y0 : (wa.setRow wr.heap.size #[.slice Aa na ca, .int .i64 ((i : Int) + 1)]).cell? ⟨wr.heap.size, 0, none⟩ = some (.slice Aa na ca) := hB5.cell 0
          have y1 : (wa.setRow wr.heap.size #[.slice Aa na ca, .int .i64 ((i : Int) + 1)]).cell? ⟨wr.heap.size, 1, none⟩ = some (.int .i64 ((i : Int) + 1)) := hB5.cell 1
          clear hq6 hB5 hbv hb5
          generalize (wa.setRow wr.heap.size #[.slice Aa na ca, .int .i64 ((i : Int) + 1)]) = V6 at *
          go_wp2_with (refine wpList_store_row rfl _ _ _ rfl (w.heap.size + 1) _ rfl rfl 24 _ H5.out.2.2.2 (by kernel_rfl) rfl (by simp [Value.oneCell']) ?_)
          go_roundw
          case rel =>
            refine ⟨i + 1, by omega, by go_num, H5.out.2.2.1.row_far (by omega) _, ⟨Aa, na, ca, H5.out.2.2.2.setRow _, H5.out.1.row_q H5.out.2.2.2 _⟩, below_setRow (HZ.out.2.2.trans (H5.out.2.1.mono HZ.out.2.2.size)) (by omega) _⟩
          case measure => simp [intOf]; omega
    · have hi1 : ¬ (i : Int) < m := by omega
      go_wp2_with (refine wpList_store_row rfl _ _ _ rfl w.heap.size _ rfl rfl 24 _ HZ.out.1 (by kernel_rfl) rfl (by simp [Value.oneCell']) ?_)
      refine bodyPost_ret (results_cell_tmp (t := 24) rfl _ _ w.heap.size _ _ rfl (HZ.out.1.setRow _) Try.underlying24 rfl (by kernel_rfl)) rfl ?_
      obtain rfl : i = m := by omega
      have hl := HX.out.2.1
      refine ⟨below_setRow HZ.out.2.2 (Nat.le_refl _) _, _, rfl, ?_⟩
      rw [hl]
      exact HQV.out.row_q HZ.out.1 _
end Go.Proofs.Ytknedclejhiegaa
