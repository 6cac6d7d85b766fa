/- The walk of awake. No condition. -/
import Derived.Test.YtjaoppopfeonhaaWq
namespace Go.Proofs.Ytjaoppopfeonhaa
open Go.RowKit
theorem mod4' : (delivM ⟨1, 3, 4, false, 13, 3, [⟨14, 1, [7]⟩, ⟨15, 0, [1, 2, 3, 4, 5, 6]⟩, ⟨15, 2, [7]⟩]⟩ 15).1 = ⟨1, 3, 4, false, 13, 3, []⟩ := by rfl
theorem send_len {es : List Ev} {fl : List Em} (h : es.map Ev.em = fl) {b : Nat} (hb : ∀ e ∈ fl, e.p.length ≤ b) : ∀ e ∈ es, e.p.length ≤ b := fun e he => hb e.em (by rw [← h]; exact List.mem_map_of_mem he)
set_option linter.unusedSimpArgs false in
set_option maxRecDepth 100000 in
set_option maxHeartbeats 400000 in
theorem awake_any (w : World) : Calls Try.prog 12 #[] w fun e w' => e = .returned (.bool true) ∧ Below w.heap.size w w' := by
  go_enter Try.func12, Try.ntmps12
  go_wp2_with fail
  refine (New_any 1 3 4 w).mono ?_
  rintro e w1 ⟨rfl, hb1⟩
  rw [modN, cfgN]
  have hs1 := hb1.size
  unfold lkC
  go_upto_region 2 with fail
  have g1 := Blk.new w1 26 #[.int .i64 1, .int .i64 3, .int .i64 4, .bool false, .int .i64 0, .int .i64 0, .slice none 0 0]
  have hbA : Below w.heap.size w (w1.alloc (.cells #[.int .i64 1, .int .i64 3, .int .i64 4, .bool false, .int .i64 0, .int .i64 0, .slice none 0 0] 26)) := hb1.alloc hb1.size _
  have hsA : (w1.alloc (.cells #[.int .i64 1, .int .i64 3, .int .i64 4, .bool false, .int .i64 0, .int .i64 0, .slice none 0 0] 26)).heap.size = w1.heap.size + 1 := by simp
  generalize (w1.alloc (.cells #[.int .i64 1, .int .i64 3, .int .i64 4, .bool false, .int .i64 0, .int .i64 0, .slice none 0 0] 26)) = WA at *
  have a0 : WA.cell? ⟨w1.heap.size, 0, none⟩ = some (.int .i64 1) := g1.cell 0
  have a1 : WA.cell? ⟨w1.heap.size, 1, none⟩ = some (.int .i64 3) := g1.cell 1
  have a2 : WA.cell? ⟨w1.heap.size, 2, none⟩ = some (.int .i64 4) := g1.cell 2
  have a3 : WA.cell? ⟨w1.heap.size, 3, none⟩ = some (.bool false) := g1.cell 3
  have a4 : WA.cell? ⟨w1.heap.size, 4, none⟩ = some (.int .i64 0) := g1.cell 4
  have a5 : WA.cell? ⟨w1.heap.size, 5, none⟩ = some (.int .i64 0) := g1.cell 5
  have a6 : WA.cell? ⟨w1.heap.size, 6, none⟩ = some (.slice none 0 0) := g1.cell 6
  have rB := (u8s_new WA [1, 2, 3, 4, 5, 6]).up ((Below.refl _ _).alloc (Nat.le_refl _) (.cells #[.int .i64 0, .int .i64 2] 3))
  have rC := i64s_new (WA.alloc (.cells #[.int .u8 1, .int .u8 2, .int .u8 3, .int .u8 4, .int .u8 5, .int .u8 6] 5)) [0, 2]
  have hbB : Below WA.heap.size WA ((WA.alloc (.cells #[.int .u8 1, .int .u8 2, .int .u8 3, .int .u8 4, .int .u8 5, .int .u8 6] 5)).alloc (.cells #[.int .i64 0, .int .i64 2] 3)) := ((Below.refl _ _).alloc (Nat.le_refl _) _).alloc (by simp) _
  have rB' : Reads ((WA.alloc (.cells #[.int .u8 1, .int .u8 2, .int .u8 3, .int .u8 4, .int .u8 5, .int .u8 6] 5)).alloc (.cells #[.int .i64 0, .int .i64 2] 3)) ((WA.alloc (.cells #[.int .u8 1, .int .u8 2, .int .u8 3, .int .u8 4, .int .u8 5, .int .u8 6] 5)).alloc (.cells #[.int .i64 0, .int .i64 2] 3)).heap.size 1 (some ⟨WA.heap.size, 0, none⟩) 6 (u8s [1, 2, 3, 4, 5, 6]) := rB
  have rC' : Reads ((WA.alloc (.cells #[.int .u8 1, .int .u8 2, .int .u8 3, .int .u8 4, .int .u8 5, .int .u8 6] 5)).alloc (.cells #[.int .i64 0, .int .i64 2] 3)) ((WA.alloc (.cells #[.int .u8 1, .int .u8 2, .int .u8 3, .int .u8 4, .int .u8 5, .int .u8 6] 5)).alloc (.cells #[.int .i64 0, .int .i64 2] 3)).heap.size 1 (some ⟨WA.heap.size + 1, 0, none⟩) 2 (i64s [0, 2]) := by have h := rC; simp only [World.size_alloc] at h ⊢; exact h
  clear rB rC
  have HA := Lib.hid (And.intro hbA (And.intro g1 hsA))
  have hsA' : w1.heap.size + 1 ≤ WA.heap.size := by omega
  have HB := Lib.hid (And.intro hbB (And.intro rB' rC'))
  clear hbA g1 hbB rB' rC' hb1 hsA
  go_wp2_with fail
  generalize ((WA.alloc (.cells #[.int .u8 1, .int .u8 2, .int .u8 3, .int .u8 4, .int .u8 5, .int .u8 6] 5)).alloc (.cells #[.int .i64 0, .int .i64 2] 3)) = WB at *
  have hsB := HB.out.1.size
  refine (Send_any 1 3 4 false 0 0 none 0 0 [] 10 (some ⟨WA.heap.size, 0, none⟩) 6 [1, 2, 3, 4, 5, 6] (some ⟨WA.heap.size + 1, 0, none⟩) 2 [0, 2] WB ⟨⟨rfl, fun h => absurd h (by omega)⟩, nofun⟩ (by omega) (by omega) HB.out.2.1 (by decide) HB.out.2.2 (by decide) nofun).mono ?_
  rintro e w2 ⟨hb2, hv2⟩
  rw [show (List.map Ev.em []) = ([] : List Em) from rfl, mod1] at hv2
  obtain ⟨v2, es2, A2, c2, rfl, hE2, hm2, hN2, _, _, _⟩ := hv2
  obtain ⟨B2, d2, rfl⟩ := hE2.form
  have hl2 : es2.length = 1 := by have := congrArg List.length hm2; simpa using this
  rw [hl2] at hE2 ⊢
  unfold lkV
  dsimp only
  have hs2 := hb2.size
  have g2 : Blk w2 w1.heap.size 26 #[.int .i64 1, .int .i64 3, .int .i64 4, .bool false, .int .i64 0, .int .i64 0, .slice none 0 0] := (HA.out.2.1.below HB.out.1 (by omega)).below hb2 (by omega)
  have hbw2 : Below w.heap.size w w2 := HA.out.1.trans ((HB.out.1.trans (hb2.mono HB.out.1.size)).mono HA.out.1.size)
  have H2 := Lib.hid (And.intro hbw2 (And.intro g2 (And.intro hE2 (And.intro hm2 (And.intro hN2 hl2)))))
  clear hbw2 g2 hE2 hm2 hN2 hl2 hb2 a0 a1 a2 a3 a4 a5 a6
  go_upto_region 3 with (refine wpList_store_row rfl _ _ _ rfl w1.heap.size _ rfl rfl 26 _ H2.out.2.1 (by kernel_rfl) rfl (by simp [Value.oneCell']) ?_)
  have gr2 : Blk (w2.setRow w1.heap.size #[.int .i64 1, .int .i64 3, .int .i64 4, .bool false, .int .i64 12, .int .i64 1, .slice B2 1 d2]) w1.heap.size 26 #[.int .i64 1, .int .i64 3, .int .i64 4, .bool false, .int .i64 12, .int .i64 1, .slice B2 1 d2] := H2.out.2.1.setRow _
  have hEr2 : OwnE (w2.setRow w1.heap.size #[.int .i64 1, .int .i64 3, .int .i64 4, .bool false, .int .i64 12, .int .i64 1, .slice B2 1 d2]) WB.heap.size (.slice B2 1 d2) es2 := H2.out.2.2.1.keepN H2.out.2.2.2.2.1 (fun g hg _ => setRow_other _ _ _ _ (by omega)) (by simp)
  have hbr2 : Below w.heap.size w (w2.setRow w1.heap.size #[.int .i64 1, .int .i64 3, .int .i64 4, .bool false, .int .i64 12, .int .i64 1, .slice B2 1 d2]) := below_setRow H2.out.1 (by omega) _
  have hsr2 : (w2.setRow w1.heap.size #[.int .i64 1, .int .i64 3, .int .i64 4, .bool false, .int .i64 12, .int .i64 1, .slice B2 1 d2]).heap.size = w2.heap.size := by simp
  have hev2 := hEr2.evs
  have hR2 := Lib.hid (And.intro hbr2 (And.intro gr2 (And.intro hEr2 hev2)))
  have hszr2 : w2.heap.size ≤ (w2.setRow w1.heap.size #[.int .i64 1, .int .i64 3, .int .i64 4, .bool false, .int .i64 12, .int .i64 1, .slice B2 1 d2]).heap.size := by omega
  clear hsr2
  generalize (w2.setRow w1.heap.size #[.int .i64 1, .int .i64 3, .int .i64 4, .bool false, .int .i64 12, .int .i64 1, .slice B2 1 d2]) = V2 at *
  have a0 : V2.cell? ⟨w1.heap.size, 0, none⟩ = some (.int .i64 1) := gr2.cell 0
  have a1 : V2.cell? ⟨w1.heap.size, 1, none⟩ = some (.int .i64 3) := gr2.cell 1
  have a2 : V2.cell? ⟨w1.heap.size, 2, none⟩ = some (.int .i64 4) := gr2.cell 2
  have a3 : V2.cell? ⟨w1.heap.size, 3, none⟩ = some (.bool false) := gr2.cell 3
  have a4 : V2.cell? ⟨w1.heap.size, 4, none⟩ = some (.int .i64 12) := gr2.cell 4
  have a5 : V2.cell? ⟨w1.heap.size, 5, none⟩ = some (.int .i64 1) := gr2.cell 5
  have a6 : V2.cell? ⟨w1.heap.size, 6, none⟩ = some (.slice B2 1 d2) := gr2.cell 6
  obtain ⟨b2, off2, hB2, hb2l, hc2⟩ := hev2.1.cells (by omega)
  obtain ⟨e2, he2⟩ : ∃ e2, es2 = [e2] := List.length_eq_one_iff.1 H2.out.2.2.2.2.2
  have hc20 := hc2 0 e2 (by rw [he2]; rfl)
  have hem2 : e2.em = ⟨15, 0, [1, 2, 3, 4, 5, 6]⟩ := by have := H2.out.2.2.2.1; rw [he2] at this; simpa using this
  have ht2 : e2.t = 15 := congrArg Em.t hem2
  rw [ht2] at hc20
  obtain ⟨f0, _, _⟩ := hc20
  have f0' : V2.cell? ⟨b2, off2, none⟩ = some (.int .i64 15) := by simpa using f0
  have HS2 := Lib.hid (And.intro hB2 he2)
  clear hc2 he2 hem2 ht2 f0 hev2 gr2 hEr2 hbr2
  subst hB2
  have rB2 : Reads ((V2.alloc (.cells #[.int .u8 7] 5)).alloc (.cells #[.int .i64 2, .int .i64 0, .int .i64 1] 3)) ((V2.alloc (.cells #[.int .u8 7] 5)).alloc (.cells #[.int .i64 2, .int .i64 0, .int .i64 1] 3)).heap.size 1 (some ⟨V2.heap.size, 0, none⟩) 1 (u8s [7]) := (u8s_new V2 [7]).up ((Below.refl _ _).alloc (Nat.le_refl _) (.cells #[.int .i64 2, .int .i64 0, .int .i64 1] 3))
  have rC2 : Reads ((V2.alloc (.cells #[.int .u8 7] 5)).alloc (.cells #[.int .i64 2, .int .i64 0, .int .i64 1] 3)) ((V2.alloc (.cells #[.int .u8 7] 5)).alloc (.cells #[.int .i64 2, .int .i64 0, .int .i64 1] 3)).heap.size 1 (some ⟨V2.heap.size + 1, 0, none⟩) 3 (i64s [2, 0, 1]) := by have h := i64s_new (V2.alloc (.cells #[.int .u8 7] 5)) [2, 0, 1]; simp only [World.size_alloc] at h ⊢; exact h
  have hbB2 : Below V2.heap.size V2 ((V2.alloc (.cells #[.int .u8 7] 5)).alloc (.cells #[.int .i64 2, .int .i64 0, .int .i64 1] 3)) := ((Below.refl _ _).alloc (Nat.le_refl _) _).alloc (by simp) _
  have HB2 := Lib.hid (And.intro hbB2 (And.intro rB2 rC2))
  clear hbB2 rB2 rC2
  go_wp2_with fail
  generalize ((V2.alloc (.cells #[.int .u8 7] 5)).alloc (.cells #[.int .i64 2, .int .i64 0, .int .i64 1] 3)) = WC at *
  have hsC := HB2.out.1.size
  have hE3 := hR2.out.2.2.2.1.up HB2.out.1
  refine (Send_any 1 3 4 false 12 1 (some ⟨b2, off2, none⟩) 1 d2 es2 10 (some ⟨V2.heap.size, 0, none⟩) 1 [7] (some ⟨V2.heap.size + 1, 0, none⟩) 3 [2, 0, 1] WC hE3 (by omega) hR2.out.2.2.2.2.2.1 HB2.out.2.1 (by decide) HB2.out.2.2 (by decide) (send_len (b := 100000) H2.out.2.2.2.1 (by decide))).mono ?_
  rintro e w3 ⟨hb3, hv3⟩
  rw [H2.out.2.2.2.1, mod2] at hv3
  obtain ⟨v3, es3, A3, c3, rfl, hE3', hm3, hN3, _, _, _⟩ := hv3
  obtain ⟨B3, d3, rfl⟩ := hE3'.form
  have hl3 : es3.length = 3 := by have := congrArg List.length hm3; simpa using this
  rw [hl3] at hE3' ⊢
  unfold lkV
  dsimp only
  have hs3 := hb3.size
  have g3 : Blk w3 w1.heap.size 26 #[.int .i64 1, .int .i64 3, .int .i64 4, .bool false, .int .i64 12, .int .i64 1, .slice (some ⟨b2, off2, none⟩) 1 d2] := (hR2.out.2.1.below HB2.out.1 (by omega)).below hb3 (by omega)
  have hbw3 : Below w.heap.size w w3 := hR2.out.1.trans ((HB2.out.1.trans (hb3.mono HB2.out.1.size)).mono hR2.out.1.size)
  have H3 := Lib.hid (And.intro hbw3 (And.intro g3 (And.intro hE3' (And.intro hm3 (And.intro hN3 hl3)))))
  clear hbw3 g3 hE3' hm3 hN3 hl3 hb3 hE3 a0 a1 a2 a3 a4 a5 a6 f0'
  go_upto_region 6 with (refine wpList_store_row rfl _ _ _ rfl w1.heap.size _ rfl rfl 26 _ H3.out.2.1 (by kernel_rfl) rfl (by simp [Value.oneCell']) ?_)
  have gr3 : Blk (w3.setRow w1.heap.size #[.int .i64 1, .int .i64 3, .int .i64 4, .bool false, .int .i64 13, .int .i64 3, .slice B3 3 d3]) w1.heap.size 26 #[.int .i64 1, .int .i64 3, .int .i64 4, .bool false, .int .i64 13, .int .i64 3, .slice B3 3 d3] := H3.out.2.1.setRow _
  have hEr3 : OwnE (w3.setRow w1.heap.size #[.int .i64 1, .int .i64 3, .int .i64 4, .bool false, .int .i64 13, .int .i64 3, .slice B3 3 d3]) WC.heap.size (.slice B3 3 d3) es3 := H3.out.2.2.1.keepN H3.out.2.2.2.2.1 (fun g hg _ => setRow_other _ _ _ _ (by omega)) (by simp)
  have hbr3 : Below w.heap.size w (w3.setRow w1.heap.size #[.int .i64 1, .int .i64 3, .int .i64 4, .bool false, .int .i64 13, .int .i64 3, .slice B3 3 d3]) := below_setRow H3.out.1 (by omega) _
  have hsr3 : (w3.setRow w1.heap.size #[.int .i64 1, .int .i64 3, .int .i64 4, .bool false, .int .i64 13, .int .i64 3, .slice B3 3 d3]).heap.size = w3.heap.size := by simp
  have hev3 := hEr3.evs
  have hR3 := Lib.hid (And.intro hbr3 (And.intro gr3 (And.intro hEr3 hev3)))
  have hszr3 : w3.heap.size ≤ (w3.setRow w1.heap.size #[.int .i64 1, .int .i64 3, .int .i64 4, .bool false, .int .i64 13, .int .i64 3, .slice B3 3 d3]).heap.size := by omega
  clear hsr3
  generalize (w3.setRow w1.heap.size #[.int .i64 1, .int .i64 3, .int .i64 4, .bool false, .int .i64 13, .int .i64 3, .slice B3 3 d3]) = V3 at *
  have a0 : V3.cell? ⟨w1.heap.size, 0, none⟩ = some (.int .i64 1) := gr3.cell 0
  have a1 : V3.cell? ⟨w1.heap.size, 1, none⟩ = some (.int .i64 3) := gr3.cell 1
  have a2 : V3.cell? ⟨w1.heap.size, 2, none⟩ = some (.int .i64 4) := gr3.cell 2
  have a3 : V3.cell? ⟨w1.heap.size, 3, none⟩ = some (.bool false) := gr3.cell 3
  have a4 : V3.cell? ⟨w1.heap.size, 4, none⟩ = some (.int .i64 13) := gr3.cell 4
  have a5 : V3.cell? ⟨w1.heap.size, 5, none⟩ = some (.int .i64 3) := gr3.cell 5
  have a6 : V3.cell? ⟨w1.heap.size, 6, none⟩ = some (.slice B3 3 d3) := gr3.cell 6
  obtain ⟨b3, off3, hB3, hb3l, hc3⟩ := hev3.1.cells (by omega)
  have hl3 := H3.out.2.2.2.2.2
  have hx0 := hc3 0 es3[0] (by rw [List.getElem?_eq_getElem (by omega)])
  have hx2 := hc3 2 es3[2] (by rw [List.getElem?_eq_getElem (by omega)])
  have hm0 : es3[0].em = ⟨14, 1, [7]⟩ := by have h := congrArg (fun x => x[0]?) H3.out.2.2.2.1; simpa [List.getElem?_eq_getElem (l := es3) (i := 0) (by omega)] using h
  have hm2 : es3[2].em = ⟨15, 2, [7]⟩ := by have h := congrArg (fun x => x[2]?) H3.out.2.2.2.1; simpa [List.getElem?_eq_getElem (l := es3) (i := 2) (by omega)] using h
  have ht0 : es3[0].t = 14 := congrArg Em.t hm0
  have hn2 : es3[2].n = 2 := congrArg Em.n hm2
  have f0 : V3.cell? ⟨b3, off3, none⟩ = some (.int .i64 14) := by have h := hx0.1; rw [ht0] at h; simpa using h
  have f7 : V3.cell? ⟨b3, off3 + 6 + 1, none⟩ = some (.int .i64 2) := by have h := hx2.2.1; rw [hn2] at h; simpa using h
  have f7' : V3.cell? ⟨b3, off3 + 7, none⟩ = some (.int .i64 2) := f7
  clear hx0 hx2 hm0 hm2 ht0 hn2 hc3 hev3 gr3 hEr3 hbr3 hl3
  subst hB3
  have rC3 : Reads (V3.alloc (.cells #[.int .i64 1, .int .i64 7] 3)) (V3.alloc (.cells #[.int .i64 1, .int .i64 7] 3)).heap.size 1 (some ⟨V3.heap.size, 0, none⟩) 2 (i64s [1, 7]) := i64s_new V3 [1, 7]
  have hbB3 : Below V3.heap.size V3 (V3.alloc (.cells #[.int .i64 1, .int .i64 7] 3)) := (Below.refl _ _).alloc (Nat.le_refl _) _
  have HB3 := Lib.hid (And.intro hbB3 rC3)
  clear hbB3 rC3
  go_wp2_with fail
  generalize (V3.alloc (.cells #[.int .i64 1, .int .i64 7] 3)) = WD at *
  have hsD := HB3.out.1.size
  have hE4 := hR3.out.2.2.2.1.up HB3.out.1
  refine (Send_any 1 3 4 false 13 3 (some ⟨b3, off3, none⟩) 3 d3 es3 10 none 0 [] (some ⟨V3.heap.size, 0, none⟩) 2 [1, 7] WD hE4 (by omega) hR3.out.2.2.2.2.2.1 ⟨rfl, fun h => absurd h (by simp)⟩ (by decide) HB3.out.2 (by decide) (send_len (b := 100000) H3.out.2.2.2.1 (by decide))).mono ?_
  rintro e w4 ⟨hb4, hv4⟩
  rw [H3.out.2.2.2.1, mod3] at hv4
  obtain ⟨v4, es4, A4, c4, rfl, hE4', hm4, hN4, hr4, hca4, hcm4⟩ := hv4
  obtain ⟨B4, d4, rfl⟩ := hE4'.form
  have hl4 : es4.length = 3 := by have := congrArg List.length hm4; simpa using this
  rw [hl4] at hE4' ⊢
  unfold lkV
  dsimp only
  have hs4 := hb4.size
  have hb34 : Below V3.heap.size V3 w4 := HB3.out.1.trans (hb4.mono HB3.out.1.size)
  have g4 := hR3.out.2.1.below hb34 (by omega)
  have hr4' : Reads w4 w4.heap.size 1 A4 1 (i64s [7]) := hr4
  have H4 := Lib.hid (And.intro (hR3.out.1.trans (hb34.mono hR3.out.1.size)) (And.intro g4 (And.intro hb34 hr4')))
  clear hb4 hE4 hE4' hm4 hN4 hl4 hb34 g4 hr4 hr4' a0 a1 a2 a3 a4 a5 a6 f0 f7 f7'
  go_upto_region 9 with fail
  have gm := Blk.new w4 26 #[.int .i64 1, .int .i64 3, .int .i64 4, .bool false, .int .i64 13, .int .i64 3, .slice B4 3 d4]
  have hbm : Below w4.heap.size w4 (w4.alloc (.cells #[.int .i64 1, .int .i64 3, .int .i64 4, .bool false, .int .i64 13, .int .i64 3, .slice B4 3 d4] 26)) := (Below.refl _ _).alloc (Nat.le_refl _) _
  have hsm : w4.heap.size + 1 ≤ (w4.alloc (.cells #[.int .i64 1, .int .i64 3, .int .i64 4, .bool false, .int .i64 13, .int .i64 3, .slice B4 3 d4] 26)).heap.size := by simp
  generalize (w4.alloc (.cells #[.int .i64 1, .int .i64 3, .int .i64 4, .bool false, .int .i64 13, .int .i64 3, .slice B4 3 d4] 26)) = V4 at *
  have r7 := i64s_new V4 [7]
  have hb7 : Below V4.heap.size V4 (V4.alloc (.cells #[.int .i64 7] 3)) := (Below.refl _ _).alloc (Nat.le_refl _) _
  have r7' : Reads (V4.alloc (.cells #[.int .i64 7] 3)) (V4.alloc (.cells #[.int .i64 7] 3)).heap.size 1 (some ⟨V4.heap.size, 0, none⟩) 1 (i64s [7]) := r7
  have H7 := Lib.hid (And.intro hb7 (And.intro r7' (And.intro hbm gm)))
  have hs7 := hb7.size
  clear r7 r7' hb7 hbm gm
  go_wp2_with fail
  generalize (V4.alloc (.cells #[.int .i64 7] 3)) = WE at *
  refine (SameInts_true A4 (some ⟨V4.heap.size, 0, none⟩) 1 c4 1 [7] WE ((H4.out.2.2.2.up H7.out.2.2.1).up H7.out.1) H7.out.2.1 (by omega)).mono ?_
  rintro e w5 ⟨rfl, hb5⟩
  have hs5 := hb5.size
  have hb45 : Below V3.heap.size V3 w5 := H4.out.2.2.1.trans ((H7.out.2.2.1.trans ((H7.out.1.trans (hb5.mono H7.out.1.size)).mono H7.out.2.2.1.size)).mono H4.out.2.2.1.size)
  have gm5 : Blk w5 w4.heap.size 26 #[.int .i64 1, .int .i64 3, .int .i64 4, .bool false, .int .i64 13, .int .i64 3, .slice B4 3 d4] := (H7.out.2.2.2.below H7.out.1 (by omega)).below hb5 (by omega)
  have m6 : w5.cell? ⟨w4.heap.size, 6, none⟩ = some (.slice B4 3 d4) := gm5.cell 6
  have g5 := hR3.out.2.1.below hb45 (by omega)
  have H5 := Lib.hid (And.intro hb45 (And.intro g5 (hR3.out.1.trans (hb45.mono hR3.out.1.size))))
  clear hb5 hb45 gm5
  have a0 : w5.cell? ⟨w1.heap.size, 0, none⟩ = some (.int .i64 1) := g5.cell 0
  have a1 : w5.cell? ⟨w1.heap.size, 1, none⟩ = some (.int .i64 3) := g5.cell 1
  have a2 : w5.cell? ⟨w1.heap.size, 2, none⟩ = some (.int .i64 4) := g5.cell 2
  have a3 : w5.cell? ⟨w1.heap.size, 3, none⟩ = some (.bool false) := g5.cell 3
  have a4 : w5.cell? ⟨w1.heap.size, 4, none⟩ = some (.int .i64 13) := g5.cell 4
  have a5 : w5.cell? ⟨w1.heap.size, 5, none⟩ = some (.int .i64 3) := g5.cell 5
  have a6 : w5.cell? ⟨w1.heap.size, 6, none⟩ = some (.slice (some ⟨b3, off3, none⟩) 3 d3) := g5.cell 6
  clear g5
  go_wp2_with fail
  refine (Deliver_any 1 3 4 false 13 3 (some ⟨b3, off3, none⟩) 3 d3 es3 15 w5 (hR3.out.2.2.2.1.up H5.out.1) (by omega) hR3.out.2.2.2.2.2.1 (send_len (b := 100000) H3.out.2.2.2.1 (by decide))).mono ?_
  rintro e w6 ⟨hb6, v6, u6, rfl, hf6, hp6⟩
  rw [H3.out.2.2.2.1, mod4] at hf6 hp6
  obtain ⟨B6, d6, es6, rfl, _, hm6, _⟩ := hf6.val
  obtain ⟨P6, q6, pl6, rfl, hP6, hpm6, _, _, hPa, hPb⟩ := hp6.val
  have hl6 : es6.length = 0 := by have := congrArg List.length hm6; simpa using this
  have hlp6 : pl6.length = 3 := by have := congrArg List.length hpm6; simpa using this
  rw [hlp6] at hP6 hPa
  have HPF := Lib.hid (And.intro hPa hPb)
  clear hPa hPb
  rw [hl6, hlp6]
  rw [H3.out.2.2.2.1, mod4']
  unfold lkV
  dsimp only
  have hs6 := hb6.size
  have g6 := H5.out.2.1.below hb6 (by omega)
  have hbw6 := H5.out.2.2.trans (hb6.mono H5.out.2.2.size)
  have H6 := Lib.hid (And.intro hbw6 (And.intro g6 (And.intro hP6 hpm6)))
  clear hb6 hf6 hp6 hm6 hP6 hpm6 hl6 hlp6 g6 hbw6 a0 a1 a2 a3 a4 a5 a6 m6
  go_upto_region 12 with (refine wpList_store_row rfl _ _ _ rfl w1.heap.size _ rfl rfl 26 _ H6.out.2.1 (by kernel_rfl) rfl (by simp [Value.oneCell']) ?_)
  have gr6 : Blk (w6.setRow w1.heap.size #[.int .i64 1, .int .i64 3, .int .i64 4, .bool false, .int .i64 13, .int .i64 3, .slice B6 0 d6]) w1.heap.size 26 #[.int .i64 1, .int .i64 3, .int .i64 4, .bool false, .int .i64 13, .int .i64 3, .slice B6 0 d6] := H6.out.2.1.setRow _
  have hp6 : Pls (w6.setRow w1.heap.size #[.int .i64 1, .int .i64 3, .int .i64 4, .bool false, .int .i64 13, .int .i64 3, .slice B6 0 d6]) P6 3 pl6 := ⟨reads_far H6.out.2.2.1.rd HPF.out.1 (fun g hg _ => setRow_other _ _ _ _ (by omega)) (by simp), fun x hx => reads_far (H6.out.2.2.1.pl x hx) (HPF.out.2 x hx) (fun g hg _ => setRow_other _ _ _ _ (by omega)) (by simp)⟩
  have hbr6 : Below w.heap.size w (w6.setRow w1.heap.size #[.int .i64 1, .int .i64 3, .int .i64 4, .bool false, .int .i64 13, .int .i64 3, .slice B6 0 d6]) := below_setRow H6.out.1 (by omega) _
  have hsr6 : (w6.setRow w1.heap.size #[.int .i64 1, .int .i64 3, .int .i64 4, .bool false, .int .i64 13, .int .i64 3, .slice B6 0 d6]).heap.size = w6.heap.size := by simp
  have hR6 := Lib.hid (And.intro hbr6 (And.intro gr6 hp6))
  have hszr6 : w6.heap.size ≤ (w6.setRow w1.heap.size #[.int .i64 1, .int .i64 3, .int .i64 4, .bool false, .int .i64 13, .int .i64 3, .slice B6 0 d6]).heap.size := by omega
  clear hsr6
  generalize (w6.setRow w1.heap.size #[.int .i64 1, .int .i64 3, .int .i64 4, .bool false, .int .i64 13, .int .i64 3, .slice B6 0 d6]) = V6 at *
  have l6 : V6.cell? ⟨w1.heap.size, 6, none⟩ = some (.slice B6 0 d6) := gr6.cell 6
  clear gr6 hp6 hbr6
  have q1 : Below V6.heap.size V6 ((((V6.alloc (.cells #[.int .u8 7] 5)).alloc (.cells #[.int .u8 1, .int .u8 2, .int .u8 3, .int .u8 4, .int .u8 5, .int .u8 6] 5)).alloc (.cells #[.int .u8 7] 5)).alloc (.cells #[.slice (some ⟨V6.heap.size, 0, none⟩) 1 1, .slice (some ⟨V6.heap.size + 1, 0, none⟩) 6 6, .slice (some ⟨V6.heap.size + 2, 0, none⟩) 1 1] 37)) := ((((Below.refl _ _).alloc (Nat.le_refl _) _).alloc (by simp) _).alloc (by simp only [World.size_alloc]; omega) _).alloc (by simp only [World.size_alloc]; omega) _
  have k1 : Blk ((((V6.alloc (.cells #[.int .u8 7] 5)).alloc (.cells #[.int .u8 1, .int .u8 2, .int .u8 3, .int .u8 4, .int .u8 5, .int .u8 6] 5)).alloc (.cells #[.int .u8 7] 5)).alloc (.cells #[.slice (some ⟨V6.heap.size, 0, none⟩) 1 1, .slice (some ⟨V6.heap.size + 1, 0, none⟩) 6 6, .slice (some ⟨V6.heap.size + 2, 0, none⟩) 1 1] 37)) V6.heap.size 5 #[.int .u8 7] := (((Blk.new V6 5 #[.int .u8 7]).alloc _).alloc _).alloc _
  have k2 : Blk ((((V6.alloc (.cells #[.int .u8 7] 5)).alloc (.cells #[.int .u8 1, .int .u8 2, .int .u8 3, .int .u8 4, .int .u8 5, .int .u8 6] 5)).alloc (.cells #[.int .u8 7] 5)).alloc (.cells #[.slice (some ⟨V6.heap.size, 0, none⟩) 1 1, .slice (some ⟨V6.heap.size + 1, 0, none⟩) 6 6, .slice (some ⟨V6.heap.size + 2, 0, none⟩) 1 1] 37)) (V6.alloc (.cells #[.int .u8 7] 5)).heap.size 5 #[.int .u8 1, .int .u8 2, .int .u8 3, .int .u8 4, .int .u8 5, .int .u8 6] := ((Blk.new (V6.alloc (.cells #[.int .u8 7] 5)) 5 #[.int .u8 1, .int .u8 2, .int .u8 3, .int .u8 4, .int .u8 5, .int .u8 6]).alloc _).alloc _
  have k3 : Blk ((((V6.alloc (.cells #[.int .u8 7] 5)).alloc (.cells #[.int .u8 1, .int .u8 2, .int .u8 3, .int .u8 4, .int .u8 5, .int .u8 6] 5)).alloc (.cells #[.int .u8 7] 5)).alloc (.cells #[.slice (some ⟨V6.heap.size, 0, none⟩) 1 1, .slice (some ⟨V6.heap.size + 1, 0, none⟩) 6 6, .slice (some ⟨V6.heap.size + 2, 0, none⟩) 1 1] 37)) ((V6.alloc (.cells #[.int .u8 7] 5)).alloc (.cells #[.int .u8 1, .int .u8 2, .int .u8 3, .int .u8 4, .int .u8 5, .int .u8 6] 5)).heap.size 5 #[.int .u8 7] := (Blk.new ((V6.alloc (.cells #[.int .u8 7] 5)).alloc (.cells #[.int .u8 1, .int .u8 2, .int .u8 3, .int .u8 4, .int .u8 5, .int .u8 6] 5)) 5 #[.int .u8 7]).alloc _
  have k4 : Blk ((((V6.alloc (.cells #[.int .u8 7] 5)).alloc (.cells #[.int .u8 1, .int .u8 2, .int .u8 3, .int .u8 4, .int .u8 5, .int .u8 6] 5)).alloc (.cells #[.int .u8 7] 5)).alloc (.cells #[.slice (some ⟨V6.heap.size, 0, none⟩) 1 1, .slice (some ⟨V6.heap.size + 1, 0, none⟩) 6 6, .slice (some ⟨V6.heap.size + 2, 0, none⟩) 1 1] 37)) (((V6.alloc (.cells #[.int .u8 7] 5)).alloc (.cells #[.int .u8 1, .int .u8 2, .int .u8 3, .int .u8 4, .int .u8 5, .int .u8 6] 5)).alloc (.cells #[.int .u8 7] 5)).heap.size 37 #[.slice (some ⟨V6.heap.size, 0, none⟩) 1 1, .slice (some ⟨V6.heap.size + 1, 0, none⟩) 6 6, .slice (some ⟨V6.heap.size + 2, 0, none⟩) 1 1] := Blk.new (((V6.alloc (.cells #[.int .u8 7] 5)).alloc (.cells #[.int .u8 1, .int .u8 2, .int .u8 3, .int .u8 4, .int .u8 5, .int .u8 6] 5)).alloc (.cells #[.int .u8 7] 5)) 37 #[.slice (some ⟨V6.heap.size, 0, none⟩) 1 1, .slice (some ⟨V6.heap.size + 1, 0, none⟩) 6 6, .slice (some ⟨V6.heap.size + 2, 0, none⟩) 1 1]
  simp only [World.size_alloc] at k2 k3 k4
  have hq : Pls ((((V6.alloc (.cells #[.int .u8 7] 5)).alloc (.cells #[.int .u8 1, .int .u8 2, .int .u8 3, .int .u8 4, .int .u8 5, .int .u8 6] 5)).alloc (.cells #[.int .u8 7] 5)).alloc (.cells #[.slice (some ⟨V6.heap.size, 0, none⟩) 1 1, .slice (some ⟨V6.heap.size + 1, 0, none⟩) 6 6, .slice (some ⟨V6.heap.size + 2, 0, none⟩) 1 1] 37)) (some ⟨V6.heap.size + 3, 0, none⟩) 3 [⟨some ⟨V6.heap.size, 0, none⟩, 1, [7]⟩, ⟨some ⟨V6.heap.size + 1, 0, none⟩, 6, [1, 2, 3, 4, 5, 6]⟩, ⟨some ⟨V6.heap.size + 2, 0, none⟩, 1, [7]⟩] := by
    refine ⟨k4.reads (size := 1) (n := 3) rfl, fun x hx => ?_⟩
    simp only [List.mem_cons, List.not_mem_nil, or_false] at hx
    rcases hx with rfl | rfl | rfl
    · exact k1.reads (size := 1) (n := 1) rfl
    · exact k2.reads (size := 1) (n := 6) rfl
    · exact k3.reads (size := 1) (n := 1) rfl
  have HQ := Lib.hid (And.intro q1 hq)
  clear q1 k1 k2 k3 k4 hq
  go_wp2_with fail
  generalize ((((V6.alloc (.cells #[.int .u8 7] 5)).alloc (.cells #[.int .u8 1, .int .u8 2, .int .u8 3, .int .u8 4, .int .u8 5, .int .u8 6] 5)).alloc (.cells #[.int .u8 7] 5)).alloc (.cells #[.slice (some ⟨V6.heap.size, 0, none⟩) 1 1, .slice (some ⟨V6.heap.size + 1, 0, none⟩) 6 6, .slice (some ⟨V6.heap.size + 2, 0, none⟩) 1 1] 37)) = V7 at *
  refine (SamePayloads_true P6 (some ⟨V6.heap.size + 3, 0, none⟩) 3 q6 3 pl6 _ V7 (hR6.out.2.2.up HQ.out.1) HQ.out.2 (by omega) (by rw [H6.out.2.2.2]; rfl)).mono ?_
  rintro e w8 ⟨rfl, hb8⟩
  have hb68 := HQ.out.1.trans (hb8.mono HQ.out.1.size)
  have l6' : w8.cell? ⟨w1.heap.size, 6, none⟩ = some (.slice B6 0 d6) := (hR6.out.2.1.below hb68 (by omega)).cell 6
  have H8 := Lib.hid (hR6.out.1.trans (hb68.mono hR6.out.1.size))
  clear hb8 hb68 l6
  go_wp2_with fail
  go_ret
  exact ⟨by simp, H8.out⟩
end Go.Proofs.Ytjaoppopfeonhaa
