/- The walk of awake. No condition. -/
import Derived.Test.YtknedclejhiegaaWx
namespace Go.Proofs.Ytknedclejhiegaa
open Go.RowKit
theorem mod4 : addM [5, 3, 5, 0] 4 = ([⟨0, 3, 3, 0, []⟩, ⟨3, 1, 1, 0, []⟩, ⟨5, 0, 0, 0, []⟩, ⟨5, 2, 2, 0, []⟩] : List Em) := by rfl
theorem modC : cancelQ ([⟨0, 3, 3, 0, []⟩, ⟨3, 1, 1, 0, []⟩, ⟨5, 0, 0, 0, []⟩, ⟨5, 2, 2, 0, []⟩] : List Em) 4 0 = ([⟨0, 3, 3, 0, []⟩, ⟨3, 1, 1, 0, []⟩, ⟨5, 2, 2, 0, []⟩], true) := by rfl
theorem modD : dueQ ([⟨0, 3, 3, 0, []⟩, ⟨3, 1, 1, 0, []⟩, ⟨5, 2, 2, 0, []⟩] : List Em) 4 4 = ([⟨5, 2, 2, 0, []⟩], [⟨0, 3, 3, 0, []⟩, ⟨3, 1, 1, 0, []⟩]) := by rfl
theorem modE : dueQ ([⟨5, 2, 2, 0, []⟩] : List Em) 4 5 = ([], [⟨5, 2, 2, 0, []⟩]) := by rfl
theorem ints_new (w : World) (l : List Int) : Reads (w.alloc (.cells (intsV l).toArray 3)) (w.alloc (.cells (intsV l).toArray 3)).heap.size 1 (some ⟨w.heap.size, 0, none⟩) l.length (intsV l) := by
  have h := (Blk.new w 3 (intsV l).toArray).reads (size := 1) (n := l.length) (by simp [intsV])
  simpa using h
set_option maxRecDepth 100000 in
set_option maxHeartbeats 4000000 in
theorem awake_any (w : World) : Calls Try.prog 10 #[] w fun e w' => e = .returned (.bool true) ∧ Below w.heap.size w w' := by
  have hb0 : Below w.heap.size w (w.alloc (.cells #[.int .i64 5, .int .i64 3, .int .i64 5, .int .i64 0] 3)) := (Below.refl _ _).alloc (Nat.le_refl _) _
  have hr0 : Reads (w.alloc (.cells #[.int .i64 5, .int .i64 3, .int .i64 5, .int .i64 0] 3)) (w.alloc (.cells #[.int .i64 5, .int .i64 3, .int .i64 5, .int .i64 0] 3)).heap.size 1 (some ⟨w.heap.size, 0, none⟩) 4 (intsV [5, 3, 5, 0]) := ints_new w [5, 3, 5, 0]
  have H0 := Lib.hid (And.intro hb0 hr0)
  clear hb0 hr0
  go_enter Try.func10, Try.ntmps10
  go_wp2_with fail
  generalize (w.alloc (.cells #[.int .i64 5, .int .i64 3, .int .i64 5, .int .i64 0] 3)) = V0 at *
  refine (added_any (some ⟨w.heap.size, 0, none⟩) 4 4 [5, 3, 5, 0] V0 H0.out.2 (by omega) (by decide)).mono ?_
  rintro e w1 ⟨hb1, v1, rfl, hv1⟩
  rw [show ([5, 3, 5, 0] : List Int).length = 4 from rfl, mod4] at hv1
  have hv1' : QVal w1 ([⟨0, 3, 3, 0, []⟩, ⟨3, 1, 1, 0, []⟩, ⟨5, 0, 0, 0, []⟩, ⟨5, 2, 2, 0, []⟩] : List Em) 4 v1 := hv1
  clear hv1
  obtain ⟨A1, c1, es1, rfl, hE1, hm1, hc1⟩ := hv1'.val
  have hl1 : es1.length = 4 := by have := congrArg List.length hm1; simpa using this
  rw [hl1] at hE1 hc1 ⊢
  have hbw1 := H0.out.1.trans (hb1.mono H0.out.1.size)
  have H1 := Lib.hid (And.intro hbw1 (And.intro hE1 (And.intro hm1 (And.intro hc1 hl1))))
  have hsz1 := hbw1.size
  clear hb1 hv1' hE1 hm1 hc1 hl1 hbw1
  go_upto_region 2 with fail
  have hbx : Below w1.heap.size w1 (w1.alloc (.cells #[.slice A1 4 c1, .int .i64 4] 24)) := (Below.refl _ _).alloc (Nat.le_refl _) _
  have gx := Blk.new w1 24 #[.slice A1 4 c1, .int .i64 4]
  have hsx : w1.heap.size + 1 ≤ (w1.alloc (.cells #[.slice A1 4 c1, .int .i64 4] 24)).heap.size := by simp
  have HX := Lib.hid (And.intro hbx gx)
  have x0 : (w1.alloc (.cells #[.slice A1 4 c1, .int .i64 4] 24)).cell? ⟨w1.heap.size, 0, none⟩ = some (.slice A1 4 c1) := gx.cell 0
  generalize (w1.alloc (.cells #[.slice A1 4 c1, .int .i64 4] 24)) = V1 at *
  clear hbx gx
  have hby : Below V1.heap.size V1 (V1.alloc (.cells #[.int .i64 3, .int .i64 1, .int .i64 0, .int .i64 2] 3)) := (Below.refl _ _).alloc (Nat.le_refl _) _
  have hry : Reads (V1.alloc (.cells #[.int .i64 3, .int .i64 1, .int .i64 0, .int .i64 2] 3)) (V1.alloc (.cells #[.int .i64 3, .int .i64 1, .int .i64 0, .int .i64 2] 3)).heap.size 1 (some ⟨V1.heap.size, 0, none⟩) 4 (intsV [3, 1, 0, 2]) := ints_new V1 [3, 1, 0, 2]
  have HY := Lib.hid (And.intro hby hry)
  clear hby hry
  go_wp2_with fail
  generalize (V1.alloc (.cells #[.int .i64 3, .int .i64 1, .int .i64 0, .int .i64 2] 3)) = V2 at *
  have hb12 := HX.out.1.trans (HY.out.1.mono HX.out.1.size)
  refine (numbers_true A1 (some ⟨V1.heap.size, 0, none⟩) 4 c1 4 es1 [3, 1, 0, 2] V2 (H1.out.2.1.up hb12) HY.out.2 (by omega) (by rw [H1.out.2.2.1]; rfl)).mono ?_
  rintro e w2 ⟨rfl, hb2⟩
  have hb12' := hb12.trans (hb2.mono hb12.size)
  have hs2 := hb12'.size
  have hVs := HY.out.1.size
  have hs2' := hb2.size
  have g2 : Blk w2 w1.heap.size 24 #[.slice A1 4 c1, .int .i64 4] := (HX.out.2.below HY.out.1 (by omega)).below hb2 (by omega)
  have H2 := Lib.hid (And.intro hb12' (And.intro (H1.out.2.1.up hb12') g2))
  clear hb12 hb2 hb12' x0
  have x0 : w2.cell? ⟨w1.heap.size, 0, none⟩ = some (.slice A1 4 c1) := g2.cell 0
  have x1 : w2.cell? ⟨w1.heap.size, 1, none⟩ = some (.int .i64 4) := g2.cell 1
  clear g2
  have hp1 : ∀ e ∈ es1, e.p.length ≤ 100000 := by
    intro e he
    have h : e.em ∈ ([⟨0, 3, 3, 0, []⟩, ⟨3, 1, 1, 0, []⟩, ⟨5, 0, 0, 0, []⟩, ⟨5, 2, 2, 0, []⟩] : List Em) := by rw [← H1.out.2.2.1]; exact List.mem_map_of_mem he
    have h2 : ∀ x ∈ ([⟨0, 3, 3, 0, []⟩, ⟨3, 1, 1, 0, []⟩, ⟨5, 0, 0, 0, []⟩, ⟨5, 2, 2, 0, []⟩] : List Em), x.p.length ≤ 100000 := by simp
    exact h2 _ h
  have HP1 := Lib.hid hp1
  clear hp1
  go_wp2_with fail
  refine (Cancel_any A1 4 c1 es1 4 0 w2 H2.out.2.1 (by omega) H1.out.2.2.2.1 HP1.out).mono ?_
  rintro e w3 ⟨hb3, v3, he3, hv3⟩
  rw [H1.out.2.2.1, modC] at he3 hv3
  subst he3
  dsimp only at hv3 ⊢
  obtain ⟨A3, c3, es3, rfl, hE3, hm3, hc3⟩ := hv3.val
  have hl3 : es3.length = 3 := by have := congrArg List.length hm3; simpa using this
  rw [hl3] at hE3 hc3 ⊢
  have hs3 := hb3.size
  have g3 := H2.out.2.2.below hb3 (by omega)
  have hF3 := hE3.row_q g3 #[.slice A3 3 c3, .int .i64 4]
  have G3 := g3.setRow #[.slice A3 3 c3, .int .i64 4]
  have hb3' := below_setRow ((H2.out.1.trans (hb3.mono H2.out.1.size))) (g := w1.heap.size) (Nat.le_refl _) #[.slice A3 3 c3, .int .i64 4]
  have hz3 : w3.heap.size ≤ (w3.setRow w1.heap.size #[.slice A3 3 c3, .int .i64 4]).heap.size := by simp
  have hp3 : ∀ e ∈ es3, e.p.length ≤ 100000 := by
    intro e he
    have h : e.em ∈ ([⟨0, 3, 3, 0, []⟩, ⟨3, 1, 1, 0, []⟩, ⟨5, 2, 2, 0, []⟩] : List Em) := by rw [← hm3]; exact List.mem_map_of_mem he
    have h2 : ∀ x ∈ ([⟨0, 3, 3, 0, []⟩, ⟨3, 1, 1, 0, []⟩, ⟨5, 2, 2, 0, []⟩] : List Em), x.p.length ≤ 100000 := by simp
    exact h2 _ h
  have H3 := Lib.hid (And.intro hb3' (And.intro hF3 (And.intro hm3 (And.intro hc3 (And.intro G3 (And.intro hp3 g3))))))
  clear hb3 hv3 hE3 hm3 hc3 hl3 hF3 G3 hb3' hp3 g3 x0 x1
  go_upto_region 5 with (refine wpList_store_row rfl _ _ _ rfl w1.heap.size _ rfl rfl 24 _ H3.out.2.2.2.2.2.2 (by kernel_rfl) rfl (by simp [Value.oneCell']) ?_)
  generalize w3.setRow w1.heap.size #[.slice A3 3 c3, .int .i64 4] = V3 at *
  have x0 : V3.cell? ⟨w1.heap.size, 0, none⟩ = some (.slice A3 3 c3) := H3.out.2.2.2.2.1.cell 0
  have x1 : V3.cell? ⟨w1.heap.size, 1, none⟩ = some (.int .i64 4) := H3.out.2.2.2.2.1.cell 1
  go_wp2_with fail
  refine (Due_any A3 3 c3 es3 4 4 V3 H3.out.2.1 (by omega) H3.out.2.2.2.1 H3.out.2.2.2.2.2.1).mono ?_
  rintro e w4 ⟨hb4, v4, Ad, cd, ds, he4, hv4, hD4, hd4⟩
  rw [H3.out.2.2.1, modD] at hv4 hd4
  dsimp only at hv4 hd4
  obtain ⟨A4, c4, es4, rfl, hE4, hm4, hc4⟩ := hv4.val
  have hl4 : es4.length = 1 := by have := congrArg List.length hm4; simpa using this
  have hld : ds.length = 2 := by have := congrArg List.length hd4; simpa using this
  rw [hl4] at hE4 hc4 he4
  rw [hld] at hD4 he4
  subst he4
  have hs4 := hb4.size
  have g4 := H3.out.2.2.2.2.1.below hb4 (by omega)
  have hF4 := hE4.row_q g4 #[.slice A4 1 c4, .int .i64 4]
  have hFd4 := hD4.row_q g4 #[.slice A4 1 c4, .int .i64 4]
  have G4 := g4.setRow #[.slice A4 1 c4, .int .i64 4]
  have hb4' := below_setRow (H3.out.1.trans (hb4.mono (by omega))) (g := w1.heap.size) (Nat.le_refl _) #[.slice A4 1 c4, .int .i64 4]
  have hz4 : w4.heap.size ≤ (w4.setRow w1.heap.size #[.slice A4 1 c4, .int .i64 4]).heap.size := by simp
  have hp4 : ∀ e ∈ es4, e.p.length ≤ 100000 := by
    intro e he
    have h : e.em ∈ ([⟨5, 2, 2, 0, []⟩] : List Em) := by rw [← hm4]; exact List.mem_map_of_mem he
    have h2 : ∀ x ∈ ([⟨5, 2, 2, 0, []⟩] : List Em), x.p.length ≤ 100000 := by simp
    exact h2 _ h
  have H4 := Lib.hid (And.intro hb4' (And.intro hF4 (And.intro hFd4 (And.intro hm4 (And.intro hd4 (And.intro hc4 (And.intro G4 (And.intro hp4 g4))))))))
  clear hb4 hv4 hE4 hD4 hm4 hd4 hc4 hl4 hld hF4 hFd4 G4 hb4' hp4 g4 x0 x1
  go_upto_region 6 with (refine wpList_store_row rfl _ _ _ rfl w1.heap.size _ rfl rfl 24 _ H4.out.2.2.2.2.2.2.2.2 (by kernel_rfl) rfl (by simp [Value.oneCell']) ?_)
  generalize w4.setRow w1.heap.size #[.slice A4 1 c4, .int .i64 4] = V4 at *
  have x0 : V4.cell? ⟨w1.heap.size, 0, none⟩ = some (.slice A4 1 c4) := H4.out.2.2.2.2.2.2.1.cell 0
  have x1 : V4.cell? ⟨w1.heap.size, 1, none⟩ = some (.int .i64 4) := H4.out.2.2.2.2.2.2.1.cell 1
  go_wp2_with fail
  refine (Due_any A4 1 c4 es4 4 5 V4 H4.out.2.1 (by omega) H4.out.2.2.2.2.2.1 H4.out.2.2.2.2.2.2.2.1).mono ?_
  rintro e w5 ⟨hb5, v5, Af, cf, fs, he5, hv5, hD5, hd5⟩
  rw [H4.out.2.2.2.1, modE] at hv5 hd5
  dsimp only at hv5 hd5
  obtain ⟨A5, c5, es5, rfl, hE5, hm5, hc5⟩ := hv5.val
  have hl5 : es5.length = 0 := by have := congrArg List.length hm5; simpa using this
  have hlf : fs.length = 1 := by have := congrArg List.length hd5; simpa using this
  rw [hl5] at hE5 hc5 he5
  rw [hlf] at hD5 he5
  subst he5
  have hs5 := hb5.size
  have g5 := H4.out.2.2.2.2.2.2.1.below hb5 (by omega)
  have hFd5 := (H4.out.2.2.1.up hb5).row_q g5 #[.slice A5 0 c5, .int .i64 4]
  have hFf5 := hD5.row_q g5 #[.slice A5 0 c5, .int .i64 4]
  have G5 := g5.setRow #[.slice A5 0 c5, .int .i64 4]
  have hb5' := below_setRow (H4.out.1.trans (hb5.mono (by omega))) (g := w1.heap.size) (Nat.le_refl _) #[.slice A5 0 c5, .int .i64 4]
  have hz5 : w5.heap.size ≤ (w5.setRow w1.heap.size #[.slice A5 0 c5, .int .i64 4]).heap.size := by simp
  have H5 := Lib.hid (And.intro hb5' (And.intro hFd5 (And.intro hFf5 (And.intro hd5 (And.intro G5 g5)))))
  clear hb5 hv5 hE5 hD5 hm5 hd5 hc5 hl5 hlf hFd5 hFf5 G5 hb5' g5 x0 x1
  go_upto_region 7 with (refine wpList_store_row rfl _ _ _ rfl w1.heap.size _ rfl rfl 24 _ H5.out.2.2.2.2.2 (by kernel_rfl) rfl (by simp [Value.oneCell']) ?_)
  generalize w5.setRow w1.heap.size #[.slice A5 0 c5, .int .i64 4] = V5 at *
  have hby : Below V5.heap.size V5 (V5.alloc (.cells #[.int .i64 3, .int .i64 1] 3)) := (Below.refl _ _).alloc (Nat.le_refl _) _
  have hry : Reads (V5.alloc (.cells #[.int .i64 3, .int .i64 1] 3)) (V5.alloc (.cells #[.int .i64 3, .int .i64 1] 3)).heap.size 1 (some ⟨V5.heap.size, 0, none⟩) 2 (intsV [3, 1]) := ints_new V5 [3, 1]
  have H6 := Lib.hid (And.intro hby hry)
  clear hby hry
  go_wp2_with fail
  generalize (V5.alloc (.cells #[.int .i64 3, .int .i64 1] 3)) = V6 at *
  refine (numbers_true Ad (some ⟨V5.heap.size, 0, none⟩) 2 cd 2 ds [3, 1] V6 (H5.out.2.1.up H6.out.1) H6.out.2 (by omega) (by rw [H4.out.2.2.2.2.1]; rfl)).mono ?_
  rintro e w6 ⟨rfl, hb6⟩
  have hb56 := H6.out.1.trans (hb6.mono H6.out.1.size)
  have hby : Below w6.heap.size w6 (w6.alloc (.cells #[.int .i64 2] 3)) := (Below.refl _ _).alloc (Nat.le_refl _) _
  have hry : Reads (w6.alloc (.cells #[.int .i64 2] 3)) (w6.alloc (.cells #[.int .i64 2] 3)).heap.size 1 (some ⟨w6.heap.size, 0, none⟩) 1 (intsV [2]) := ints_new w6 [2]
  have H7 := Lib.hid (And.intro hby (And.intro hry hb56))
  have hs6 := hb56.size
  clear hby hry hb6 hb56
  go_wp2_with fail
  generalize (w6.alloc (.cells #[.int .i64 2] 3)) = V7 at *
  have hb57 := H7.out.2.2.trans (H7.out.1.mono H7.out.2.2.size)
  refine (numbers_true Af (some ⟨w6.heap.size, 0, none⟩) 1 cf 1 fs [2] V7 (H5.out.2.2.1.up hb57) H7.out.2.1 (by omega) (by rw [H5.out.2.2.2.1]; rfl)).mono ?_
  rintro e w7 ⟨rfl, hb7⟩
  have hb58 := hb57.trans (hb7.mono hb57.size)
  have g8 := H5.out.2.2.2.2.1.below hb58 (by omega)
  have x0 : w7.cell? ⟨w1.heap.size, 0, none⟩ = some (.slice A5 0 c5) := g8.cell 0
  have x1 : w7.cell? ⟨w1.heap.size, 1, none⟩ = some (.int .i64 4) := g8.cell 1
  have H8 := Lib.hid hb58
  clear hb57 hb7 hb58 g8
  go_wp2_with fail
  go_ret
  exact ⟨by simp, H1.out.1.trans ((H5.out.1.trans (H8.out.mono (by omega))).mono hsz1)⟩
end Go.Proofs.Ytknedclejhiegaa
