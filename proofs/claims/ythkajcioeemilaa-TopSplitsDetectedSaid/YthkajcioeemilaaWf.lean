/- The walk of begin. No condition. -/
import Derived.Test.YthkajcioeemilaaWe
namespace Go.Proofs.Ythkajcioeemilaa
open Go.RowKit
set_option linter.unusedSimpArgs false in
set_option maxRecDepth 100000 in
set_option maxHeartbeats 4000000 in
theorem begin_ok (s : Si) (A : Option Addr) (c : Nat) (w : World) (hR : SiR w A s) (h : SiOk s) : Calls Try.prog 20 #[.agg (siV s A c)] w fun x w' => ∃ tb, x = .returned (.pointer (some ⟨tb, 0, none⟩)) ∧ TrI w tb s w' := by
  obtain ⟨num, role, ep, ap, l, src, al, co⟩ := s
  have hlen := h.len
  dsimp only at hlen
  have b0 := Blk.new w 34 #[.int .i64 num, .int .i64 role, .int .i64 ep, .int .i64 ap, .slice A l.length c, .int .i64 src, .bool al, .bool co]
  have hb0 : Below w.heap.size w (w.alloc (.cells #[.int .i64 num, .int .i64 role, .int .i64 ep, .int .i64 ap, .slice A l.length c, .int .i64 src, .bool al, .bool co] 34)) := (Below.refl _ w).alloc (Nat.le_refl _) _
  have hl : w.heap.size < (w.alloc (.cells #[.int .i64 num, .int .i64 role, .int .i64 ep, .int .i64 ap, .slice A l.length c, .int .i64 src, .bool al, .bool co] 34)).heap.size := by simp
  have HB := Lib.hid (And.intro b0 (And.intro hb0 (And.intro hR h)))
  clear b0 hb0 hR h
  unfold siV
  dsimp only
  go_enter Try.func20, Try.ntmps20
  go_upto_region 1 with fail
  generalize (w.alloc (.cells #[.int .i64 num, .int .i64 role, .int .i64 ep, .int .i64 ap, .slice A l.length c, .int .i64 src, .bool al, .bool co] 34)) = V at *
  have x4 : V.cell? ⟨w.heap.size, 4, none⟩ = some (.slice A l.length c) := HB.out.1.cell 4
  go_wp2_with fail
  refine (Clone_ok A c l V (Reads.up HB.out.2.2.1 HB.out.2.1) (by omega)).mono ?_
  rintro z w1 ⟨⟨v, rfl, hown⟩, hb1⟩
  obtain ⟨A', c', rfl, _, _, _⟩ := own_slice hown
  have G1 := HB.out.1.below hb1 hl
  have hne : (Value.slice A' l.length c').ownBlock ≠ some w.heap.size := fun e9 => tag_ne hown G1 (by decide) _ e9 rfl
  have hl1 := G1.lt
  have z4 : w1.frozen? ⟨w.heap.size, 4, none⟩ = false := G1.frozen 4
  have x4 : w1.cell? ⟨w.heap.size, 4, none⟩ = some (.slice A l.length c) := G1.cell 4
  have G2 : Blk (w1.setCell ⟨w.heap.size, 4, none⟩ (.slice A' l.length c')) w.heap.size 34 #[.int .i64 num, .int .i64 role, .int .i64 ep, .int .i64 ap, .slice A' l.length c', .int .i64 src, .bool al, .bool co] := G1.set_ 4 _
  have ho2 := own_base (own_far hown (p := ⟨w.heap.size, 4, none⟩) hne (.slice A' l.length c')) HB.out.2.1.size
  have hb2 := (HB.out.2.1.trans (hb1.mono HB.out.2.1.size)).setCell (p := ⟨w.heap.size, 4, none⟩) (Nat.le_refl _) (.slice A' l.length c')
  have HG := Lib.hid (And.intro G2 (And.intro ho2 hb2))
  clear G1 G2 ho2 hb2 hown hne
  go_upto_region 2 with fail
  generalize (w1.setCell ⟨w.heap.size, 4, none⟩ (.slice A' l.length c')) = V2 at *
  clear x4 z4
  have hl2 := HG.out.1.lt
  have y0 : V2.cell? ⟨w.heap.size, 0, none⟩ = some (.int .i64 num) := HG.out.1.cell 0
  have y1 : V2.cell? ⟨w.heap.size, 1, none⟩ = some (.int .i64 role) := HG.out.1.cell 1
  have y2 : V2.cell? ⟨w.heap.size, 2, none⟩ = some (.int .i64 ep) := HG.out.1.cell 2
  have y3 : V2.cell? ⟨w.heap.size, 3, none⟩ = some (.int .i64 ap) := HG.out.1.cell 3
  have y4 : V2.cell? ⟨w.heap.size, 4, none⟩ = some (.slice A' l.length c') := HG.out.1.cell 4
  have y5 : V2.cell? ⟨w.heap.size, 5, none⟩ = some (.int .i64 src) := HG.out.1.cell 5
  have y6 : V2.cell? ⟨w.heap.size, 6, none⟩ = some (.bool al) := HG.out.1.cell 6
  have y7 : V2.cell? ⟨w.heap.size, 7, none⟩ = some (.bool co) := HG.out.1.cell 7
  refine wp_pan (Pc := fun _ _ _ => False) (fun _ _ _ h => h.elim) ?_
  refine wp_region_tail_lit (S := fun V => V.cell? ⟨w.heap.size, 0, none⟩ = some (.int .i64 num) ∧ V.cell? ⟨w.heap.size, 1, none⟩ = some (.int .i64 role) ∧ V.cell? ⟨w.heap.size, 2, none⟩ = some (.int .i64 ep) ∧ V.cell? ⟨w.heap.size, 3, none⟩ = some (.int .i64 ap) ∧ V.cell? ⟨w.heap.size, 4, none⟩ = some (.slice A' l.length c') ∧ V.cell? ⟨w.heap.size, 5, none⟩ = some (.int .i64 src) ∧ V.cell? ⟨w.heap.size, 6, none⟩ = some (.bool al) ∧ V.cell? ⟨w.heap.size, 7, none⟩ = some (.bool co)) 3 (by kernel_rfl) (by kernel_rfl) ⟨(((Below.refl V2.heap.size V2).drew).cell (p := ⟨w.heap.size, 0, none⟩) hl2).trans y0, (((Below.refl V2.heap.size V2).drew).cell (p := ⟨w.heap.size, 1, none⟩) hl2).trans y1, (((Below.refl V2.heap.size V2).drew).cell (p := ⟨w.heap.size, 2, none⟩) hl2).trans y2, (((Below.refl V2.heap.size V2).drew).cell (p := ⟨w.heap.size, 3, none⟩) hl2).trans y3, (((Below.refl V2.heap.size V2).drew).cell (p := ⟨w.heap.size, 4, none⟩) hl2).trans y4, (((Below.refl V2.heap.size V2).drew).cell (p := ⟨w.heap.size, 5, none⟩) hl2).trans y5, (((Below.refl V2.heap.size V2).drew).cell (p := ⟨w.heap.size, 6, none⟩) hl2).trans y6, (((Below.refl V2.heap.size V2).drew).cell (p := ⟨w.heap.size, 7, none⟩) hl2).trans y7⟩ (fun hHeld => ?_)
  simp only [List.take, List.drop]
  refine wpAnyH_take (i := 0) (oi := _) (v := ?_) rfl (by kernel_rfl) (by kernel_rfl) (by kernel_rfl) (fun _ _ _ h => h) (Or.inl ⟨by rfl, ?_⟩) (by assumption) ?_
  rotate_left 1
  · (intro w9 hS9; (try dsimp only at hS9); go_simp <;> with_reducible rfl)
  try simp only [List.getElem_toArray, List.getElem_cons_succ, List.getElem_cons_zero, Act.put, List.setIfInBounds_toArray, List.set_cons_zero, List.set_cons_succ]
  refine wpAnyH_take (i := 1) (oi := _) (v := ?_) rfl (by kernel_rfl) (by kernel_rfl) (by kernel_rfl) (fun _ _ _ h => h) (Or.inl ⟨by rfl, ?_⟩) (by assumption) ?_
  rotate_left 1
  · (intro w9 hS9; (try dsimp only at hS9); go_simp <;> with_reducible rfl)
  try simp only [List.getElem_toArray, List.getElem_cons_succ, List.getElem_cons_zero, Act.put, List.setIfInBounds_toArray, List.set_cons_zero, List.set_cons_succ]
  refine wpAnyH_ready (rs := [2]) (by kernel_rfl) (by simp) ?_
  refine AllReadyH.cons (o := _) rfl (fun K hK => ?_) AllReadyH.nil
  try simp only [List.getElem_toArray, List.getElem_cons_succ, List.getElem_cons_zero]
  try rw [if_pos (show Region.wanted _ _ = true from rfl)]
  go_simp
  refine (Check_ok ⟨num, role, ep, ap, l, src, al, co⟩ A' c' V2.drew (Reads.of_own (own_drew HG.out.2.1)) HB.out.2.2.2).mono ?_
  rintro x wy ⟨rfl, hby⟩
  have hwy : Below V2.heap.size V2 wy := ((Below.refl _ V2).drew).trans hby
  go_wp2_with fail
  refine hK.out _ _ ⟨(hwy.cell (p := ⟨w.heap.size, 0, none⟩) hl2).trans y0, (hwy.cell (p := ⟨w.heap.size, 1, none⟩) hl2).trans y1, (hwy.cell (p := ⟨w.heap.size, 2, none⟩) hl2).trans y2, (hwy.cell (p := ⟨w.heap.size, 3, none⟩) hl2).trans y3, (hwy.cell (p := ⟨w.heap.size, 4, none⟩) hl2).trans y4, (hwy.cell (p := ⟨w.heap.size, 5, none⟩) hl2).trans y5, (hwy.cell (p := ⟨w.heap.size, 6, none⟩) hl2).trans y6, (hwy.cell (p := ⟨w.heap.size, 7, none⟩) hl2).trans y7⟩ (fun hHeld => ?_)
  clear hK K
  try simp only [List.getElem_toArray, List.getElem_cons_succ, List.getElem_cons_zero, Act.put, List.setIfInBounds_toArray, List.set_cons_zero, List.set_cons_succ]
  refine wpAnyH_done (by kernel_rfl) ?_ _
  refine tailQ_step rfl ?_
  go_wp2_with fail
  refine tailQ_step rfl ?_
  go_wp2_with fail
  refine tailQ_step rfl ?_
  go_wp2_with fail
  refine tailQ_nil (panQ_normal ?_)
  go_wp2_with fail
  go_ret
  have hbz := hwy.alloc hwy.size (.cells #[.int .i64 num, .int .i64 role, .int .i64 ep, .int .i64 ap, .slice A' l.length c', .int .i64 src, .bool al, .bool co, .int .i64 0] 60)
  refine ⟨wy.heap.size, rfl, ⟨A', c', Blk.new wy 60 #[.int .i64 num, .int .i64 role, .int .i64 ep, .int .i64 ap, .slice A' l.length c', .int .i64 src, .bool al, .bool co, .int .i64 0], own_below HG.out.2.1 hbz⟩, Nat.le_trans HG.out.2.2.size hwy.size, HG.out.2.2.trans (hbz.mono HG.out.2.2.size)⟩
end Go.Proofs.Ythkajcioeemilaa
