/- The walks of New and Same. Condition: at most 10000 flights. -/
import Derived.Test.YtjaoppopfeonhaaWb
namespace Go.Proofs.Ytjaoppopfeonhaa
open Go.RowKit
/-- a link as a value -/
def lkC (mi ma ra : Int) (dn : Bool) (id nx : Int) (A : Option Addr) (m c : Nat) : Array Value := #[.int .i64 mi, .int .i64 ma, .int .i64 ra, .bool dn, .int .i64 id, .int .i64 nx, .slice A m c]
def newC (mi ma ra : Int) : Array Value := if cfgE mi ma ra = 0 then lkC mi ma ra false 0 0 none 0 0 else lkC 0 0 0 false 0 0 none 0 0
theorem info26b : (Try.prog.info? 26).map (fun i => i.size) = some 7 := by kernel_rfl
set_option maxHeartbeats 1000000 in
theorem New_any (mi ma ra : Int) (w : World) : Calls Try.prog 13 #[.agg #[.int .i64 mi, .int .i64 ma, .int .i64 ra]] w fun e w' => e = .returned (.tuple #[.agg (newC mi ma ra), .int .i64 (cfgE mi ma ra : Nat)]) ∧ Below w.heap.size w w' := by
  have hb : Below w.heap.size w ((w.alloc (.cells #[.int .i64 mi, .int .i64 ma, .int .i64 ra] 23)).alloc (.cells #[.int .i64 0, .int .i64 0, .int .i64 0, .bool false, .int .i64 0, .int .i64 0, .slice none 0 0] 26)) := ((Below.refl _ _).alloc (Nat.le_refl _) _).alloc (by simp) _
  have g0 : Blk ((w.alloc (.cells #[.int .i64 mi, .int .i64 ma, .int .i64 ra] 23)).alloc (.cells #[.int .i64 0, .int .i64 0, .int .i64 0, .bool false, .int .i64 0, .int .i64 0, .slice none 0 0] 26)) w.heap.size 23 _ := (Blk.new w 23 #[.int .i64 mi, .int .i64 ma, .int .i64 ra]).alloc _
  have g1 := Blk.new (w.alloc (.cells #[.int .i64 mi, .int .i64 ma, .int .i64 ra] 23)) 26 #[.int .i64 0, .int .i64 0, .int .i64 0, .bool false, .int .i64 0, .int .i64 0, .slice none 0 0]
  rw [World.size_alloc] at g1
  have hs : w.heap.size + 2 ≤ ((w.alloc (.cells #[.int .i64 mi, .int .i64 ma, .int .i64 ra] 23)).alloc (.cells #[.int .i64 0, .int .i64 0, .int .i64 0, .bool false, .int .i64 0, .int .i64 0, .slice none 0 0] 26)).heap.size := by simp
  go_enter Try.func13, Try.ntmps13
  go_upto_region 1 with fail
  generalize ((w.alloc (.cells #[.int .i64 mi, .int .i64 ma, .int .i64 ra] 23)).alloc (.cells #[.int .i64 0, .int .i64 0, .int .i64 0, .bool false, .int .i64 0, .int .i64 0, .slice none 0 0] 26)) = W at *
  have d0 : W.cell? ⟨w.heap.size, 0, none⟩ = some (.int .i64 mi) := g0.cell 0
  have d1 : W.cell? ⟨w.heap.size, 1, none⟩ = some (.int .i64 ma) := g0.cell 1
  have d2 : W.cell? ⟨w.heap.size, 2, none⟩ = some (.int .i64 ra) := g0.cell 2
  go_wp2_with fail
  refine (config_any _ _ _ _).mono ?_
  rintro e w1 ⟨rfl, hb1⟩
  clear d0 d1 d2
  have G0 := g0.below hb1 (by omega)
  have G1 := g1.below hb1 (by omega)
  have d0 : w1.cell? ⟨w.heap.size, 0, none⟩ = some (.int .i64 mi) := G0.cell 0
  have d1 : w1.cell? ⟨w.heap.size, 1, none⟩ = some (.int .i64 ma) := G0.cell 1
  have d2 : w1.cell? ⟨w.heap.size, 2, none⟩ = some (.int .i64 ra) := G0.cell 2
  have HB := Lib.hid (And.intro (hb.trans (hb1.mono hb.size)) G1)
  clear hb hb1 g0 g1 G0 G1
  obtain ⟨r, hr⟩ : ∃ r, cfgE mi ma ra = r := ⟨_, rfl⟩
  rw [hr]
  by_cases h0 : r = 0
  · have HN : Hid (newC mi ma ra = lkC mi ma ra false 0 0 none 0 0) := by show _ = _; unfold newC; rw [if_pos (by omega)]
    subst h0
    have HR := Lib.hid hr
    clear hr
    go_wp2_with (refine wpList_store_row rfl _ _ _ rfl (w.heap.size + 1) _ rfl rfl 26 _ HB.out.2 (by kernel_rfl) rfl (by simp [Value.oneCell']) ?_)
    refine bodyPost_ret (results_cell_tmp (t := 26) rfl _ _ (w.heap.size + 1) _ _ rfl (HB.out.2.setRow _) Try.underlying26 rfl (by kernel_rfl)) rfl ⟨by rw [HN.out, HR.out]; rfl, below_setRow HB.out.1 (by omega) _⟩
  · have HN : Hid (newC mi ma ra = lkC 0 0 0 false 0 0 none 0 0) := by show _ = _; unfold newC; rw [if_neg (by omega)]
    have HR := Lib.hid hr
    have hr1 : ((r : Int) != 0) = true := by rw [bne_iff_ne]; omega
    have H0 := Lib.hid h0
    clear hr h0
    go_wp2_with (refine wpList_store_row rfl _ _ _ rfl (w.heap.size + 1) _ rfl rfl 26 _ HB.out.2 (by kernel_rfl) rfl (by simp [Value.oneCell']) ?_)
    refine bodyPost_ret (results_cell_tmp (t := 26) rfl _ _ (w.heap.size + 1) _ _ rfl (HB.out.2.setRow _) Try.underlying26 rfl (by kernel_rfl)) rfl ⟨by rw [HN.out, HR.out]; rfl, below_setRow HB.out.1 (by omega) _⟩
set_option maxHeartbeats 1000000 in
theorem refNew_any (mi ma ra : Int) (w : World) : Calls Try.prog 14 #[.agg #[.int .i64 mi, .int .i64 ma, .int .i64 ra]] w fun e w' => e = .returned (.tuple #[.agg (newC mi ma ra), .int .i64 (cfgE mi ma ra : Nat)]) ∧ Below w.heap.size w w' := by
  have hb : Below w.heap.size w ((w.alloc (.cells #[.int .i64 mi, .int .i64 ma, .int .i64 ra] 23)).alloc (.cells #[.int .i64 0, .int .i64 0, .int .i64 0, .bool false, .int .i64 0, .int .i64 0, .slice none 0 0] 26)) := ((Below.refl _ _).alloc (Nat.le_refl _) _).alloc (by simp) _
  have g0 : Blk ((w.alloc (.cells #[.int .i64 mi, .int .i64 ma, .int .i64 ra] 23)).alloc (.cells #[.int .i64 0, .int .i64 0, .int .i64 0, .bool false, .int .i64 0, .int .i64 0, .slice none 0 0] 26)) w.heap.size 23 _ := (Blk.new w 23 #[.int .i64 mi, .int .i64 ma, .int .i64 ra]).alloc _
  have g1 := Blk.new (w.alloc (.cells #[.int .i64 mi, .int .i64 ma, .int .i64 ra] 23)) 26 #[.int .i64 0, .int .i64 0, .int .i64 0, .bool false, .int .i64 0, .int .i64 0, .slice none 0 0]
  rw [World.size_alloc] at g1
  have hs : w.heap.size + 2 ≤ ((w.alloc (.cells #[.int .i64 mi, .int .i64 ma, .int .i64 ra] 23)).alloc (.cells #[.int .i64 0, .int .i64 0, .int .i64 0, .bool false, .int .i64 0, .int .i64 0, .slice none 0 0] 26)).heap.size := by simp
  go_enter Try.func14, Try.ntmps14
  go_upto_region 1 with fail
  generalize ((w.alloc (.cells #[.int .i64 mi, .int .i64 ma, .int .i64 ra] 23)).alloc (.cells #[.int .i64 0, .int .i64 0, .int .i64 0, .bool false, .int .i64 0, .int .i64 0, .slice none 0 0] 26)) = W at *
  have d0 : W.cell? ⟨w.heap.size, 0, none⟩ = some (.int .i64 mi) := g0.cell 0
  have d1 : W.cell? ⟨w.heap.size, 1, none⟩ = some (.int .i64 ma) := g0.cell 1
  have d2 : W.cell? ⟨w.heap.size, 2, none⟩ = some (.int .i64 ra) := g0.cell 2
  go_wp2_with fail
  refine (refconfig_any _ _ _ _).mono ?_
  rintro e w1 ⟨rfl, hb1⟩
  clear d0 d1 d2
  have G0 := g0.below hb1 (by omega)
  have G1 := g1.below hb1 (by omega)
  have d0 : w1.cell? ⟨w.heap.size, 0, none⟩ = some (.int .i64 mi) := G0.cell 0
  have d1 : w1.cell? ⟨w.heap.size, 1, none⟩ = some (.int .i64 ma) := G0.cell 1
  have d2 : w1.cell? ⟨w.heap.size, 2, none⟩ = some (.int .i64 ra) := G0.cell 2
  have HB := Lib.hid (And.intro (hb.trans (hb1.mono hb.size)) G1)
  clear hb hb1 g0 g1 G0 G1
  obtain ⟨r, hr⟩ : ∃ r, cfgE mi ma ra = r := ⟨_, rfl⟩
  rw [hr]
  by_cases h0 : r = 0
  · have HN : Hid (newC mi ma ra = lkC mi ma ra false 0 0 none 0 0) := by show _ = _; unfold newC; rw [if_pos (by omega)]
    subst h0
    have HR := Lib.hid hr
    clear hr
    go_wp2_with (refine wpList_store_row rfl _ _ _ rfl (w.heap.size + 1) _ rfl rfl 26 _ HB.out.2 (by kernel_rfl) rfl (by simp [Value.oneCell']) ?_)
    refine bodyPost_ret (results_cell_tmp (t := 26) rfl _ _ (w.heap.size + 1) _ _ rfl (HB.out.2.setRow _) Try.underlying26 rfl (by kernel_rfl)) rfl ⟨by rw [HN.out, HR.out]; rfl, below_setRow HB.out.1 (by omega) _⟩
  · have HN : Hid (newC mi ma ra = lkC 0 0 0 false 0 0 none 0 0) := by show _ = _; unfold newC; rw [if_neg (by omega)]
    have HR := Lib.hid hr
    have hr1 : ((r : Int) != 0) = true := by rw [bne_iff_ne]; omega
    have H0 := Lib.hid h0
    clear hr h0
    go_wp2_with (refine wpList_store_row rfl _ _ _ rfl (w.heap.size + 1) _ rfl rfl 26 _ HB.out.2 (by kernel_rfl) rfl (by simp [Value.oneCell']) ?_)
    refine bodyPost_ret (results_cell_tmp (t := 26) rfl _ _ (w.heap.size + 1) _ _ rfl (HB.out.2.setRow _) Try.underlying26 rfl (by kernel_rfl)) rfl ⟨by rw [HN.out, HR.out]; rfl, below_setRow HB.out.1 (by omega) _⟩
end Go.Proofs.Ytjaoppopfeonhaa
