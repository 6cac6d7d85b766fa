/- The walk of registers. No condition. -/
import Derived.Test.YtbiiahbhgjjhgaaRows
import Derived.Test.YtbiiahbhgjjhgaaMath
import Derived.WalkKit
import Derived.WalkSpells
import Derived.WalkLawsBesides
import Derived.Outline
import Derived.Lib.Hide
import Derived.Test.YtbiiahbhgjjhgaaLib
import Derived.Handy
namespace Go.Proofs.Ytbiiahbhgjjhgaa
open Go.RowKit
theorem zero83 (w : World) : (zeroValue 83).run Try.prog w = .ok (.agg (Tab fun _ => 0)) w := by kernel_rfl
theorem info83 : (Try.prog.info? 83).map (·.size) = some 256 := by kernel_rfl
theorem tab_step (k : Nat) : (Tab fun i => if i < k then crc8 i else 0).setIfInBounds k (.int .u32 (crcN 8 k : Nat)) = Tab fun i => if i < k + 1 then crc8 i else 0 := by
  rw [Tab_set]
  congr 1
  funext i
  by_cases h : i = k
  · subst h; simp [crc8]
  · by_cases h2 : i < k
    · simp [h, h2, show i < k + 1 by omega]
    · simp [h, h2, show ¬ i < k + 1 by omega]
theorem tab_full : (Tab fun i => if i < 256 then crc8 i else 0) = Tab crc8 := by
  unfold Tab
  rw [List.map_congr_left (g := fun i => Value.int .u32 (crc8 i))]
  intro i hi
  have : i < 256 := by simpa using hi
  simp [this]
theorem Tab_one (f : Nat → Nat) : (Tab f).all (·.oneCell') = true := by simp [Tab, Value.oneCell']
set_option maxRecDepth 100000 in
set_option maxHeartbeats 400000 in
theorem registers_any (w : World) :
    Calls Try.prog 44 #[] w fun e w' => e = .returned (.agg (Tab crc8)) ∧ Below w.heap.size w w' := by
  have hz := zero83
  go_enter Try.func44, Try.ntmps44
  go_wp2
  go_loopw [5] (fun i wr => ∃ k : Nat, k ≤ 256 ∧ i = .int .i64 k ∧ wr.heap[w.heap.size]? = some (.cells (Tab fun _ => 0) 83 (0, 0)) ∧ wr.heap[w.heap.size + 1]? = some (.cells (Tab fun i => if i < k then crc8 i else 0) 83 (0, 0)) ∧ Below w.heap.size w wr) (fun i _ => 256 - (intOf i).toNat)
  case atStart => exact ⟨0, by omega, rfl, heap_alloc2_old _ _ _, heap_alloc2_new _ _ _, ((Below.refl _ _).alloc (Nat.le_refl _) _).alloc (by simp) _⟩
  case round =>
    obtain ⟨k, hk, rfl, h0, h1, hb⟩ := hrel
    obtain ⟨wo, rfl⟩ : ∃ wo : World, wo = wr := ⟨_, rfl⟩
    by_cases hlt : k < 256
    · have hcell : wo.cell? ⟨w.heap.size + 1, k, none⟩ = some (.int .u32 ((if k < k then crc8 k else 0 : Nat) : Int)) := by
        rw [cell_of_row _ _ _ _ _ _ h1, Tab_get _ _ hlt]
      have hfro : wo.frozen? ⟨w.heap.size + 1, k, none⟩ = false := frozen_of_row _ _ _ _ _ h1
      simp only [Nat.lt_irrefl, if_false] at hcell
      have H0 := Lib.hid h0
      have H1 := Lib.hid h1
      clear h0 h1
      go_wp2
      go_loop [3, 4, 10] (fun x _ i => ∃ j : Nat, j ≤ 8 ∧ i = .int .i64 j ∧ x = .int .u32 (crcN j k : Nat)) (fun _ _ i => 8 - (intOf i).toNat)
      case atStart => exact ⟨0, by omega, rfl, rfl⟩
      case round =>
        obtain ⟨j, hj, rfl, rfl⟩ := hrel
        have hc : crcN j k < 4294967296 := crcN_lt (by omega) j
        by_cases hj8 : j < 8
        · go_wp2
          go_round
          case rel => exact ⟨j + 1, by omega, by go_num, by rw [crc1_go hc]; rfl⟩
          case measure => simp [intOf]; omega
        · obtain rfl : j = 8 := by omega
          go_wp2
          go_roundw
          case rel =>
            refine ⟨k + 1, by omega, by go_num, ?_, ?_, hb.setCell (by simp) _⟩
            · rw [heap_setCell_other _ _ _ _ (by simp)]; exact H0.out
            · rw [← tab_step]; exact heap_setCell_same _ _ _ _ _ _ H1.out
          case measure => simp [intOf]; omega
    · obtain rfl : k = 256 := by omega
      rw [tab_full] at h1
      have H0 := Lib.hid h0
      have H1 := Lib.hid h1
      clear h0 h1
      go_wp2_with (first | (refine wpList_load_row rfl 83 _ rfl (w.heap.size + 1) rfl 83 (Tab crc8) (0, 0) _ H1.out Try.underlying83 rfl (by rw [Tab_size]; exact info83) ?_) | (refine wpList_store_row rfl 83 _ _ rfl w.heap.size (Tab crc8) rfl rfl 83 _ H0.out (by rw [Tab_size]; exact info83) (by rw [Tab_size, Tab_size]) (Tab_one _) ?_))
      have hset : (wo.setRow w.heap.size (Tab crc8)).heap[w.heap.size]? = some (.cells (Tab crc8) 83 (0, 0)) := setRow_heap _ _ _ _ _ _ H0.out
      refine bodyPost_ret (v := .agg (Tab crc8)) (results_cell_row rfl _ _ w.heap.size 83 (Tab crc8) (0, 0) _ rfl hset Try.underlying83 rfl (by rw [Tab_size]; exact info83)) rfl ⟨rfl, ?_⟩
      exact hb.trans ⟨rfl, rfl, rfl, by simp, fun j hj => setRow_other _ _ _ _ (by omega)⟩
end Go.Proofs.Ytbiiahbhgjjhgaa
