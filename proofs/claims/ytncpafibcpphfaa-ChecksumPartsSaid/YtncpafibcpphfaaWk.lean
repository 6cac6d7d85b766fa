/- The walk of Pair. Conditions: 64-bit numbers. -/
import Derived.Test.YtncpafibcpphfaaWj
import Derived.RegionTactic
import Derived.BigRegion
import Derived.ChangeAlike
namespace Go.Proofs.Ytncpafibcpphfaa
open Go.RowKit
def pcell (a b k i : Nat) : Nat := if i < k then (pb a i).1 else if 8 ≤ i ∧ i < 8 + k then (pb b (i - 8)).1 else 0
def T16 (f : Nat → Nat) : Array Value := ((List.range 16).map fun i => Value.int .u8 (f i : Int)).toArray
theorem T16_size (f : Nat → Nat) : (T16 f).size = 16 := by simp [T16]
theorem T16_get (f : Nat → Nat) (k : Nat) (h : k < 16) : (T16 f)[k]? = some (.int .u8 (f k : Int)) := by simp [T16, h]
theorem T16_set (f : Nat → Nat) (k v : Nat) : (T16 f).setIfInBounds k (.int .u8 (v : Int)) = T16 fun i => if i = k then v else f i := by
  unfold T16
  rw [List.setIfInBounds_toArray]
  congr 1
  apply List.ext_getElem
  · simp
  · intro i h1 h2
    simp only [List.getElem_set, List.getElem_map, List.getElem_range]
    by_cases e : k = i
    · subst e; simp
    · rw [if_neg e, if_neg (fun x => e x.symm)]
theorem T16_congr {f g : Nat → Nat} (h : ∀ i, i < 16 → f i = g i) : T16 f = T16 g := by
  unfold T16
  rw [List.map_congr_left (g := fun i => Value.int .u8 (g i : Int))]
  intro i hi
  rw [h i (by simpa using hi)]
theorem pcell_step (a b k : Nat) (hk : k < 8) : ((T16 (pcell a b k)).setIfInBounds k (.int .u8 ((a : Int) / 2 ^ (8 * k) % 256))).setIfInBounds (8 + k) (.int .u8 ((b : Int) / 2 ^ (8 * k) % 256)) = T16 (pcell a b (k + 1)) := by
  rw [pb_val, pb_val, T16_set, T16_set]
  apply T16_congr
  intro i hi
  unfold pcell
  by_cases h1 : i = 8 + k
  · subst h1
    rw [if_pos rfl, if_neg (by omega), if_pos (by omega), show 8 + k - 8 = k by omega]
  · by_cases h2 : i = k
    · subst h2
      rw [if_neg h1, if_pos rfl, if_pos (by omega)]
    · rw [if_neg h1, if_neg h2]
      by_cases h3 : i < k
      · rw [if_pos h3, if_pos (by omega)]
      · rw [if_neg h3, if_neg (by omega : ¬ i < k + 1)]
        by_cases h4 : 8 ≤ i ∧ i < 8 + k
        · rw [if_pos h4, if_pos (by omega)]
        · rw [if_neg h4, if_neg (by omega)]
theorem T16_full (a b : Nat) : (T16 (pcell a b 8)).toList = b8s (pbs a 8 ++ pbs b 8) := by
  simp [T16, pcell, b8s, pbs, List.range_succ]
theorem zero54 (w : World) : (zeroValue 54).run Try.prog w = .ok (.agg (T16 (pcell 0 0 0))) w := by kernel_rfl
set_option maxRecDepth 100000 in
set_option maxHeartbeats 1000000 in
theorem Pair_any (a b : Nat) (w : World) :
    Calls Try.prog 19 #[.int .u64 a, .int .u64 b] w fun e w' => e = .returned (.int .u64 (dig (pbs a 8 ++ pbs b 8) : Nat)) ∧ Below w.heap.size w w' := by
  have hz := zero54
  go_enter Try.func19, Try.ntmps19
  go_wp2
  go_loopw [7] (fun i wr => ∃ k : Nat, k ≤ 8 ∧ i = .int .i64 k ∧ Blk wr w.heap.size 54 (T16 (pcell a b k)) ∧ Below w.heap.size w wr) (fun i _ => 8 - (intOf i).toNat)
  case atStart => exact ⟨0, by omega, rfl, Blk.new _ _ _, (Below.refl _ _).alloc (Nat.le_refl _) _⟩
  case round =>
    obtain ⟨k, hk, rfl, hB, hb⟩ := hrel
    by_cases hlt : k < 8
    · have hc1 : wr.cell? ⟨w.heap.size, k, none⟩ = some (.int .u8 (pcell a b k k : Int)) := by rw [hB.cell, T16_get _ _ (by omega)]
      have hc2 : wr.cell? ⟨w.heap.size, 8 + k, none⟩ = some (.int .u8 (pcell a b k (8 + k) : Int)) := by rw [hB.cell, T16_get _ _ (by omega)]
      have hf1 : wr.frozen? ⟨w.heap.size, k, none⟩ = false := hB.frozen _
      have hf2 : wr.frozen? ⟨w.heap.size, 8 + k, none⟩ = false := hB.frozen _
      have HB := Lib.hid hB
      clear hB
      go_wp2
      go_region
      all_goals go_wp2
      go_roundw
      case rel =>
        refine ⟨k + 1, by omega, by go_num, ?_, ?_⟩
        · rw [← pcell_step a b k hlt]
          exact (HB.out.set_ k _).set_ (8 + k) _
        · exact (hb.setCell (p := ⟨w.heap.size, k, none⟩) (Nat.le_refl _) _).setCell (p := ⟨w.heap.size, 8 + k, none⟩) (Nat.le_refl _) _ |>.drew
      case measure => simp [intOf]; omega
    · obtain rfl : k = 8 := by omega
      have hr := hB.reads (size := 1) (n := 16) (by rw [T16_size])
      rw [T16_full] at hr
      have HR := Lib.hid hr
      clear hr hB
      go_wp2_with fail
      refine (Digest_any 16 16 _ _ _ (by omega) HR.out).mono ?_
      rintro e w2 ⟨rfl, hb2⟩
      go_wp2_with fail
      go_ret
      exact ⟨rfl, hb.trans (hb2.mono hb.size)⟩
end Go.Proofs.Ytncpafibcpphfaa
