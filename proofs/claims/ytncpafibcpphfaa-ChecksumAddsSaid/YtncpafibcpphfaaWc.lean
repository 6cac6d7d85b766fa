/- The walks of Update, Combine, Sum and the reference's Combine. Conditions: the register is a 32-bit number, the bytes are bytes, at most 1000000 of them. -/
import Derived.Test.YtncpafibcpphfaaWa
import Derived.Test.YtncpafibcpphfaaWb
import Derived.Test.YtncpafibcpphfaaLib
namespace Go.Proofs.Ytncpafibcpphfaa
open Go.RowKit

set_option maxRecDepth 100000 in
set_option maxHeartbeats 400000 in
theorem combine_in (a b n : Nat) (w : World) (ha : a < 4294967296) (hb : b < 4294967296) (hn : n ≤ 65536) :
    Calls Try.prog 11 #[.int .u32 a, .int .u32 b, .int .i64 n] w fun e w' => e = .returned (.int .u32 (updZ n a ^^^ b : Nat)) ∧ Below w.heap.size w w' := by
  have hz := zero46
  go_enter Try.func11, Try.ntmps11
  go_wp2_with (first | (go_at_call 21; refine (registers_any _).mono ?_; rintro e w1 ⟨rfl, hb1⟩) | (refine wpList_store_row rfl 46 _ _ rfl _ (Tab crc8) rfl rfl 46 _ (heap_alloc_new _ _) (by rw [Tab_size]; exact info46) (by rw [Tab_size, Tab_size]) (Tab_one _) ?_))
  have hW : Blk ((w1.alloc (Obj.cells (Tab fun _ => 0) 46)).setRow w1.heap.size (Tab crc8)) w1.heap.size 46 (Tab crc8) := (Blk.new _ _ _).setRow _
  have hB : Below w.heap.size w ((w1.alloc (Obj.cells (Tab fun _ => 0) 46)).setRow w1.heap.size (Tab crc8)) := below_setRow (hb1.alloc hb1.size _) hb1.size _
  generalize ((w1.alloc (Obj.cells (Tab fun _ => 0) 46)).setRow w1.heap.size (Tab crc8)) = W at *
  generalize w1.heap.size = g at *
  go_loop [0, 16] (fun r i => ∃ k : Nat, k ≤ n ∧ i = .int .i64 k ∧ r = .int .u32 (updZ k a : Nat)) (fun _ i => n - (intOf i).toNat)
  case atStart => exact ⟨0, by omega, rfl, rfl⟩
  case round =>
    obtain ⟨k, hk, rfl, rfl⟩ := hrel
    have hr := updZ_lt ha k
    have HS := Lib.hid (updZ_succ k a)
    generalize hy : updZ k a = y at *
    have HY := Lib.hid hy
    clear hy
    by_cases hlt : k < n
    · have hcell : W.cell? ⟨g, y % 256, none⟩ = some (.int .u32 (crc8 (y % 256) : Nat)) := by rw [hW.cell, Tab_get _ _ (by omega)]
      go_wp2
      go_round
      case rel => exact ⟨k + 1, by omega, by go_num, by rw [HS.out, ← upd_go0]; exact congrArg _ (u32_xor_nat (y / 256) (crc8 (y % 256)) (by omega) (crcN_lt (by omega) 8))⟩
      case measure => simp [intOf]; omega
    · go_wp2
      go_ret
      obtain rfl : k = n := by omega
      rw [HY.out]
      exact ⟨congrArg _ (congrArg _ (u32_xor_nat _ _ hr hb)), hB⟩
set_option maxHeartbeats 400000 in
theorem combine_out (a b n : Int) (w : World) (hn : n < 0 ∨ 65536 < n) :
    Calls Try.prog 11 #[.int .u32 a, .int .u32 b, .int .i64 n] w fun e w' => e = .returned (.int .u32 0) ∧ Below w.heap.size w w' := by
  rcases hn with hn | hn
  · go_enter Try.func11, Try.ntmps11
    go_wp2
    go_ret
    exact ⟨rfl, Below.refl _ _⟩
  · have h0 : ¬ n < 0 := by omega
    go_enter Try.func11, Try.ntmps11
    go_wp2
    go_ret
    exact ⟨rfl, Below.refl _ _⟩
set_option maxHeartbeats 400000 in
theorem refCombine_out (a b n : Int) (w : World) (hn : n < 0 ∨ 65536 < n) :
    Calls Try.prog 12 #[.int .u32 a, .int .u32 b, .int .i64 n] w fun e w' => e = .returned (.int .u32 0) ∧ w = w' := by
  rcases hn with hn | hn
  · go_enter Try.func12, Try.ntmps12
    go_wp2
    go_ret
    exact ⟨rfl, rfl⟩
  · have h0 : ¬ n < 0 := by omega
    go_enter Try.func12, Try.ntmps12
    go_wp2
    go_ret
    exact ⟨rfl, rfl⟩
theorem register_zero (r : Nat) (w : World) (hr : r < 4294967296) :
    Calls Try.prog 22 #[.int .u32 r, .int .u8 0] w fun e w' => e = .returned (.int .u32 (updB r 0 : Nat)) ∧ w = w' :=
  register_any r 0 w hr (by omega)
set_option maxHeartbeats 400000 in
theorem refCombine_in (a b n : Nat) (w : World) (ha : a < 4294967296) (hb : b < 4294967296) (hn : n ≤ 65536) :
    Calls Try.prog 12 #[.int .u32 a, .int .u32 b, .int .i64 n] w fun e w' => e = .returned (.int .u32 (updZ n a ^^^ b : Nat)) ∧ w = w' := by
  go_enter Try.func12, Try.ntmps12
  go_wp2
  go_loop [0, 7] (fun r i => ∃ k : Nat, k ≤ n ∧ i = .int .i64 k ∧ r = .int .u32 (updZ k a : Nat)) (fun _ i => n - (intOf i).toNat)
  case atStart => exact ⟨0, by omega, rfl, rfl⟩
  case round =>
    obtain ⟨k, hk, rfl, rfl⟩ := hrel
    have hr := updZ_lt ha k
    have HS := Lib.hid (updZ_succ k a)
    generalize hy : updZ k a = y at *
    have HY := Lib.hid hy
    clear hy
    by_cases hlt : k < n
    · go_wp2_with (go_at_call 22; refine (register_zero _ _ hr).mono ?_; rintro e w' ⟨rfl, rfl⟩)
      go_round
      case rel => exact ⟨k + 1, by omega, by go_num, by rw [HS.out]⟩
      case measure => simp [intOf]; omega
    · go_wp2
      go_ret
      obtain rfl : k = n := by omega
      rw [HY.out]
      exact ⟨congrArg _ (congrArg _ (u32_xor_nat _ _ hr hb)), rfl⟩
end Go.Proofs.Ytncpafibcpphfaa
