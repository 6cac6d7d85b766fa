/- The walk of the reference's register. No condition. -/
import Derived.Test.YtbiiahbhgjjhgaaRows
import Derived.Test.YtbiiahbhgjjhgaaMath
import Derived.WalkKit
import Derived.WalkSpells
import Derived.WalkLawsBesides
import Derived.Outline
import Derived.Lib.Hide
namespace Go.Proofs.Ytbiiahbhgjjhgaa
open Go.RowKit
set_option maxHeartbeats 400000 in
theorem register_any (r b : Nat) (w : World) (hr : r < 4294967296) (hb : b < 256) :
    Calls Try.prog 45 #[.int .u32 r, .int .u8 b] w fun e w' => e = .returned (.int .u32 (crc8 (r ^^^ b) : Nat)) ∧ w = w' := by
  go_enter Try.func45, Try.ntmps45
  have hx : ∀ a b : Nat, a < 4294967296 → b < 4294967296 → bits .xor .u32 (a : Int) (b : Int) = ((a ^^^ b : Nat) : Int) := u32_xor_nat
  have hb' : b < 4294967296 := by omega
  have hrb : r ^^^ b < 4294967296 := Nat.xor_lt_two_pow (n := 32) hr hb'
  go_wp2
  go_loop [0, 5] (fun x i => ∃ k : Nat, k ≤ 8 ∧ i = .int .i64 k ∧ x = .int .u32 (crcN k (r ^^^ b) : Nat)) (fun _ i => 8 - (intOf i).toNat)
  case atStart => exact ⟨0, by omega, rfl, rfl⟩
  case round =>
    obtain ⟨k, hk, rfl, rfl⟩ := hrel
    have hc := crcN_lt hrb k
    generalize hy : crcN k (r ^^^ b) = y at *
    have HY := Lib.hid hy
    clear hy
    go_wp2
    · go_round
      case rel => exact ⟨k + 1, by omega, by go_num, by rw [crc1_odd hc ‹_›, ← HY.out]; rfl⟩
      case measure => simp [intOf]; omega
    · go_round
      case rel => exact ⟨k + 1, by omega, by go_num, by rw [crc1_even ‹_›, ← HY.out]; rfl⟩
      case measure => simp [intOf]; omega
    · obtain rfl : k = 8 := by omega
      go_ret
      rw [← HY.out]
      exact ⟨rfl, rfl⟩
end Go.Proofs.Ytbiiahbhgjjhgaa
