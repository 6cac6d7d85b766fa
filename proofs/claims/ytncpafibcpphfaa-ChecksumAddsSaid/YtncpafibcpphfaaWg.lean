/- The walk of awake: the chapter's examples hold. No condition. -/
import Derived.Test.YtncpafibcpphfaaWd
import Derived.Test.YtncpafibcpphfaaWf
import Derived.Lib.SlBytesConst
namespace Go.Proofs.Ytncpafibcpphfaa
open Go.RowKit
def nine : Array Value := #[.int .u8 49, .int .u8 50, .int .u8 51, .int .u8 52, .int .u8 53, .int .u8 54, .int .u8 55, .int .u8 56, .int .u8 57]
theorem sum9 : updS 0 [49, 50, 51, 52, 53, 54, 55, 56, 57] = 3808858755 := by decide +kernel
theorem dig0 : dig [] = 14695981038468906945 := by decide +kernel
theorem dig97 : dig [⟨97, by omega⟩] = 12638187199001669824 := by decide +kernel
theorem sum0 : updS 0 [] = 0 := by decide +kernel
theorem aw1 (w : World) : Calls Try.prog 13 #[.slice (some ⟨w.heap.size, 0, none⟩) 9 9] (w.alloc (.cells nine 5 (9, 10))) fun e w' => e = .returned (.int .u32 3808858755) ∧ Below w.heap.size w w' := by
  have hr := reads_marked w nine 5 (9, 10)
  refine (sum_any 9 9 _ [49, 50, 51, 52, 53, 54, 55, 56, 57] _ (by omega) hr (by decide)).mono ?_
  rintro e w' ⟨rfl, hb⟩
  exact ⟨by rw [sum9]; rfl, ((Below.refl _ w).alloc (Nat.le_refl _) _).trans (hb.mono (by simp))⟩
theorem aw2 (w : World) : Calls Try.prog 13 #[.slice none 0 0] w fun e w' => e = .returned (.int .u32 0) ∧ Below w.heap.size w w' := by
  refine (sum_any 0 0 none [] w (by omega) Reads.none_ (by simp)).mono ?_
  rintro e w' ⟨rfl, hb⟩
  exact ⟨by rw [sum0]; rfl, hb⟩
theorem aw3 (w : World) : Calls Try.prog 11 #[.int .u32 1383945041, .int .u32 0, .int .i64 0] w fun e w' => e = .returned (.int .u32 1383945041) ∧ Below w.heap.size w w' := by
  refine (combine_in 1383945041 0 0 w (by omega) (by omega) (by omega)).mono ?_
  rintro e w' ⟨rfl, hb⟩
  exact ⟨rfl, hb⟩
theorem aw4 (w : World) : Calls Try.prog 15 #[.slice none 0 0] w fun e w' => e = .returned (.int .u64 14695981038468906945) ∧ Below w.heap.size w w' := by
  refine (Digest_any 0 0 none [] w (by omega) Reads.none_).mono ?_
  rintro e w' ⟨rfl, hb⟩
  exact ⟨by rw [dig0]; rfl, hb⟩
theorem aw5 (w : World) : Calls Try.prog 15 #[.slice (some ⟨w.heap.size, 0, none⟩) 1 1] (w.alloc (.cells #[.int .u8 97] 5 (1, 2))) fun e w' => e = .returned (.int .u64 12638187199001669824) ∧ Below w.heap.size w w' := by
  have hr := reads_marked w #[.int .u8 97] 5 (1, 2)
  refine (Digest_any 1 1 _ [⟨97, by omega⟩] _ (by omega) hr).mono ?_
  rintro e w' ⟨rfl, hb⟩
  exact ⟨by rw [dig97]; rfl, ((Below.refl _ w).alloc (Nat.le_refl _) _).trans (hb.mono (by simp))⟩
set_option maxHeartbeats 400000 in
theorem awake_any (w : World) : Calls Try.prog 10 #[] w fun e w' => e = .returned (.bool true) ∧ Below w.heap.size w w' := by
  have kc := fun (w : World) (C : Array Value) (n c : Nat) => Lib.run_convert_bytes_const (P := Try.prog) w 26 5 C n c Try.underlying26 Try.underlying5
  go_enter Try.func10, Try.ntmps10
  go_wp2_with fail
  refine (aw1 w).mono ?_
  rintro e w1 ⟨rfl, hb1⟩
  go_wp2_with fail
  refine (aw2 w1).mono ?_
  rintro e w2 ⟨rfl, hb2⟩
  go_wp2_with fail
  refine (aw3 w2).mono ?_
  rintro e w3 ⟨rfl, hb3⟩
  go_wp2_with fail
  refine (aw4 w3).mono ?_
  rintro e w4 ⟨rfl, hb4⟩
  go_wp2_with fail
  refine (aw5 w4).mono ?_
  rintro e w5 ⟨rfl, hb5⟩
  go_wp2_with fail
  go_ret
  have h2 := hb1.trans (hb2.mono hb1.size)
  have h3 := h2.trans (hb3.mono h2.size)
  have h4 := h3.trans (hb4.mono h3.size)
  exact ⟨rfl, h4.trans (hb5.mono h4.size)⟩
end Go.Proofs.Ytncpafibcpphfaa
