/- The walk of the law ChecksumDigests. No condition. -/
import Derived.Test.YtncpafibcpphfaaWg
import Derived.Test.YtncpafibcpphfaaWk
import Derived.Test.YtncpafibcpphfaaLc
import Derived.Test.YtncpafibcpphfaaArgsB
namespace Go.Proofs.Ytncpafibcpphfaa
open Go.RowKit
set_option maxHeartbeats 1000000 in
theorem digests_near (w : World) (A B : Option Addr) (n c m d a b : Nat) (l s : List B8) (hx : Reads w w.heap.size 1 A n (b8s l)) (hy : Reads w w.heap.size 8 B m (b8s s)) (hn : n ≤ 5000) (hm : m ≤ 600) :
    Calls Try.prog 8 #[.agg #[.slice A n c, .slice B m d, .int .u64 a, .int .u64 b]] w fun e w' => e = .returned (.bool true) ∧ Below w.heap.size w w' := by
  have hB0 : Below w.heap.size w (w.alloc (.cells #[.slice A n c, .slice B m d, .int .u64 a, .int .u64 b] 39)) := (Below.refl _ w).alloc (Nat.le_refl _) _
  have hK := Blk.new w 39 #[.slice A n c, .slice B m d, .int .u64 a, .int .u64 b]
  have k0 := hK.cell 0
  have k1 := hK.cell 1
  have k2 := hK.cell 2
  have k3 := hK.cell 3
  have hs0 : (w.alloc (.cells #[.slice A n c, .slice B m d, .int .u64 a, .int .u64 b] 39)).heap.size = w.heap.size + 1 := by simp
  clear hK
  go_enter Try.func8, Try.ntmps8
  go_wp2_with fail
  generalize hW0 : (w.alloc (.cells #[.slice A n c, .slice B m d, .int .u64 a, .int .u64 b] 39)) = W0 at *
  have hs1 : w.heap.size < W0.heap.size := by omega
  have k0' : W0.cell? ⟨w.heap.size, 0, none⟩ = some (.slice A n c) := k0
  have k1' : W0.cell? ⟨w.heap.size, 1, none⟩ = some (.slice B m d) := k1
  have k2' : W0.cell? ⟨w.heap.size, 2, none⟩ = some (.int .u64 a) := k2
  have k3' : W0.cell? ⟨w.heap.size, 3, none⟩ = some (.int .u64 b) := k3
  clear k0 k1 k2 k3 hW0 hs0
  go_region_held3 (fun w' => w'.cell? ⟨w.heap.size, 0, none⟩ = some (.slice A n c) ∧ w'.cell? ⟨w.heap.size, 1, none⟩ = some (.slice B m d) ∧ w'.cell? ⟨w.heap.size, 2, none⟩ = some (.int .u64 a) ∧ w'.cell? ⟨w.heap.size, 3, none⟩ = some (.int .u64 b) ∧ Below w.heap.size w w' ∧ w.heap.size < w'.heap.size)
    (first
      | (go_keep; done)
      | (go_split_ands
         refine ⟨?_, ?_, ?_, ?_, ?_, ?_⟩ <;> first | assumption | exact Below.drew (by assumption) | exact (hb'.cell (by assumption)).trans (by assumption) | exact Below.trans (by assumption) (hb'.mono (Nat.le_of_lt (by assumption))) | exact Nat.lt_of_lt_of_le (by assumption) hb'.size))
    (first
      | (go_at_call 10; refine (awake_any _).mono ?_; rintro e w' ⟨rfl, hb'⟩)
      | (go_at_call 15; refine (Digest_any _ _ _ l _ (by omega) (hx.up (by go_split_ands; assumption))).mono ?_; rintro e w' ⟨rfl, hb'⟩)
      | (go_at_call 16; refine (refDigest_any _ _ _ l _ (by omega) (hx.up (by go_split_ands; assumption))).mono ?_; rintro e w' ⟨rfl, rfl⟩)
      | (go_at_call 17; refine (Sectors_any _ _ _ s _ (by omega) (hy.up (by go_split_ands; assumption))).mono ?_; rintro e w' ⟨rfl, hb'⟩)
      | (go_at_call 18; refine (refSectors_any _ _ _ s _ (by omega) (hy.up (by go_split_ands; assumption))).mono ?_; rintro e w' ⟨rfl, hb'⟩)
      | (go_at_call 19; refine (Pair_any _ _ _).mono ?_; rintro e w' ⟨rfl, hb'⟩)
      | (go_at_call 20; refine (refPair_any _ _ _).mono ?_; rintro e w' ⟨rfl, hb'⟩))
  rename_i hH
  have HH := Lib.hid hH
  clear hH
  go_wp2
  go_ret
  exact ⟨rfl, HH.out.2.2.2.2.1⟩
set_option maxHeartbeats 400000 in
theorem digests_far (w : World) (A B : Option Addr) (n c m d a b : Nat) (hn : n ≤ maxLen) (hm : m ≤ maxLen) (hf : 5000 < n ∨ 600 < m) :
    Calls Try.prog 8 #[.agg #[.slice A n c, .slice B m d, .int .u64 a, .int .u64 b]] w fun e w' => e = .returned (.bool true) ∧ Below w.heap.size w w' := by
  unfold maxLen at hn hm
  have hB0 : Below w.heap.size w (w.alloc (.cells #[.slice A n c, .slice B m d, .int .u64 a, .int .u64 b] 39)) := (Below.refl _ w).alloc (Nat.le_refl _) _
  by_cases h1 : 5000 < n
  · go_enter Try.func8, Try.ntmps8
    go_wp2_with fail
    refine (awake_any _).mono ?_
    rintro e w1 ⟨rfl, hb1⟩
    go_wp2_with fail
    go_ret
    exact ⟨rfl, hB0.trans (hb1.mono hB0.size)⟩
  · have h2 : 600 < m := by omega
    go_enter Try.func8, Try.ntmps8
    go_wp2_with fail
    refine (awake_any _).mono ?_
    rintro e w1 ⟨rfl, hb1⟩
    go_wp2_with fail
    go_ret
    exact ⟨rfl, hB0.trans (hb1.mono hB0.size)⟩
theorem walkChecksumDigests (w : World) (v0 : Value) (h0 : Arg39 w v0) :
    Calls Try.prog 8 #[v0] w fun e w' => e = .returned (.bool true) ∧ Below w.heap.size w w' := by
  obtain ⟨v1, v2, a, b, rfl, ⟨A, n, c, l, rfl, hx, bx, hnc, hcm⟩, ⟨B, m, d, s, rfl, hy, hmd, hdm⟩, _, _⟩ := h0
  by_cases hf : 5000 < n ∨ 600 < m
  · exact digests_far w A B n c m d a b (by omega) (by omega) hf
  · rw [← b8of_u8s bx] at hx
    exact digests_near w A B n c m d a b _ s hx hy (by omega) (by omega)
end Go.Proofs.Ytncpafibcpphfaa
