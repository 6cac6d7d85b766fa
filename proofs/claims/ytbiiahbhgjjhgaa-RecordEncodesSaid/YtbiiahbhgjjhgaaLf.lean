/- The walk of the law RecordEncodes. No condition. -/
import Derived.Test.YtbiiahbhgjjhgaaWs
import Derived.Test.YtbiiahbhgjjhgaaArgs
namespace Go.Proofs.Ytbiiahbhgjjhgaa
open Go.RowKit
theorem encE_len (k q : Int) (p : List Nat) : (encE k q p).2.length ≤ 2000 := by
  unfold encE
  split
  · simp
  · split
    · simp
    · dsimp only
      rw [enc_len]
      unfold szN
      omega
set_option maxRecDepth 100000 in
set_option maxHeartbeats 2000000 in
theorem walkRecordEncodes (w : World) (v0 : Value) (h0 : Arg27 w v0) : Calls Try.prog 4 #[v0] w fun e w' => e = .returned (.bool true) ∧ Below w.heap.size w w' := by
  obtain ⟨k, q, A, n, c, p, rfl, hR, hnc, hcm, hp, _, _⟩ := h0
  unfold recV
  have hb0 : Below w.heap.size w (w.alloc (.cells #[.int .i64 k, .int .i64 q, .slice A n c] 27)) := (Below.refl _ _).alloc (Nat.le_refl _) _
  by_cases c1 : 5000 < n
  · have c1' : (5000 : Int) < n := by omega
    go_enter Try.func4, Try.ntmps4
    go_wp2_with fail
    refine (awake_any _).mono ?_
    rintro e w1 ⟨rfl, hb1⟩
    go_wp2_with fail
    go_ret
    exact ⟨rfl, hb0.trans (hb1.mono hb0.size)⟩
  have c1' : ¬ (5000 : Int) < n := by omega
  go_enter Try.func4, Try.ntmps4
  go_wp2_with fail
  have g0 := Blk.new w 27 #[.int .i64 k, .int .i64 q, .slice A n c]
  generalize (w.alloc (.cells #[.int .i64 k, .int .i64 q, .slice A n c] 27)) = W at *
  have HX := Lib.hid (And.intro hR (And.intro hp (And.intro hb0 g0)))
  clear hR hp hb0 g0
  refine (Encode_any k q n c A p W (HX.out.1.up HX.out.2.2.1) HX.out.2.1).mono ?_
  rintro e w1 ⟨hb1, A1, d1, rfl, hR1, hc1, hm1⟩
  have g1 := HX.out.2.2.2.below hb1 HX.out.2.2.2.lt
  have x0 : w1.cell? ⟨w.heap.size, 0, none⟩ = some (.int .i64 k) := g1.cell 0
  have x1 : w1.cell? ⟨w.heap.size, 1, none⟩ = some (.int .i64 q) := g1.cell 1
  have x2 : w1.cell? ⟨w.heap.size, 2, none⟩ = some (.slice A n c) := g1.cell 2
  have hbw1 := HX.out.2.2.1.trans (hb1.mono HX.out.2.2.1.size)
  have H1 := Lib.hid (And.intro hbw1 hR1)
  clear hb1 hR1 hc1 hm1 g1 hbw1
  have hlr := encE_len k q p
  have HR2 := Lib.hid (refEncode_any k q n c A p w1 (HX.out.1.up H1.out.1) HX.out.2.1)
  generalize encE k q p = r at *
  obtain ⟨re, rl⟩ := r
  dsimp only at hlr H1 ⊢
  go_wp2_with fail
  refine HR2.out.mono ?_
  rintro e w2 ⟨hb2, A2, d2, rfl, hR2, _, _⟩
  dsimp only at hR2 ⊢
  have H2 := Lib.hid (And.intro (H1.out.1.trans (hb2.mono H1.out.1.size)) (And.intro (H1.out.2.up hb2) hR2))
  clear hb2 hR2
  go_wp2_with fail
  refine (awake_any _).mono ?_
  rintro e w3 ⟨rfl, hb3⟩
  have H3 := Lib.hid (And.intro (H2.out.1.trans (hb3.mono H2.out.1.size)) (And.intro (H2.out.2.1.up hb3) (H2.out.2.2.up hb3)))
  clear hb3
  go_wp2_with fail
  refine (SameSectors_any rl.length d1 d2 A1 A2 rl w3 H3.out.2.1 H3.out.2.2 hlr).mono ?_
  rintro e w4 ⟨rfl, hb4⟩
  go_wp2_with fail
  go_ret
  exact ⟨by simp, H3.out.1.trans (hb4.mono H3.out.1.size)⟩
end Go.Proofs.Ytbiiahbhgjjhgaa
