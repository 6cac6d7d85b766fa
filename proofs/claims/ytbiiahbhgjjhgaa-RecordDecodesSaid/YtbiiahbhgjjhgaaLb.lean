/- The walk of the law RecordDecodes. No condition. -/
import Derived.Test.YtbiiahbhgjjhgaaWp
import Derived.Test.YtbiiahbhgjjhgaaWq
import Derived.Test.YtbiiahbhgjjhgaaArgs
namespace Go.Proofs.Ytbiiahbhgjjhgaa
open Go.RowKit
set_option maxRecDepth 100000 in
set_option maxHeartbeats 1000000 in
theorem walkRecordDecodes (w : World) (v0 : Value) (h0 : Arg28 w v0) : Calls Try.prog 5 #[v0] w fun e w' => e = .returned (.bool true) ∧ Below w.heap.size w w' := by
  obtain ⟨A, n, c, l, rfl, hR, hnc, hcm, hl⟩ := h0
  by_cases c1 : 1100 < n
  · have c1' : (1100 : Int) < n := by omega
    go_enter Try.func5, Try.ntmps5
    go_wp2_with fail
    refine (awake_any w).mono ?_
    rintro e w1 ⟨rfl, hb1⟩
    go_wp2_with fail
    go_ret
    exact ⟨rfl, hb1⟩
  · have c1' : ¬ (1100 : Int) < n := by omega
    have HX := Lib.hid (And.intro hR (And.intro hnc hl))
    clear hR hnc hl
    go_enter Try.func5, Try.ntmps5
    go_wp2_with fail
    refine (Decode_any n c A l w HX.out.1 (by omega) HX.out.2.1 HX.out.2.2).mono ?_
    rintro e w1 ⟨hb1, A1, k1, rfl, hR1, _, _, _⟩
    have H1 := Lib.hid (And.intro hb1 hR1)
    have hs1 := hb1.size
    clear hb1 hR1
    generalize hd : decM l = d at *
    have HD := Lib.hid hd
    clear hd
    go_wp2_with fail
    have hbx : Below w1.heap.size w1 (w1.alloc (.cells #[.int .i64 (d.k : Nat), .int .i64 (d.q : Nat), .slice A1 d.p.length k1] 27)) := (Below.refl _ _).alloc (Nat.le_refl _) _
    have q1 := Blk.new w1 27 #[.int .i64 (d.k : Nat), .int .i64 (d.q : Nat), .slice A1 d.p.length k1]
    have r1 := H1.out.2.up hbx
    have hsx : (w1.alloc (.cells #[.int .i64 (d.k : Nat), .int .i64 (d.q : Nat), .slice A1 d.p.length k1] 27)).heap.size = w1.heap.size + 1 := by simp
    have hRx := (HX.out.1.up H1.out.1).up hbx
    generalize (w1.alloc (.cells #[.int .i64 (d.k : Nat), .int .i64 (d.q : Nat), .slice A1 d.p.length k1] 27)) = W1 at *
    refine (refDecode_any n c A l W1 hRx (by omega) HX.out.2.1 HX.out.2.2).mono ?_
    rintro e w2 ⟨hb2, A2, k2, rfl, hR2, _, _, _⟩
    rw [HD.out] at hR2 ⊢
    have hs2 := hb2.size
    have q2 := q1.below hb2 q1.lt
    have r2 := r1.up hb2
    have H2 := Lib.hid (And.intro (hbx.trans (hb2.mono (by omega))) (And.intro hR2 (And.intro q2 r2)))
    clear hb2 hR2 q1 r1 q2 r2 hRx hbx
    go_wp2_with fail
    have hby : Below w2.heap.size w2 (w2.alloc (.cells #[.int .i64 (d.k : Nat), .int .i64 (d.q : Nat), .slice A2 d.p.length k2] 27)) := (Below.refl _ _).alloc (Nat.le_refl _) _
    have q3 := Blk.new w2 27 #[.int .i64 (d.k : Nat), .int .i64 (d.q : Nat), .slice A2 d.p.length k2]
    have q1 := H2.out.2.2.1.below hby H2.out.2.2.1.lt
    have r1 := H2.out.2.2.2.up hby
    have r2 := H2.out.2.1.up hby
    generalize (w2.alloc (.cells #[.int .i64 (d.k : Nat), .int .i64 (d.q : Nat), .slice A2 d.p.length k2] 27)) = W2 at *
    refine (awake_any W2).mono ?_
    rintro e w3 ⟨rfl, hb3⟩
    have p1 := q1.below hb3 q1.lt
    have p3 := q3.below hb3 q3.lt
    have a0 : w3.cell? ⟨w1.heap.size, 0, none⟩ = some (.int .i64 (d.k : Nat)) := p1.cell 0
    have a1 : w3.cell? ⟨w1.heap.size, 1, none⟩ = some (.int .i64 (d.q : Nat)) := p1.cell 1
    have a2 : w3.cell? ⟨w1.heap.size, 2, none⟩ = some (.slice A1 d.p.length k1) := p1.cell 2
    have b0 : w3.cell? ⟨w2.heap.size, 0, none⟩ = some (.int .i64 (d.k : Nat)) := p3.cell 0
    have b1 : w3.cell? ⟨w2.heap.size, 1, none⟩ = some (.int .i64 (d.q : Nat)) := p3.cell 1
    have b2 : w3.cell? ⟨w2.heap.size, 2, none⟩ = some (.slice A2 d.p.length k2) := p3.cell 2
    have H3 := Lib.hid (And.intro hby (And.intro hb3 (And.intro (r1.up hb3) (r2.up hb3))))
    clear hby hb3 q1 q3 r1 r2 p1 p3
    go_wp2_with fail
    refine (Same_any (d.k : Nat) (d.q : Nat) (d.k : Nat) (d.q : Nat) d.p.length k1 d.p.length k2 A1 A2 d.p d.p w3 H3.out.2.2.1 H3.out.2.2.2).mono ?_
    rintro e w4 ⟨rfl, hb4⟩
    rw [sameB_refl]
    go_wp2_with fail
    go_ret
    refine ⟨by simp, ?_⟩
    have h5 := H3.out.1.size
    have h6 := H3.out.2.1.size
    exact ((H1.out.1.trans (H2.out.1.mono hs1)).trans (H3.out.1.mono (by omega))).trans ((H3.out.2.1.mono (by omega)).trans (hb4.mono (by omega)))
end Go.Proofs.Ytbiiahbhgjjhgaa
