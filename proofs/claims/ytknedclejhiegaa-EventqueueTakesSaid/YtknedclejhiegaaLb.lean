/- The walk of the law EventqueueAdds. No condition. -/
import Derived.Test.YtknedclejhiegaaLa
namespace Go.Proofs.Ytknedclejhiegaa
open Go.RowKit
theorem addQ_len (l : List Em) (nx t k o : Int) (p : List Nat) : (addQ l nx t k o p).l.length ≤ l.length + 1 := by
  unfold addQ
  split
  · simp
  · split
    · simp
    · split
      · simp
      · rw [ins_len]; omega
set_option maxRecDepth 100000 in
set_option maxHeartbeats 8000000 in
theorem walkEventqueueAdds (w : World) (v0 v1 : Value) (h0 : Arg24 w v0) (h1 : Arg32 w v1) : Calls Try.prog 4 #[v0, v1] w fun e w' => e = .returned (.bool true) ∧ Below w.heap.size w w' := by
  obtain ⟨A, m, c, l, nx, rfl, hR, hmc, hcm⟩ := h0
  obtain ⟨t, n, k, o, B, d, p, rfl, hRb⟩ := h1
  unfold evC
  have hlen := hR.count
  have hb0 : Below w.heap.size w ((w.alloc (.cells #[.slice A m c, .int .i64 nx] 24)).alloc (.cells #[.int .i64 t, .int .i64 n, .int .i64 k, .int .i64 o, .slice B p.length d] 32)) := ((Below.refl _ _).alloc (Nat.le_refl _) _).alloc (by simp) _
  have g0 : Blk ((w.alloc (.cells #[.slice A m c, .int .i64 nx] 24)).alloc (.cells #[.int .i64 t, .int .i64 n, .int .i64 k, .int .i64 o, .slice B p.length d] 32)) w.heap.size 24 #[.slice A m c, .int .i64 nx] := (Blk.new w 24 #[.slice A m c, .int .i64 nx]).alloc _
  have g1 := Blk.new (w.alloc (.cells #[.slice A m c, .int .i64 nx] 24)) 32 #[.int .i64 t, .int .i64 n, .int .i64 k, .int .i64 o, .slice B p.length d]
  rw [World.size_alloc] at g1
  have hs0 : w.heap.size + 2 ≤ ((w.alloc (.cells #[.slice A m c, .int .i64 nx] 24)).alloc (.cells #[.int .i64 t, .int .i64 n, .int .i64 k, .int .i64 o, .slice B p.length d] 32)).heap.size := by simp
  have H0 := Lib.hid (And.intro (And.intro g0 g1) (And.intro hb0 (And.intro (hR.up hb0) (And.intro (hRb.up hb0) hlen))))
  clear hR hRb g0 g1 hb0 hlen
  go_enter Try.func4, Try.ntmps4
  go_upto_region 1 with fail
  generalize ((w.alloc (.cells #[.slice A m c, .int .i64 nx] 24)).alloc (.cells #[.int .i64 t, .int .i64 n, .int .i64 k, .int .i64 o, .slice B p.length d] 32)) = V at *
  have hlt0 : w.heap.size < V.heap.size := by omega
  have hlt1 : w.heap.size + 1 < V.heap.size := by omega
  have q0 : V.cell? ⟨w.heap.size, 0, none⟩ = some (.slice A m c) := H0.out.1.1.cell 0
  have q1 : V.cell? ⟨w.heap.size, 1, none⟩ = some (.int .i64 nx) := H0.out.1.1.cell 1
  have y0 : V.cell? ⟨w.heap.size + 1, 0, none⟩ = some (.int .i64 t) := H0.out.1.2.cell 0
  have y2 : V.cell? ⟨w.heap.size + 1, 2, none⟩ = some (.int .i64 k) := H0.out.1.2.cell 2
  have y3 : V.cell? ⟨w.heap.size + 1, 3, none⟩ = some (.int .i64 o) := H0.out.1.2.cell 3
  have y4 : V.cell? ⟨w.heap.size + 1, 4, none⟩ = some (.slice B p.length d) := H0.out.1.2.cell 4
  go_wp2_with fail
  refine (few_any A m c l nx V H0.out.2.2.1 (by omega)).mono ?_
  rintro e w1 ⟨rfl, hb1⟩
  obtain ⟨f, hf⟩ : ∃ f, fewB (l.map Ev.em) = f := ⟨_, rfl⟩
  rw [hf]
  have hs1 := hb1.size
  have hbw1 := H0.out.2.1.trans (hb1.mono H0.out.2.1.size)
  have hg1 : Blk w1 w.heap.size 24 #[.slice A m c, .int .i64 nx] ∧ Blk w1 (w.heap.size + 1) 32 #[.int .i64 t, .int .i64 n, .int .i64 k, .int .i64 o, .slice B p.length d] := ⟨H0.out.1.1.below hb1 (by omega), H0.out.1.2.below hb1 (by omega)⟩
  have H1 := Lib.hid (And.intro hg1 (And.intro hbw1 (And.intro (H0.out.2.2.1.up hb1) (H0.out.2.2.2.1.up hb1))))
  clear hb1 hbw1 hg1 q0 q1 y0 y2 y3 y4
  have q0 : w1.cell? ⟨w.heap.size, 0, none⟩ = some (.slice A m c) := H1.out.1.1.cell 0
  have q1 : w1.cell? ⟨w.heap.size, 1, none⟩ = some (.int .i64 nx) := H1.out.1.1.cell 1
  have y0 : w1.cell? ⟨w.heap.size + 1, 0, none⟩ = some (.int .i64 t) := H1.out.1.2.cell 0
  have y2 : w1.cell? ⟨w.heap.size + 1, 2, none⟩ = some (.int .i64 k) := H1.out.1.2.cell 2
  have y3 : w1.cell? ⟨w.heap.size + 1, 3, none⟩ = some (.int .i64 o) := H1.out.1.2.cell 3
  have y4 : w1.cell? ⟨w.heap.size + 1, 4, none⟩ = some (.slice B p.length d) := H1.out.1.2.cell 4
  cases f with
  | false =>
    clear hf
    go_wp2_with fail
    refine (awake_any _).mono ?_
    rintro e w8 ⟨rfl, hb8⟩
    go_wp2_with fail
    go_ret
    exact ⟨by simp, H1.out.2.1.trans (hb8.mono H1.out.2.1.size)⟩
  | true =>
    obtain ⟨hm60, hp⟩ := few_facts H0.out.2.2.2.2 hf
    have HP := Lib.hid hp
    clear hf hp
    by_cases hpl : 5000 < p.length
    · have hpl' : (5000 : Int) < p.length := by omega
      go_wp2_with fail
      refine (awake_any _).mono ?_
      rintro e w8 ⟨rfl, hb8⟩
      go_wp2_with fail
      go_ret
      exact ⟨by simp, H1.out.2.1.trans (hb8.mono H1.out.2.1.size)⟩
    have hpl' : ¬ (5000 : Int) < p.length := by omega
    go_wp2_with fail
    refine (Add_any A B m c d l nx t k o p w1 H1.out.2.2.1 (by omega) hmc (fun e he => by have := HP.out e he; omega) H1.out.2.2.2 (by omega)).mono ?_
    rintro e w2 ⟨hb2, v2, rfl, hv2⟩
    have HR2 := Lib.hid (fun W (hW : Below w1.heap.size w1 W) => refAdd_any A B m c d l nx t k o p W (H1.out.2.2.1.up hW) (by omega) (fun e he => by have := HP.out e he; omega) (H1.out.2.2.2.up hW) (by omega))
    have addlen := addQ_len (l.map Ev.em) nx t k o p
    rw [List.length_map, H0.out.2.2.2.2] at addlen
    generalize addQ (l.map Ev.em) nx t k o p = r at *
    obtain ⟨rl, rn, ru, re⟩ := r
    dsimp only at hv2 HR2 addlen ⊢
    obtain ⟨A2, c2, es2, rfl, hE2, hm2, hc2⟩ := hv2.val
    obtain ⟨N, hN⟩ : ∃ N, es2.length = N := ⟨_, rfl⟩
    rw [hN] at hE2 hc2 ⊢
    have hN2 : rl.length = N := by rw [← hm2, List.length_map, hN]
    have hs2 := hb2.size
    have hbx : Below w1.heap.size w1 (w2.alloc (.cells #[.slice A2 N c2, .int .i64 rn] 24)) := hb2.alloc hb2.size _
    have gx := Blk.new w2 24 #[.slice A2 N c2, .int .i64 rn]
    have hsx : w2.heap.size + 1 ≤ (w2.alloc (.cells #[.slice A2 N c2, .int .i64 rn] 24)).heap.size := by simp
    have hEx := hE2.up ((Below.refl _ w2).alloc (Nat.le_refl _) (.cells #[.slice A2 N c2, .int .i64 rn] 24))
    have H2 := Lib.hid (And.intro (And.intro (H1.out.1.1.below hbx (by omega)) (H1.out.1.2.below hbx (by omega))) (And.intro hbx (And.intro gx (And.intro hEx (And.intro hm2 hN2)))))
    clear hb2 hv2 hE2 hm2 hc2 hN hN2 hbx gx hEx q0 q1 y0 y2 y3 y4
    go_upto_region 4 with fail
    generalize (w2.alloc (.cells #[.slice A2 N c2, .int .i64 rn] 24)) = V2 at *
    have q0 : V2.cell? ⟨w.heap.size, 0, none⟩ = some (.slice A m c) := H2.out.1.1.cell 0
    have q1 : V2.cell? ⟨w.heap.size, 1, none⟩ = some (.int .i64 nx) := H2.out.1.1.cell 1
    have y0 : V2.cell? ⟨w.heap.size + 1, 0, none⟩ = some (.int .i64 t) := H2.out.1.2.cell 0
    have y2 : V2.cell? ⟨w.heap.size + 1, 2, none⟩ = some (.int .i64 k) := H2.out.1.2.cell 2
    have y3 : V2.cell? ⟨w.heap.size + 1, 3, none⟩ = some (.int .i64 o) := H2.out.1.2.cell 3
    have y4 : V2.cell? ⟨w.heap.size + 1, 4, none⟩ = some (.slice B p.length d) := H2.out.1.2.cell 4
    go_wp2_with fail
    refine (HR2.out V2 H2.out.2.1).mono ?_
    rintro e w3 ⟨hb3, v3, rfl, hv3⟩
    dsimp only at hv3 ⊢
    obtain ⟨A3, c3, es3, rfl, hE3, hm3, hc3⟩ := hv3.val
    have hN3 : es3.length = N := by rw [← H2.out.2.2.2.2.2, ← hm3, List.length_map]
    rw [hN3] at hE3 hc3 ⊢
    have hs3 := hb3.size
    have hby : Below V2.heap.size V2 (w3.alloc (.cells #[.slice A3 N c3, .int .i64 rn] 24)) := hb3.alloc hb3.size _
    have gy := Blk.new w3 24 #[.slice A3 N c3, .int .i64 rn]
    have hsy : w3.heap.size + 1 ≤ (w3.alloc (.cells #[.slice A3 N c3, .int .i64 rn] 24)).heap.size := by simp
    have hEy := hE3.up ((Below.refl _ w3).alloc (Nat.le_refl _) (.cells #[.slice A3 N c3, .int .i64 rn] 24))
    have H3 := Lib.hid (And.intro hby (And.intro gy (And.intro hEy hm3)))
    clear hb3 hv3 hE3 hm3 hc3 hN3 hby gy hEy q0 q1 y0 y2 y3 y4
    go_upto_region 5 with fail
    generalize (w3.alloc (.cells #[.slice A3 N c3, .int .i64 rn] 24)) = V3 at *
    go_wp2_with fail
    refine (awake_any V3).mono ?_
    rintro e w4 ⟨rfl, hb4⟩
    have hs4 := hb4.size
    have hb34 := H3.out.1.trans (hb4.mono H3.out.1.size)
    have g2 := H2.out.2.2.1.below hb34 (by omega)
    have g3 := H3.out.2.1.below hb4 (by omega)
    have z0 : w4.cell? ⟨w2.heap.size, 0, none⟩ = some (.slice A2 N c2) := g2.cell 0
    have z1 : w4.cell? ⟨w2.heap.size, 1, none⟩ = some (.int .i64 rn) := g2.cell 1
    have u0 : w4.cell? ⟨w3.heap.size, 0, none⟩ = some (.slice A3 N c3) := g3.cell 0
    have u1 : w4.cell? ⟨w3.heap.size, 1, none⟩ = some (.int .i64 rn) := g3.cell 1
    have HS : Hid (Calls Try.prog 16 #[.agg #[.slice A2 N c2, .int .i64 rn], .agg #[.slice A3 N c3, .int .i64 rn]] w4 fun e w' => e = .returned (.bool true) ∧ Below w4.heap.size w4 w') := Same_true N c2 c3 rn A2 A3 es2 es3 w4 (H2.out.2.2.2.1.up hb34) (H3.out.2.2.1.up hb4) (by have h := H2.out.2.2.2.2.2; omega) (H2.out.2.2.2.2.1.trans H3.out.2.2.2.symm)
    have H4 := Lib.hid (H1.out.2.1.trans ((H2.out.2.1.trans (hb34.mono (by omega))).mono H1.out.2.1.size))
    clear hb4 hb34 g2 g3
    go_wp2_with fail
    refine HS.out.mono ?_
    rintro e w5 ⟨rfl, hb5⟩
    go_wp2_with fail
    go_ret
    exact ⟨by simp, H4.out.trans (hb5.mono H4.out.size)⟩
end Go.Proofs.Ytknedclejhiegaa
