/- The walk of the law EventqueueTakes. No condition. -/
import Derived.Test.YtknedclejhiegaaLb
import Derived.Test.YtknedclejhiegaaWk
import Derived.Test.YtknedclejhiegaaWl
import Derived.Test.YtknedclejhiegaaWm
import Derived.Test.YtknedclejhiegaaWn
import Derived.Test.YtknedclejhiegaaWq
import Derived.Test.YtknedclejhiegaaWr
import Derived.Test.YtknedclejhiegaaWs
namespace Go.Proofs.Ytknedclejhiegaa
open Go.RowKit
theorem popQ_len (l : List Em) (nx : Int) : (popQ l nx).l.length ≤ l.length := by
  unfold popQ
  split
  · simp
  · cases l with
    | nil => simp
    | cons x l => simp
theorem cancelQ_len (l : List Em) (nx k : Int) : (cancelQ l nx k).1.length ≤ l.length := by
  unfold cancelQ
  split
  · simp
  · split
    · simp
    · rw [List.length_append, List.length_take, List.length_drop]; omega
theorem dueQ_len (l : List Em) (nx k : Int) : (dueQ l nx k).1.length ≤ l.length ∧ (dueQ l nx k).2.length ≤ l.length := by
  unfold dueQ
  split
  · simp
  · simp [List.length_take, List.length_drop]; omega
set_option maxRecDepth 100000 in
set_option maxHeartbeats 8000000 in
theorem walkEventqueueTakes (w : World) (v0 v1 v2 : Value) (h0 : Arg24 w v0) (h1 : Arg3 w v1) (h2 : Arg3 w v2) : Calls Try.prog 8 #[v0, v1, v2] w fun e w' => e = .returned (.bool true) ∧ Below w.heap.size w w' := by
  obtain ⟨A, m, c, l, nx, rfl, hR, hmc, hcm⟩ := h0
  obtain ⟨num, rfl, _, _⟩ := h1
  obtain ⟨now, rfl, _, _⟩ := h2
  have hlen := hR.count
  have hb0 : Below w.heap.size w (w.alloc (.cells #[.slice A m c, .int .i64 nx] 24)) := (Below.refl _ _).alloc (Nat.le_refl _) _
  have g0 : Blk (w.alloc (.cells #[.slice A m c, .int .i64 nx] 24)) w.heap.size 24 #[.slice A m c, .int .i64 nx] := Blk.new w 24 #[.slice A m c, .int .i64 nx]
  have hs0 : w.heap.size + 1 ≤ (w.alloc (.cells #[.slice A m c, .int .i64 nx] 24)).heap.size := by simp
  have H0 := Lib.hid (And.intro g0 (And.intro hb0 (And.intro (hR.up hb0) hlen)))
  clear hR g0 hb0 hlen
  go_enter Try.func8, Try.ntmps8
  go_upto_region 1 with fail
  generalize (w.alloc (.cells #[.slice A m c, .int .i64 nx] 24)) = V at *
  have q0 : V.cell? ⟨w.heap.size, 0, none⟩ = some (.slice A m c) := H0.out.1.cell 0
  have q1 : V.cell? ⟨w.heap.size, 1, none⟩ = some (.int .i64 nx) := H0.out.1.cell 1
  go_wp2_with fail
  refine (few_any A m c l nx V H0.out.2.2.1 (by omega)).mono ?_
  rintro e w1 ⟨rfl, hb1⟩
  obtain ⟨f, hf⟩ : ∃ f, fewB (l.map Ev.em) = f := ⟨_, rfl⟩
  rw [hf]
  have hs1 := hb1.size
  have hbw1 := H0.out.2.1.trans (hb1.mono H0.out.2.1.size)
  have H1 := Lib.hid (And.intro (H0.out.1.below hb1 (by omega)) (And.intro hbw1 (H0.out.2.2.1.up hb1)))
  clear hb1 hbw1 q0 q1
  have q0 : w1.cell? ⟨w.heap.size, 0, none⟩ = some (.slice A m c) := H1.out.1.cell 0
  have q1 : w1.cell? ⟨w.heap.size, 1, none⟩ = some (.int .i64 nx) := H1.out.1.cell 1
  cases f with
  | false =>
    clear hf
    go_wp2_with fail
    refine (awake_any _).mono ?_
    rintro e w8 ⟨rfl, hb8⟩
    go_wp2_with fail
    go_ret
    exact ⟨rfl, H1.out.2.1.trans (hb8.mono H1.out.2.1.size)⟩
  | true =>
  obtain ⟨hm60, hp⟩ := few_facts H0.out.2.2.2 hf
  have HPx : Hid (∀ e ∈ l, e.p.length ≤ 100000) := fun e he => by have := hp e he; omega
  clear hf hp
  go_wp2_with fail
  refine (First_any A m c l nx w1 H1.out.2.2 (by omega) hmc HPx.out).mono ?_
  rintro e w2 ⟨hb2, v2, rfl, hv2⟩
  have HR2 := Lib.hid (fun W (hW : Below w1.heap.size w1 W) => refFirst_any A m c l nx W (H1.out.2.2.up hW) (by omega) HPx.out)
  generalize firstQ (l.map Ev.em) nx = r at *
  obtain ⟨x, b⟩ := r
  dsimp only at hv2 HR2 ⊢
  obtain ⟨A2, c2, rfl, hr2⟩ := hv2.val
  unfold evC
  have hs2 := hb2.size
  have hbx : Below w1.heap.size w1 (w2.alloc (.cells #[.int .i64 x.t, .int .i64 x.n, .int .i64 x.k, .int .i64 x.o, .slice A2 x.p.length c2] 32)) := hb2.alloc hb2.size _
  have gx := Blk.new w2 32 #[.int .i64 x.t, .int .i64 x.n, .int .i64 x.k, .int .i64 x.o, .slice A2 x.p.length c2]
  have hsx : w2.heap.size + 1 ≤ (w2.alloc (.cells #[.int .i64 x.t, .int .i64 x.n, .int .i64 x.k, .int .i64 x.o, .slice A2 x.p.length c2] 32)).heap.size := by simp
  have hrx := hr2.up ((Below.refl _ w2).alloc (Nat.le_refl _) (.cells #[.int .i64 x.t, .int .i64 x.n, .int .i64 x.k, .int .i64 x.o, .slice A2 x.p.length c2] 32))
  have H2 := Lib.hid (And.intro (H1.out.1.below hbx (by omega)) (And.intro hbx (And.intro gx hrx)))
  clear hb2 hv2 hr2 hbx gx hrx q0 q1
  go_upto_region 4 with fail
  generalize (w2.alloc (.cells #[.int .i64 x.t, .int .i64 x.n, .int .i64 x.k, .int .i64 x.o, .slice A2 x.p.length c2] 32)) = V2 at *
  have q0 : V2.cell? ⟨w.heap.size, 0, none⟩ = some (.slice A m c) := H2.out.1.cell 0
  have q1 : V2.cell? ⟨w.heap.size, 1, none⟩ = some (.int .i64 nx) := H2.out.1.cell 1
  go_wp2_with fail
  refine (HR2.out V2 H2.out.2.1).mono ?_
  rintro e w3 ⟨hb3, v3, rfl, hv3⟩
  dsimp only at hv3 ⊢
  obtain ⟨A3, c3, rfl, hr3⟩ := hv3.val
  unfold evC
  have hs3 := hb3.size
  have hby : Below V2.heap.size V2 (w3.alloc (.cells #[.int .i64 x.t, .int .i64 x.n, .int .i64 x.k, .int .i64 x.o, .slice A3 x.p.length c3] 32)) := hb3.alloc hb3.size _
  have gy := Blk.new w3 32 #[.int .i64 x.t, .int .i64 x.n, .int .i64 x.k, .int .i64 x.o, .slice A3 x.p.length c3]
  have hsy : w3.heap.size + 1 ≤ (w3.alloc (.cells #[.int .i64 x.t, .int .i64 x.n, .int .i64 x.k, .int .i64 x.o, .slice A3 x.p.length c3] 32)).heap.size := by simp
  have hry := hr3.up ((Below.refl _ w3).alloc (Nat.le_refl _) (.cells #[.int .i64 x.t, .int .i64 x.n, .int .i64 x.k, .int .i64 x.o, .slice A3 x.p.length c3] 32))
  have H3 := Lib.hid (And.intro (H2.out.1.below hby (by omega)) (And.intro (H2.out.2.1.trans (hby.mono H2.out.2.1.size)) (And.intro (H2.out.2.2.1.below hby (by omega)) (And.intro gy (And.intro (H2.out.2.2.2.up hby) hry)))))
  clear hb3 hv3 hr3 hby gy hry q0 q1 HR2
  go_upto_region 5 with fail
  generalize (w3.alloc (.cells #[.int .i64 x.t, .int .i64 x.n, .int .i64 x.k, .int .i64 x.o, .slice A3 x.p.length c3] 32)) = V3 at *
  have a0 : V3.cell? ⟨w2.heap.size, 0, none⟩ = some (.int .i64 x.t) := H3.out.2.2.1.cell 0
  have a1 : V3.cell? ⟨w2.heap.size, 1, none⟩ = some (.int .i64 x.n) := H3.out.2.2.1.cell 1
  have a2 : V3.cell? ⟨w2.heap.size, 2, none⟩ = some (.int .i64 x.k) := H3.out.2.2.1.cell 2
  have a3 : V3.cell? ⟨w2.heap.size, 3, none⟩ = some (.int .i64 x.o) := H3.out.2.2.1.cell 3
  have a4 : V3.cell? ⟨w2.heap.size, 4, none⟩ = some (.slice A2 x.p.length c2) := H3.out.2.2.1.cell 4
  have b0 : V3.cell? ⟨w3.heap.size, 0, none⟩ = some (.int .i64 x.t) := H3.out.2.2.2.1.cell 0
  have b1 : V3.cell? ⟨w3.heap.size, 1, none⟩ = some (.int .i64 x.n) := H3.out.2.2.2.1.cell 1
  have b2 : V3.cell? ⟨w3.heap.size, 2, none⟩ = some (.int .i64 x.k) := H3.out.2.2.2.1.cell 2
  have b3 : V3.cell? ⟨w3.heap.size, 3, none⟩ = some (.int .i64 x.o) := H3.out.2.2.2.1.cell 3
  have b4 : V3.cell? ⟨w3.heap.size, 4, none⟩ = some (.slice A3 x.p.length c3) := H3.out.2.2.2.1.cell 4
  obtain ⟨xt, xn, xk, xo, xp⟩ := x
  dsimp only at *
  go_wp2_with fail
  refine (SameEvent_true xt xn xk xo c2 c3 A2 A3 xp V3 H3.out.2.2.2.2.1 H3.out.2.2.2.2.2).mono ?_
  rintro e w4 ⟨rfl, hb4⟩
  have hs4 := hb4.size
  have H4 := Lib.hid (And.intro (H3.out.1.below hb4 (by omega)) (H3.out.2.1.trans (hb4.mono H3.out.2.1.size)))
  clear hb4 a0 a1 a2 a3 a4 b0 b1 b2 b3 b4
  have q0 : w4.cell? ⟨w.heap.size, 0, none⟩ = some (.slice A m c) := H4.out.1.cell 0
  have q1 : w4.cell? ⟨w.heap.size, 1, none⟩ = some (.int .i64 nx) := H4.out.1.cell 1
  have hbb : (b != b) = false := by simp
  go_upto_region 7 with fail
  go_wp2_with fail
  refine (Pop_any A m c l nx w4 (H1.out.2.2.up H4.out.2) (by omega) hmc HPx.out).mono ?_
  rintro e w5 ⟨hb5, v5, y5, rfl, hv5, hy5⟩
  have HR5 := Lib.hid (fun W (hW : Below w1.heap.size w1 W) => refPop_any A m c l nx W (H1.out.2.2.up hW) (by omega) HPx.out)
  have hpl := popQ_len (l.map Ev.em) nx
  generalize popQ (l.map Ev.em) nx = r5 at *
  obtain ⟨rl5, rn5, x5, re5⟩ := r5
  dsimp only at hv5 hy5 HR5 hpl ⊢
  obtain ⟨A5, c5, es5, rfl, hE5, hm5, hc5⟩ := hv5.val
  obtain ⟨B5, d5, rfl, hr5⟩ := hy5.val
  unfold evC
  obtain ⟨N, hN⟩ : ∃ N, es5.length = N := ⟨_, rfl⟩
  rw [hN] at hE5 hc5 ⊢
  have HN5 := Lib.hid (show rl5.length = N by rw [← hm5, List.length_map, hN])
  clear hN
  have hs5 := hb5.size
  obtain ⟨yt, yn, yk, yo, yp⟩ := x5
  dsimp only at hr5 HR5 ⊢
  have hbx : Below w4.heap.size w4 ((w5.alloc (.cells #[.slice A5 N c5, .int .i64 rn5] 24)).alloc (.cells #[.int .i64 yt, .int .i64 yn, .int .i64 yk, .int .i64 yo, .slice B5 yp.length d5] 32)) := (hb5.alloc hb5.size _).alloc (by rw [World.size_alloc]; have := hb5.size; omega) _
  have hbz : Below w5.heap.size w5 ((w5.alloc (.cells #[.slice A5 N c5, .int .i64 rn5] 24)).alloc (.cells #[.int .i64 yt, .int .i64 yn, .int .i64 yk, .int .i64 yo, .slice B5 yp.length d5] 32)) := ((Below.refl _ w5).alloc (Nat.le_refl _) _).alloc (by simp) _
  have gx : Blk ((w5.alloc (.cells #[.slice A5 N c5, .int .i64 rn5] 24)).alloc (.cells #[.int .i64 yt, .int .i64 yn, .int .i64 yk, .int .i64 yo, .slice B5 yp.length d5] 32)) w5.heap.size 24 #[.slice A5 N c5, .int .i64 rn5] := (Blk.new w5 24 #[.slice A5 N c5, .int .i64 rn5]).alloc _
  have ge := Blk.new (w5.alloc (.cells #[.slice A5 N c5, .int .i64 rn5] 24)) 32 #[.int .i64 yt, .int .i64 yn, .int .i64 yk, .int .i64 yo, .slice B5 yp.length d5]
  rw [World.size_alloc] at ge
  have hsx : w5.heap.size + 2 ≤ ((w5.alloc (.cells #[.slice A5 N c5, .int .i64 rn5] 24)).alloc (.cells #[.int .i64 yt, .int .i64 yn, .int .i64 yk, .int .i64 yo, .slice B5 yp.length d5] 32)).heap.size := by simp
  have H5 := Lib.hid (And.intro (H4.out.1.below hbx (by omega)) (And.intro (H4.out.2.trans (hbx.mono (by omega))) (And.intro gx (And.intro ge (And.intro (hE5.up hbz) (And.intro (hr5.up hbz) (And.intro hm5 hc5)))))))
  clear hb5 hv5 hy5 hE5 hr5 hm5 hbx hbz gx ge hc5 q0 q1
  go_upto_region 8 with fail
  generalize ((w5.alloc (.cells #[.slice A5 N c5, .int .i64 rn5] 24)).alloc (.cells #[.int .i64 yt, .int .i64 yn, .int .i64 yk, .int .i64 yo, .slice B5 yp.length d5] 32)) = V5 at *
  have q0 : V5.cell? ⟨w.heap.size, 0, none⟩ = some (.slice A m c) := H5.out.1.cell 0
  have q1 : V5.cell? ⟨w.heap.size, 1, none⟩ = some (.int .i64 nx) := H5.out.1.cell 1
  go_wp2_with fail
  refine (HR5.out V5 H5.out.2.1).mono ?_
  rintro e w6 ⟨hb6, v6, y6, rfl, hv6, hy6⟩
  dsimp only at hv6 hy6 ⊢
  obtain ⟨A6, c6, es6, rfl, hE6, hm6, hc6⟩ := hv6.val
  obtain ⟨B6, d6, rfl, hr6⟩ := hy6.val
  unfold evC
  dsimp only at hr6 ⊢
  have hN6 : es6.length = N := by rw [← HN5.out, ← hm6, List.length_map]
  rw [hN6] at hE6 ⊢
  have hs6 := hb6.size
  have hbx : Below V5.heap.size V5 ((w6.alloc (.cells #[.slice A6 N c6, .int .i64 rn5] 24)).alloc (.cells #[.int .i64 yt, .int .i64 yn, .int .i64 yk, .int .i64 yo, .slice B6 yp.length d6] 32)) := (hb6.alloc hb6.size _).alloc (by rw [World.size_alloc]; have := hb6.size; omega) _
  have hbz : Below w6.heap.size w6 ((w6.alloc (.cells #[.slice A6 N c6, .int .i64 rn5] 24)).alloc (.cells #[.int .i64 yt, .int .i64 yn, .int .i64 yk, .int .i64 yo, .slice B6 yp.length d6] 32)) := ((Below.refl _ w6).alloc (Nat.le_refl _) _).alloc (by simp) _
  have gx : Blk ((w6.alloc (.cells #[.slice A6 N c6, .int .i64 rn5] 24)).alloc (.cells #[.int .i64 yt, .int .i64 yn, .int .i64 yk, .int .i64 yo, .slice B6 yp.length d6] 32)) w6.heap.size 24 #[.slice A6 N c6, .int .i64 rn5] := (Blk.new w6 24 #[.slice A6 N c6, .int .i64 rn5]).alloc _
  have ge := Blk.new (w6.alloc (.cells #[.slice A6 N c6, .int .i64 rn5] 24)) 32 #[.int .i64 yt, .int .i64 yn, .int .i64 yk, .int .i64 yo, .slice B6 yp.length d6]
  rw [World.size_alloc] at ge
  have hsy6 : w6.heap.size + 2 ≤ ((w6.alloc (.cells #[.slice A6 N c6, .int .i64 rn5] 24)).alloc (.cells #[.int .i64 yt, .int .i64 yn, .int .i64 yk, .int .i64 yo, .slice B6 yp.length d6] 32)).heap.size := by simp
  have H6 := Lib.hid (And.intro (H5.out.1.below hbx (by omega)) (And.intro (H5.out.2.1.trans (hbx.mono (by omega))) (And.intro (And.intro (H5.out.2.2.1.below hbx (by omega)) (H5.out.2.2.2.1.below hbx (by omega))) (And.intro (And.intro gx ge) (And.intro (And.intro (H5.out.2.2.2.2.1.up hbx) (hE6.up hbz)) (And.intro (And.intro (H5.out.2.2.2.2.2.1.up hbx) (hr6.up hbz)) (H5.out.2.2.2.2.2.2.1.trans hm6.symm)))))))
  clear hb6 hv6 hy6 hE6 hr6 hm6 hc6 hN6 hbx hbz gx ge q0 q1 HR5
  go_upto_region 9 with fail
  generalize ((w6.alloc (.cells #[.slice A6 N c6, .int .i64 rn5] 24)).alloc (.cells #[.int .i64 yt, .int .i64 yn, .int .i64 yk, .int .i64 yo, .slice B6 yp.length d6] 32)) = V6 at *
  have a0 : V6.cell? ⟨w5.heap.size, 0, none⟩ = some (.slice A5 N c5) := H6.out.2.2.1.1.cell 0
  have a1 : V6.cell? ⟨w5.heap.size, 1, none⟩ = some (.int .i64 rn5) := H6.out.2.2.1.1.cell 1
  have b0 : V6.cell? ⟨w6.heap.size, 0, none⟩ = some (.slice A6 N c6) := H6.out.2.2.2.1.1.cell 0
  have b1 : V6.cell? ⟨w6.heap.size, 1, none⟩ = some (.int .i64 rn5) := H6.out.2.2.2.1.1.cell 1
  have hNb : N ≤ 60 := by rw [← HN5.out]; rw [List.length_map, H0.out.2.2.2] at hpl; omega
  clear hpl
  go_wp2_with fail
  refine (Same_true N c5 c6 rn5 A5 A6 es5 es6 V6 H6.out.2.2.2.2.1.1 H6.out.2.2.2.2.1.2 (by omega) H6.out.2.2.2.2.2.2).mono ?_
  rintro e w7 ⟨rfl, hb7⟩
  have hs7 := hb7.size
  have H7 := Lib.hid (And.intro (And.intro (H6.out.2.2.1.2.below hb7 (by omega)) (H6.out.2.2.2.1.2.below hb7 (by omega))) (And.intro hb7 (And.intro (H6.out.2.2.2.2.2.1.1.up hb7) (H6.out.2.2.2.2.2.1.2.up hb7))))
  clear hb7 a0 a1 b0 b1
  have a0 : w7.cell? ⟨(w5.heap.size + 1), 0, none⟩ = some (.int .i64 yt) := H7.out.1.1.cell 0
  have a1 : w7.cell? ⟨(w5.heap.size + 1), 1, none⟩ = some (.int .i64 yn) := H7.out.1.1.cell 1
  have a2 : w7.cell? ⟨(w5.heap.size + 1), 2, none⟩ = some (.int .i64 yk) := H7.out.1.1.cell 2
  have a3 : w7.cell? ⟨(w5.heap.size + 1), 3, none⟩ = some (.int .i64 yo) := H7.out.1.1.cell 3
  have a4 : w7.cell? ⟨(w5.heap.size + 1), 4, none⟩ = some (.slice B5 yp.length d5) := H7.out.1.1.cell 4
  have b0 : w7.cell? ⟨(w6.heap.size + 1), 0, none⟩ = some (.int .i64 yt) := H7.out.1.2.cell 0
  have b1 : w7.cell? ⟨(w6.heap.size + 1), 1, none⟩ = some (.int .i64 yn) := H7.out.1.2.cell 1
  have b2 : w7.cell? ⟨(w6.heap.size + 1), 2, none⟩ = some (.int .i64 yk) := H7.out.1.2.cell 2
  have b3 : w7.cell? ⟨(w6.heap.size + 1), 3, none⟩ = some (.int .i64 yo) := H7.out.1.2.cell 3
  have b4 : w7.cell? ⟨(w6.heap.size + 1), 4, none⟩ = some (.slice B6 yp.length d6) := H7.out.1.2.cell 4
  go_wp2_with fail
  refine (SameEvent_true yt yn yk yo d5 d6 B5 B6 yp w7 H7.out.2.2.1 H7.out.2.2.2).mono ?_
  rintro e w8 ⟨rfl, hb8⟩
  have hs8 := hb8.size
  have hb68 := H7.out.2.1.trans (hb8.mono H7.out.2.1.size)
  have H8 := Lib.hid (And.intro (H6.out.1.below hb68 (by omega)) (And.intro (H6.out.2.1.trans (hb68.mono (by omega))) (And.intro (H6.out.2.2.1.1.below hb68 (by omega)) (H6.out.2.2.2.1.1.below hb68 (by omega)))))
  clear hb8 hb68 a0 a1 a2 a3 a4 b0 b1 b2 b3 b4
  have q0 : w8.cell? ⟨w.heap.size, 0, none⟩ = some (.slice A m c) := H8.out.1.cell 0
  have q1 : w8.cell? ⟨w.heap.size, 1, none⟩ = some (.int .i64 nx) := H8.out.1.cell 1
  go_upto_region 11 with fail
  go_wp2_with fail
  refine (Cancel_any A m c l nx num w8 (H1.out.2.2.up H8.out.2.1) (by omega) hmc HPx.out).mono ?_
  rintro e w9 ⟨hb9, v9, rfl, hv9⟩
  have HR9 := Lib.hid (fun W (hW : Below w1.heap.size w1 W) => refCancel_any A m c l nx num W (H1.out.2.2.up hW) (by omega) hmc HPx.out)
  have hcl := cancelQ_len (l.map Ev.em) nx num
  rw [List.length_map, H0.out.2.2.2] at hcl
  generalize cancelQ (l.map Ev.em) nx num = r9 at *
  obtain ⟨rl9, rb9⟩ := r9
  dsimp only at hv9 HR9 hcl ⊢
  obtain ⟨A9, c9, es9, rfl, hE9, hm9, _⟩ := hv9.val
  obtain ⟨N9, hN9⟩ : ∃ N, es9.length = N := ⟨_, rfl⟩
  rw [hN9] at hE9 ⊢
  have hNL : rl9.length = N9 := by rw [← hm9, List.length_map, hN9]
  have hNb9 : N9 ≤ 60 := by omega
  have HN9 := Lib.hid hNL
  have hs9 := hb9.size
  have gA := H8.out.2.2.1.below hb9 (by omega)
  have hE9' := hE9.row_q gA #[.slice A9 N9 c9, .int .i64 nx]
  have hbr : Below w8.heap.size w8 w9 := hb9
  have hbq := below_setRow (hbr.mono (B' := w5.heap.size) (by omega)) (g := w5.heap.size) (Nat.le_refl _) #[.slice A9 N9 c9, .int .i64 nx]
  have hsz9 : w9.heap.size ≤ (w9.setRow w5.heap.size #[.slice A9 N9 c9, .int .i64 nx]).heap.size := by simp
  have H9 := Lib.hid (And.intro (H8.out.1.below hbq (by omega)) (And.intro (H8.out.2.1.trans (hbq.mono (by omega))) (And.intro (gA.setRow #[.slice A9 N9 c9, .int .i64 nx]) (And.intro ((H8.out.2.2.2.below hb9 (by omega)).row_far (g2 := w5.heap.size) (by omega) #[.slice A9 N9 c9, .int .i64 nx]) (And.intro hE9' (And.intro hm9 gA))))))
  clear hb9 hv9 hE9 hm9 hN9 hNL gA hE9' hbr hbq q0 q1 hcl
  go_upto_region 12 with (refine wpList_store_row rfl _ _ _ rfl w5.heap.size _ rfl rfl 24 _ H9.out.2.2.2.2.2.2 (by kernel_rfl) rfl (by simp [Value.oneCell']) ?_)
  generalize w9.setRow w5.heap.size #[.slice A9 N9 c9, .int .i64 nx] = V9 at *
  have q0 : V9.cell? ⟨w.heap.size, 0, none⟩ = some (.slice A m c) := H9.out.1.cell 0
  have q1 : V9.cell? ⟨w.heap.size, 1, none⟩ = some (.int .i64 nx) := H9.out.1.cell 1
  go_wp2_with fail
  refine (HR9.out V9 H9.out.2.1).mono ?_
  rintro e w10 ⟨hb10, v10, rfl, hv10⟩
  dsimp only at hv10 ⊢
  obtain ⟨A10, c10, es10, rfl, hE10, hm10, _⟩ := hv10.val
  have hN10 : es10.length = N9 := by rw [← HN9.out, ← hm10, List.length_map]
  rw [hN10] at hE10 ⊢
  have hs10 := hb10.size
  have gB := H9.out.2.2.2.1.below hb10 (by omega)
  have hE10' := hE10.row_q gB #[.slice A10 N9 c10, .int .i64 nx]
  have hE9'' := (H9.out.2.2.2.2.1.up hb10).row_q gB #[.slice A10 N9 c10, .int .i64 nx]
  have hbq := below_setRow (hb10.mono (B' := w6.heap.size) (by omega)) (g := w6.heap.size) (Nat.le_refl _) #[.slice A10 N9 c10, .int .i64 nx]
  have hsz10 : w10.heap.size ≤ (w10.setRow w6.heap.size #[.slice A10 N9 c10, .int .i64 nx]).heap.size := by simp
  have H10 := Lib.hid (And.intro (H9.out.1.below hbq (by omega)) (And.intro (H9.out.2.1.trans (hbq.mono (by omega))) (And.intro (H9.out.2.2.1.below hbq (by omega)) (And.intro (gB.setRow #[.slice A10 N9 c10, .int .i64 nx]) (And.intro (And.intro hE9'' hE10') (And.intro (H9.out.2.2.2.2.2.1.trans hm10.symm) gB))))))
  clear hb10 hv10 hE10 hm10 hN10 gB hE10' hE9'' hbq q0 q1 HR9
  go_upto_region 13 with (refine wpList_store_row rfl _ _ _ rfl w6.heap.size _ rfl rfl 24 _ H10.out.2.2.2.2.2.2 (by kernel_rfl) rfl (by simp [Value.oneCell']) ?_)
  generalize w10.setRow w6.heap.size #[.slice A10 N9 c10, .int .i64 nx] = V10 at *
  have a0 : V10.cell? ⟨w5.heap.size, 0, none⟩ = some (.slice A9 N9 c9) := H10.out.2.2.1.cell 0
  have a1 : V10.cell? ⟨w5.heap.size, 1, none⟩ = some (.int .i64 nx) := H10.out.2.2.1.cell 1
  have b0 : V10.cell? ⟨w6.heap.size, 0, none⟩ = some (.slice A10 N9 c10) := H10.out.2.2.2.1.cell 0
  have b1 : V10.cell? ⟨w6.heap.size, 1, none⟩ = some (.int .i64 nx) := H10.out.2.2.2.1.cell 1
  have hrb : (rb9 != rb9) = false := by simp
  go_wp2_with fail
  refine (Same_true N9 c9 c10 nx A9 A10 es9 es10 V10 H10.out.2.2.2.2.1.1 H10.out.2.2.2.2.1.2 (by omega) H10.out.2.2.2.2.2.1).mono ?_
  rintro e w11 ⟨rfl, hb11⟩
  have hs11 := hb11.size
  have H11 := Lib.hid (And.intro (H10.out.1.below hb11 (by omega)) (And.intro (H10.out.2.1.trans (hb11.mono (by omega))) (And.intro (H10.out.2.2.1.below hb11 (by omega)) (H10.out.2.2.2.1.below hb11 (by omega)))))
  clear hb11 a0 a1 b0 b1
  have q0 : w11.cell? ⟨w.heap.size, 0, none⟩ = some (.slice A m c) := H11.out.1.cell 0
  have q1 : w11.cell? ⟨w.heap.size, 1, none⟩ = some (.int .i64 nx) := H11.out.1.cell 1
  go_upto_region 15 with fail
  go_wp2_with fail
  refine (Due_any A m c l nx now w11 (H1.out.2.2.up H11.out.2.1) (by omega) hmc HPx.out).mono ?_
  rintro e w12 ⟨hb12, v12, Ad, cd, ds, he12, hv12, hD12, hd12⟩
  have HR12 := Lib.hid (fun W (hW : Below w1.heap.size w1 W) => refDue_any A m c l nx now W (H1.out.2.2.up hW) (by omega) hmc HPx.out)
  have hdl := dueQ_len (l.map Ev.em) nx now
  rw [List.length_map, H0.out.2.2.2] at hdl
  generalize dueQ (l.map Ev.em) nx now = r12 at *
  obtain ⟨rl12, rd12⟩ := r12
  dsimp only at hv12 hd12 HR12 hdl
  obtain ⟨A12, c12, es12, rfl, hE12, hm12, _⟩ := hv12.val
  obtain ⟨N12, hN12⟩ : ∃ N, es12.length = N := ⟨_, rfl⟩
  obtain ⟨M12, hM12⟩ : ∃ N, ds.length = N := ⟨_, rfl⟩
  rw [hN12] at hE12 he12
  rw [hM12] at hD12 he12
  subst he12
  have HN12 := Lib.hid (And.intro (show rl12.length = N12 by rw [← hm12, List.length_map, hN12]) (show rd12.length = M12 by rw [← hd12, List.length_map, hM12]))
  have hNb12 : N12 ≤ 60 ∧ M12 ≤ 60 := by have := HN12.out; omega
  have hs12 := hb12.size
  have gA := H11.out.2.2.1.below hb12 (by omega)
  have hE12' := hE12.row_q gA #[.slice A12 N12 c12, .int .i64 nx]
  have hD12' := hD12.row_q gA #[.slice A12 N12 c12, .int .i64 nx]
  have hbq := below_setRow (hb12.mono (B' := w5.heap.size) (by omega)) (g := w5.heap.size) (Nat.le_refl _) #[.slice A12 N12 c12, .int .i64 nx]
  have hsz12 : w12.heap.size ≤ (w12.setRow w5.heap.size #[.slice A12 N12 c12, .int .i64 nx]).heap.size := by simp
  have H12 := Lib.hid (And.intro (H11.out.1.below hbq (by omega)) (And.intro (H11.out.2.1.trans (hbq.mono (by omega))) (And.intro (gA.setRow #[.slice A12 N12 c12, .int .i64 nx]) (And.intro ((H11.out.2.2.2.below hb12 (by omega)).row_far (g2 := w5.heap.size) (by omega) #[.slice A12 N12 c12, .int .i64 nx]) (And.intro (And.intro hE12' hD12') (And.intro (And.intro hm12 hd12) gA))))))
  clear hb12 hv12 hE12 hD12 hm12 hd12 hN12 hM12 gA hE12' hD12' hbq q0 q1 hdl
  go_upto_region 16 with (refine wpList_store_row rfl _ _ _ rfl w5.heap.size _ rfl rfl 24 _ H12.out.2.2.2.2.2.2 (by kernel_rfl) rfl (by simp [Value.oneCell']) ?_)
  generalize w12.setRow w5.heap.size #[.slice A12 N12 c12, .int .i64 nx] = V12 at *
  have q0 : V12.cell? ⟨w.heap.size, 0, none⟩ = some (.slice A m c) := H12.out.1.cell 0
  have q1 : V12.cell? ⟨w.heap.size, 1, none⟩ = some (.int .i64 nx) := H12.out.1.cell 1
  go_wp2_with fail
  refine (HR12.out V12 H12.out.2.1).mono ?_
  rintro e w13 ⟨hb13, v13, Ae, ce, ds3, he13, hv13, hD13, hd13⟩
  dsimp only at hv13 hd13
  obtain ⟨A13, c13, es13, rfl, hE13, hm13, _⟩ := hv13.val
  have hN13 : es13.length = N12 := by rw [← HN12.out.1, ← hm13, List.length_map]
  have hM13 : ds3.length = M12 := by rw [← HN12.out.2, ← hd13, List.length_map]
  rw [hN13] at hE13 he13
  rw [hM13] at hD13 he13
  subst he13
  have hs13 := hb13.size
  have gB := H12.out.2.2.2.1.below hb13 (by omega)
  have hbq := below_setRow (hb13.mono (B' := w6.heap.size) (by omega)) (g := w6.heap.size) (Nat.le_refl _) #[.slice A13 N12 c13, .int .i64 nx]
  have hsz13 : w13.heap.size ≤ (w13.setRow w6.heap.size #[.slice A13 N12 c13, .int .i64 nx]).heap.size := by simp
  have H13 := Lib.hid (And.intro (H12.out.2.1.trans (hbq.mono (by omega))) (And.intro (H12.out.2.2.1.below hbq (by omega)) (And.intro (gB.setRow #[.slice A13 N12 c13, .int .i64 nx]) (And.intro (And.intro ((H12.out.2.2.2.2.1.1.up hb13).row_q gB #[.slice A13 N12 c13, .int .i64 nx]) (hE13.row_q gB #[.slice A13 N12 c13, .int .i64 nx])) (And.intro (And.intro ((H12.out.2.2.2.2.1.2.up hb13).row_q gB #[.slice A13 N12 c13, .int .i64 nx]) (hD13.row_q gB #[.slice A13 N12 c13, .int .i64 nx])) (And.intro (And.intro (H12.out.2.2.2.2.2.1.1.trans hm13.symm) (H12.out.2.2.2.2.2.1.2.trans hd13.symm)) gB))))))
  clear hb13 hv13 hE13 hD13 hm13 hd13 hN13 hM13 gB hbq q0 q1 HR12
  go_upto_region 17 with (refine wpList_store_row rfl _ _ _ rfl w6.heap.size _ rfl rfl 24 _ H13.out.2.2.2.2.2.2 (by kernel_rfl) rfl (by simp [Value.oneCell']) ?_)
  generalize w13.setRow w6.heap.size #[.slice A13 N12 c13, .int .i64 nx] = V13 at *
  go_wp2_with fail
  refine (awake_any V13).mono ?_
  rintro e w14 ⟨rfl, hb14⟩
  have hs14 := hb14.size
  have gA := H13.out.2.1.below hb14 (by omega)
  have gB := H13.out.2.2.1.below hb14 (by omega)
  have a0 : w14.cell? ⟨w5.heap.size, 0, none⟩ = some (.slice A12 N12 c12) := gA.cell 0
  have a1 : w14.cell? ⟨w5.heap.size, 1, none⟩ = some (.int .i64 nx) := gA.cell 1
  have b0 : w14.cell? ⟨w6.heap.size, 0, none⟩ = some (.slice A13 N12 c13) := gB.cell 0
  have b1 : w14.cell? ⟨w6.heap.size, 1, none⟩ = some (.int .i64 nx) := gB.cell 1
  have H14 := Lib.hid hb14
  clear hb14 gA gB
  go_wp2_with fail
  refine (Same_true N12 c12 c13 nx A12 A13 es12 es13 w14 (H13.out.2.2.2.1.1.up H14.out) (H13.out.2.2.2.1.2.up H14.out) (by omega) H13.out.2.2.2.2.2.1.1).mono ?_
  rintro e w15 ⟨rfl, hb15⟩
  have hb135 := H14.out.trans (hb15.mono H14.out.size)
  have H15 := Lib.hid hb135
  have hs15 := hb15.size
  clear hb15 hb135 a0 a1 b0 b1
  go_wp2_with fail
  refine (SameEvents_true M12 cd ce Ad Ae ds ds3 w15 (H13.out.2.2.2.2.1.1.up H15.out) (H13.out.2.2.2.2.1.2.up H15.out) (by omega) H13.out.2.2.2.2.2.1.2).mono ?_
  rintro e w16 ⟨rfl, hb16⟩
  go_wp2_with fail
  go_ret
  exact ⟨by simp, H1.out.2.1.trans ((H13.out.1.trans ((H15.out.trans (hb16.mono H15.out.size)).mono (by omega))).mono H1.out.2.1.size)⟩
end Go.Proofs.Ytknedclejhiegaa
