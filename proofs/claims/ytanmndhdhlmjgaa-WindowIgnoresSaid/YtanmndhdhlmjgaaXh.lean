/- The walk of awake. No condition. -/
import Derived.Test.YtanmndhdhlmjgaaXg
import Derived.Test.YtanmndhdhlmjgaaWu
import Derived.Test.YtanmndhdhlmjgaaWh
import Derived.Test.YtanmndhdhlmjgaaLibN
namespace Go.Proofs.Ytanmndhdhlmjgaa
open Go.RowKit
theorem run_a {w : World} {base : Nat} {A : Option Addr} {c : Nat} (h : Byt w base A [97]) : (convert 42 9 (.slice A 1 c)).run Try.prog w = .ok (.string { data := #[97] }) w := run_str w 1 c A [97] h.rd
theorem run_c {w : World} {base : Nat} {A : Option Addr} {c : Nat} (h : Byt w base A [99]) : (convert 42 9 (.slice A 1 c)).run Try.prog w = .ok (.string { data := #[99] }) w := run_str w 1 c A [99] h.rd
set_option maxRecDepth 100000 in
set_option maxHeartbeats 4000000 in
set_option linter.unusedSimpArgs false in
theorem awake_any (w : World) : Calls Try.prog 17 #[] w fun e w' => e = .returned (.bool true) ∧ Below w.heap.size w w' := by
  go_enter Try.func17, Try.ntmps17
  go_wp2_with fail
  refine (pushed_any w.heap.size w (Nat.le_refl _)).mono ?_
  rintro e w1 ⟨⟨sv, rfl, hsv⟩, hb1⟩
  obtain ⟨vo, vq, rfl, hO, hQ⟩ := hsv
  obtain ⟨Ao0, co0, hvo, -, -⟩ := hO.form
  change vo = .slice Ao0 0 co0 at hvo
  obtain ⟨Aq0, cq0, hvq, -, -⟩ := hQ.form
  change vq = .slice Aq0 3 cq0 at hvq
  subst hvo hvq
  rw [show snC (PS 3) (.slice Ao0 0 co0) (.slice Aq0 3 cq0) = #[.int .i64 7, .int .i64 2, .int .i64 10, .int .i64 0, .int .i64 0, .int .i64 2, .slice Ao0 0 co0, .slice Aq0 3 cq0] from rfl]
  have hkA := Blk.new w1 25 #[.int .i64 7, .int .i64 2, .int .i64 10, .int .i64 0, .int .i64 0, .int .i64 2, .slice Ao0 0 co0, .slice Aq0 3 cq0]
  have hbA : Below w1.heap.size w1 (w1.alloc (.cells #[.int .i64 7, .int .i64 2, .int .i64 10, .int .i64 0, .int .i64 0, .int .i64 2, .slice Ao0 0 co0, .slice Aq0 3 cq0] 25)) := (Below.refl _ w1).alloc (Nat.le_refl _) _
  have H1 := Lib.hid (And.intro hkA (And.intro (hO.up hbA) (And.intro (hQ.up hbA) (hb1.trans (hbA.mono hb1.size)))))
  have hA := hb1.size
  clear hkA hbA hO hQ hb1
  go_upto_region 2 with fail
  obtain ⟨A, hAe⟩ : ∃ x, x = w1.heap.size := ⟨_, rfl⟩
  rw [← hAe] at H1 hA ⊢
  clear hAe
  generalize (w1.alloc (.cells #[.int .i64 7, .int .i64 2, .int .i64 10, .int .i64 0, .int .i64 0, .int .i64 2, .slice Ao0 0 co0, .slice Aq0 3 cq0] 25)) = V1 at *
  have HA := Lib.hid hA
  clear hA
  go_wp2_with fail
  refine (NewReceiver_any 7 2 V1).mono ?_
  rintro e w2 ⟨⟨rv, k0, rfl, hk0, hrv⟩, hb2⟩
  rw [ex12] at hk0 hrv
  obtain rfl : k0 = 0 := by simpa using hk0
  clear hk0
  obtain ⟨ve, rfl, hE⟩ := hrv w.heap.size H1.out.2.2.2.size
  obtain ⟨Ar0, cr0, hve, -, -⟩ := hE.form
  change ve = .slice Ar0 0 cr0 at hve
  subst hve
  rw [show rcC eR0 (.slice Ar0 0 cr0) = #[.int .i64 7, .int .i64 2, .int .i64 0, .slice Ar0 0 cr0] from rfl]
  have hkR := Blk.new w2 33 #[.int .i64 7, .int .i64 2, .int .i64 0, .slice Ar0 0 cr0]
  have hbR : Below w2.heap.size w2 (w2.alloc (.cells #[.int .i64 7, .int .i64 2, .int .i64 0, .slice Ar0 0 cr0] 33)) := (Below.refl _ w2).alloc (Nat.le_refl _) _
  have hb3 : Below V1.heap.size V1 (w2.alloc (.cells #[.int .i64 7, .int .i64 2, .int .i64 0, .slice Ar0 0 cr0] 33)) := hb2.trans (hbR.mono hb2.size)
  have HS0 : Hid (AwS w A w2.heap.size (PS 3) (.slice Ao0 0 co0) (.slice Aq0 3 cq0) eR0 (.slice Ar0 0 cr0) [] (w2.alloc (.cells #[.int .i64 7, .int .i64 2, .int .i64 0, .slice Ar0 0 cr0] 33))) :=
    ⟨H1.out.1.below hb3 H1.out.1.lt, H1.out.2.1.up hb3, H1.out.2.2.1.up hb3, hkR, hE.up hbR, nofun, H1.out.2.2.2.trans (hb3.mono H1.out.2.2.2.size)⟩
  have HR : Hid (w.heap.size ≤ w2.heap.size) := Nat.le_trans H1.out.2.2.2.size hb2.size
  clear hkR hbR hb3 hE hb2 H1 hrv
  go_upto_region 3 with fail
  obtain ⟨R, hRe⟩ : ∃ x, x = w2.heap.size := ⟨_, rfl⟩
  rw [← hRe] at HS0 HR ⊢
  clear hRe
  generalize (w2.alloc (.cells #[.int .i64 7, .int .i64 2, .int .i64 0, .slice Ar0 0 cr0] 33)) = V at *
  have hc := Poll_any (PS 3) 0 _ w.heap.size V HS0.out.sn ⟨by decide, by decide⟩ HS0.out.bel.size
  rw [show snC (PS 3) (.slice Ao0 0 co0) (.slice Aq0 3 cq0) = #[.int .i64 7, .int .i64 2, .int .i64 10, .int .i64 0, .int .i64 0, .int .i64 2, .slice Ao0 0 co0, .slice Aq0 3 cq0] from rfl] at hc
  have HC := Lib.hid hc
  clear hc
  have xc0 : V.cell? ⟨A, 0, none⟩ = some (.int .i64 7) := HS0.out.sb.cell 0
  have xc1 : V.cell? ⟨A, 1, none⟩ = some (.int .i64 2) := HS0.out.sb.cell 1
  have xc2 : V.cell? ⟨A, 2, none⟩ = some (.int .i64 10) := HS0.out.sb.cell 2
  have xc3 : V.cell? ⟨A, 3, none⟩ = some (.int .i64 0) := HS0.out.sb.cell 3
  have xc4 : V.cell? ⟨A, 4, none⟩ = some (.int .i64 0) := HS0.out.sb.cell 4
  have xc5 : V.cell? ⟨A, 5, none⟩ = some (.int .i64 2) := HS0.out.sb.cell 5
  have xc6 : V.cell? ⟨A, 6, none⟩ = some (.slice Ao0 0 co0) := HS0.out.sb.cell 6
  have xc7 : V.cell? ⟨A, 7, none⟩ = some (.slice Aq0 3 cq0) := HS0.out.sb.cell 7
  have xz0 := HS0.out.sb.frozen 0
  have xz1 := HS0.out.sb.frozen 1
  have xz2 := HS0.out.sb.frozen 2
  have xz3 := HS0.out.sb.frozen 3
  have xz4 := HS0.out.sb.frozen 4
  have xz5 := HS0.out.sb.frozen 5
  have xz6 := HS0.out.sb.frozen 6
  have xz7 := HS0.out.sb.frozen 7
  have xr0 : V.cell? ⟨R, 0, none⟩ = some (.int .i64 7) := HS0.out.rb.cell 0
  have xr1 : V.cell? ⟨R, 1, none⟩ = some (.int .i64 2) := HS0.out.rb.cell 1
  have xr2 : V.cell? ⟨R, 2, none⟩ = some (.int .i64 0) := HS0.out.rb.cell 2
  have xr3 : V.cell? ⟨R, 3, none⟩ = some (.slice Ar0 0 cr0) := HS0.out.rb.cell 3
  have xq0 := HS0.out.rb.frozen 0
  have xq1 := HS0.out.rb.frozen 1
  have xq2 := HS0.out.rb.frozen 2
  have xq3 := HS0.out.rb.frozen 3
  have lA := HS0.out.sb.lt
  have lR := HS0.out.rb.lt
  go_wp2_with fail
  refine HC.out.mono ?_
  clear HC
  rintro e w9 ⟨⟨sv, kv, rfl, hsn, hks⟩, hbn⟩
  rw [ex1] at hsn hks
  obtain ⟨vo, vq, rfl, hO, hQ⟩ := hsn
  obtain ⟨Ao1, co1, hvo, -, -⟩ := hO.form
  change vo = .slice Ao1 2 co1 at hvo
  obtain ⟨Aq1, cq1, hvq, -, -⟩ := hQ.form
  change vq = .slice Aq1 1 cq1 at hvq
  subst hvo hvq
  obtain ⟨b1, off1, ck1, hkv, -, -⟩ := hks.at_ (by decide) (by decide)
  change kv = .slice (some ⟨b1, off1, none⟩) 2 ck1 at hkv
  subst hkv
  clear xc0 xc1 xc2 xc3 xc4 xc5 xc6 xc7 xz0 xz1 xz2 xz3 xz4 xz5 xz6 xz7 xr0 xr1 xr2 xr3 xq0 xq1 xq2 xq3 lA lR
  have HB1 := Lib.hid ((HS0.out.below hbn).add hks)
  clear hbn hks
  have xc0 : w9.cell? ⟨A, 0, none⟩ = some (.int .i64 7) := HB1.out.sb.cell 0
  have xc1 : w9.cell? ⟨A, 1, none⟩ = some (.int .i64 2) := HB1.out.sb.cell 1
  have xc2 : w9.cell? ⟨A, 2, none⟩ = some (.int .i64 10) := HB1.out.sb.cell 2
  have xc3 : w9.cell? ⟨A, 3, none⟩ = some (.int .i64 0) := HB1.out.sb.cell 3
  have xc4 : w9.cell? ⟨A, 4, none⟩ = some (.int .i64 0) := HB1.out.sb.cell 4
  have xc5 : w9.cell? ⟨A, 5, none⟩ = some (.int .i64 2) := HB1.out.sb.cell 5
  have xc6 : w9.cell? ⟨A, 6, none⟩ = some (.slice Ao0 0 co0) := HB1.out.sb.cell 6
  have xc7 : w9.cell? ⟨A, 7, none⟩ = some (.slice Aq0 3 cq0) := HB1.out.sb.cell 7
  have xz0 := HB1.out.sb.frozen 0
  have xz1 := HB1.out.sb.frozen 1
  have xz2 := HB1.out.sb.frozen 2
  have xz3 := HB1.out.sb.frozen 3
  have xz4 := HB1.out.sb.frozen 4
  have xz5 := HB1.out.sb.frozen 5
  have xz6 := HB1.out.sb.frozen 6
  have xz7 := HB1.out.sb.frozen 7
  have xr0 : w9.cell? ⟨R, 0, none⟩ = some (.int .i64 7) := HB1.out.rb.cell 0
  have xr1 : w9.cell? ⟨R, 1, none⟩ = some (.int .i64 2) := HB1.out.rb.cell 1
  have xr2 : w9.cell? ⟨R, 2, none⟩ = some (.int .i64 0) := HB1.out.rb.cell 2
  have xr3 : w9.cell? ⟨R, 3, none⟩ = some (.slice Ar0 0 cr0) := HB1.out.rb.cell 3
  have xq0 := HB1.out.rb.frozen 0
  have xq1 := HB1.out.rb.frozen 1
  have xq2 := HB1.out.rb.frozen 2
  have xq3 := HB1.out.rb.frozen 3
  have lA := HB1.out.sb.lt
  have lR := HB1.out.rb.lt
  rw [show snC eS1 (.slice Ao1 2 co1) (.slice Aq1 1 cq1) = #[.int .i64 7, .int .i64 2, .int .i64 10, .int .i64 0, .int .i64 2, .int .i64 2, .slice Ao1 2 co1, .slice Aq1 1 cq1] from rfl]
  have HN1 := Lib.hid (HB1.out.setS HA.out eS1 (v0 := .int .i64 7) (v1 := .int .i64 2) (v2 := .int .i64 10) (v3 := .int .i64 0) (v4 := .int .i64 2) (v5 := .int .i64 2) hO hQ rfl)
  clear hO hQ HS0
  go_upto_region 4 with fail
  generalize ((((((((w9.setCell ⟨A, 0, none⟩ (.int .i64 7)).setCell ⟨A, 1, none⟩ (.int .i64 2)).setCell ⟨A, 2, none⟩ (.int .i64 10)).setCell ⟨A, 3, none⟩ (.int .i64 0)).setCell ⟨A, 4, none⟩ (.int .i64 2)).setCell ⟨A, 5, none⟩ (.int .i64 2)).setCell ⟨A, 6, none⟩ (.slice Ao1 2 co1)).setCell ⟨A, 7, none⟩ (.slice Aq1 1 cq1)) = V1 at *
  clear xc0 xc1 xc2 xc3 xc4 xc5 xc6 xc7 xz0 xz1 xz2 xz3 xz4 xz5 xz6 xz7 xr0 xr1 xr2 xr3 xq0 xq1 xq2 xq3 lA lR HB1
  have hc := Poll_any eS1 5 _ w.heap.size V1 HN1.out.sn ⟨by decide, by decide⟩ HN1.out.bel.size
  rw [show snC eS1 (.slice Ao1 2 co1) (.slice Aq1 1 cq1) = #[.int .i64 7, .int .i64 2, .int .i64 10, .int .i64 0, .int .i64 2, .int .i64 2, .slice Ao1 2 co1, .slice Aq1 1 cq1] from rfl] at hc
  have HC := Lib.hid hc
  clear hc
  have xc0 : V1.cell? ⟨A, 0, none⟩ = some (.int .i64 7) := HN1.out.sb.cell 0
  have xc1 : V1.cell? ⟨A, 1, none⟩ = some (.int .i64 2) := HN1.out.sb.cell 1
  have xc2 : V1.cell? ⟨A, 2, none⟩ = some (.int .i64 10) := HN1.out.sb.cell 2
  have xc3 : V1.cell? ⟨A, 3, none⟩ = some (.int .i64 0) := HN1.out.sb.cell 3
  have xc4 : V1.cell? ⟨A, 4, none⟩ = some (.int .i64 2) := HN1.out.sb.cell 4
  have xc5 : V1.cell? ⟨A, 5, none⟩ = some (.int .i64 2) := HN1.out.sb.cell 5
  have xc6 : V1.cell? ⟨A, 6, none⟩ = some (.slice Ao1 2 co1) := HN1.out.sb.cell 6
  have xc7 : V1.cell? ⟨A, 7, none⟩ = some (.slice Aq1 1 cq1) := HN1.out.sb.cell 7
  have xz0 := HN1.out.sb.frozen 0
  have xz1 := HN1.out.sb.frozen 1
  have xz2 := HN1.out.sb.frozen 2
  have xz3 := HN1.out.sb.frozen 3
  have xz4 := HN1.out.sb.frozen 4
  have xz5 := HN1.out.sb.frozen 5
  have xz6 := HN1.out.sb.frozen 6
  have xz7 := HN1.out.sb.frozen 7
  have xr0 : V1.cell? ⟨R, 0, none⟩ = some (.int .i64 7) := HN1.out.rb.cell 0
  have xr1 : V1.cell? ⟨R, 1, none⟩ = some (.int .i64 2) := HN1.out.rb.cell 1
  have xr2 : V1.cell? ⟨R, 2, none⟩ = some (.int .i64 0) := HN1.out.rb.cell 2
  have xr3 : V1.cell? ⟨R, 3, none⟩ = some (.slice Ar0 0 cr0) := HN1.out.rb.cell 3
  have xq0 := HN1.out.rb.frozen 0
  have xq1 := HN1.out.rb.frozen 1
  have xq2 := HN1.out.rb.frozen 2
  have xq3 := HN1.out.rb.frozen 3
  have lA := HN1.out.sb.lt
  have lR := HN1.out.rb.lt
  go_wp2_with fail
  refine HC.out.mono ?_
  clear HC
  rintro e w9 ⟨⟨sv, kv, rfl, hsn, hks⟩, hbn⟩
  rw [ex2] at hsn hks
  obtain ⟨vo, vq, rfl, hO, hQ⟩ := hsn
  obtain ⟨Ao2, co2, hvo, -, -⟩ := hO.form
  change vo = .slice Ao2 2 co2 at hvo
  obtain ⟨Aq2, cq2, hvq, -, -⟩ := hQ.form
  change vq = .slice Aq2 1 cq2 at hvq
  subst hvo hvq
  obtain ⟨Ak2, ck2, hkv, -, -⟩ := hks.form
  change kv = .slice Ak2 0 ck2 at hkv
  subst hkv
  clear xc0 xc1 xc2 xc3 xc4 xc5 xc6 xc7 xz0 xz1 xz2 xz3 xz4 xz5 xz6 xz7 xr0 xr1 xr2 xr3 xq0 xq1 xq2 xq3 lA lR
  have HB2 := Lib.hid ((HN1.out.below hbn))
  clear hbn hks
  have xc0 : w9.cell? ⟨A, 0, none⟩ = some (.int .i64 7) := HB2.out.sb.cell 0
  have xc1 : w9.cell? ⟨A, 1, none⟩ = some (.int .i64 2) := HB2.out.sb.cell 1
  have xc2 : w9.cell? ⟨A, 2, none⟩ = some (.int .i64 10) := HB2.out.sb.cell 2
  have xc3 : w9.cell? ⟨A, 3, none⟩ = some (.int .i64 0) := HB2.out.sb.cell 3
  have xc4 : w9.cell? ⟨A, 4, none⟩ = some (.int .i64 2) := HB2.out.sb.cell 4
  have xc5 : w9.cell? ⟨A, 5, none⟩ = some (.int .i64 2) := HB2.out.sb.cell 5
  have xc6 : w9.cell? ⟨A, 6, none⟩ = some (.slice Ao1 2 co1) := HB2.out.sb.cell 6
  have xc7 : w9.cell? ⟨A, 7, none⟩ = some (.slice Aq1 1 cq1) := HB2.out.sb.cell 7
  have xz0 := HB2.out.sb.frozen 0
  have xz1 := HB2.out.sb.frozen 1
  have xz2 := HB2.out.sb.frozen 2
  have xz3 := HB2.out.sb.frozen 3
  have xz4 := HB2.out.sb.frozen 4
  have xz5 := HB2.out.sb.frozen 5
  have xz6 := HB2.out.sb.frozen 6
  have xz7 := HB2.out.sb.frozen 7
  have xr0 : w9.cell? ⟨R, 0, none⟩ = some (.int .i64 7) := HB2.out.rb.cell 0
  have xr1 : w9.cell? ⟨R, 1, none⟩ = some (.int .i64 2) := HB2.out.rb.cell 1
  have xr2 : w9.cell? ⟨R, 2, none⟩ = some (.int .i64 0) := HB2.out.rb.cell 2
  have xr3 : w9.cell? ⟨R, 3, none⟩ = some (.slice Ar0 0 cr0) := HB2.out.rb.cell 3
  have xq0 := HB2.out.rb.frozen 0
  have xq1 := HB2.out.rb.frozen 1
  have xq2 := HB2.out.rb.frozen 2
  have xq3 := HB2.out.rb.frozen 3
  have lA := HB2.out.sb.lt
  have lR := HB2.out.rb.lt
  rw [show snC eS1 (.slice Ao2 2 co2) (.slice Aq2 1 cq2) = #[.int .i64 7, .int .i64 2, .int .i64 10, .int .i64 0, .int .i64 2, .int .i64 2, .slice Ao2 2 co2, .slice Aq2 1 cq2] from rfl]
  have HN2 := Lib.hid (HB2.out.setS HA.out eS1 (v0 := .int .i64 7) (v1 := .int .i64 2) (v2 := .int .i64 10) (v3 := .int .i64 0) (v4 := .int .i64 2) (v5 := .int .i64 2) hO hQ rfl)
  clear hO hQ HN1
  go_upto_region 5 with fail
  generalize ((((((((w9.setCell ⟨A, 0, none⟩ (.int .i64 7)).setCell ⟨A, 1, none⟩ (.int .i64 2)).setCell ⟨A, 2, none⟩ (.int .i64 10)).setCell ⟨A, 3, none⟩ (.int .i64 0)).setCell ⟨A, 4, none⟩ (.int .i64 2)).setCell ⟨A, 5, none⟩ (.int .i64 2)).setCell ⟨A, 6, none⟩ (.slice Ao2 2 co2)).setCell ⟨A, 7, none⟩ (.slice Aq2 1 cq2)) = V2 at *
  clear xc0 xc1 xc2 xc3 xc4 xc5 xc6 xc7 xz0 xz1 xz2 xz3 xz4 xz5 xz6 xz7 xr0 xr1 xr2 xr3 xq0 xq1 xq2 xq3 lA lR HB2
  obtain ⟨lbp, vsp, vpp, hKp⟩ := KsV.cells (l := eP1) (HN2.out.ks (eP1, .slice (some ⟨b1, off1, none⟩) 2 ck1) (by simp)) (by decide) (i := 0) (by decide)
  obtain ⟨Asp, csp, hvsp, -, -⟩ := hKp.xs.form
  change vsp = .slice Asp 0 csp at hvsp
  subst hvsp
  obtain ⟨App, cpp, hvpp, hbyp⟩ := hKp.bs
  change vpp = .slice App 1 cpp at hvpp
  subst hvpp
  have kp0 : V2.cell? ⟨b1, off1, none⟩ = some (.int .i64 0) := hKp.c0
  have kp1 : V2.cell? ⟨b1, off1 + 1, none⟩ = some (.int .i64 7) := hKp.c1
  have kp2 : V2.cell? ⟨b1, off1 + 2, none⟩ = some (.int .i64 0) := hKp.c2
  have kp3 : V2.cell? ⟨b1, off1 + 3, none⟩ = some (.int .i64 0) := hKp.c3
  have kp4 : V2.cell? ⟨b1, off1 + 4, none⟩ = some (.int .i64 0) := hKp.c4
  have kp5 : V2.cell? ⟨b1, off1 + 5, none⟩ = some (.slice Asp 0 csp) := hKp.c5
  have kp6 : V2.cell? ⟨b1, off1 + 6, none⟩ = some (.slice App 1 cpp) := hKp.c6
  obtain ⟨lbq, vsq, vpq, hKq⟩ := KsV.cells (l := eP1) (HN2.out.ks (eP1, .slice (some ⟨b1, off1, none⟩) 2 ck1) (by simp)) (by decide) (i := 1) (by decide)
  obtain ⟨Asq, csq, hvsq, -, -⟩ := hKq.xs.form
  change vsq = .slice Asq 0 csq at hvsq
  subst hvsq
  obtain ⟨Apq, cpq, hvpq, hbyq⟩ := hKq.bs
  change vpq = .slice Apq 1 cpq at hvpq
  subst hvpq
  have kq0 : V2.cell? ⟨b1, off1 + 7, none⟩ = some (.int .i64 0) := hKq.c0
  have kq1 : V2.cell? ⟨b1, off1 + 7 + 1, none⟩ = some (.int .i64 7) := hKq.c1
  have kq2 : V2.cell? ⟨b1, off1 + 7 + 2, none⟩ = some (.int .i64 1) := hKq.c2
  have kq3 : V2.cell? ⟨b1, off1 + 7 + 3, none⟩ = some (.int .i64 0) := hKq.c3
  have kq4 : V2.cell? ⟨b1, off1 + 7 + 4, none⟩ = some (.int .i64 0) := hKq.c4
  have kq5 : V2.cell? ⟨b1, off1 + 7 + 5, none⟩ = some (.slice Asq 0 csq) := hKq.c5
  have kq6 : V2.cell? ⟨b1, off1 + 7 + 6, none⟩ = some (.slice Apq 1 cpq) := hKq.c6
  have hrun := run_a (c := cpp) hbyp
  go_upto_region 7 with fail
  clear lbp kp0 kp1 kp2 kp3 kp4 kp5 kp6 hrun hKp hbyp
  have xc0 : V2.cell? ⟨A, 0, none⟩ = some (.int .i64 7) := HN2.out.sb.cell 0
  have xc1 : V2.cell? ⟨A, 1, none⟩ = some (.int .i64 2) := HN2.out.sb.cell 1
  have xc2 : V2.cell? ⟨A, 2, none⟩ = some (.int .i64 10) := HN2.out.sb.cell 2
  have xc3 : V2.cell? ⟨A, 3, none⟩ = some (.int .i64 0) := HN2.out.sb.cell 3
  have xc4 : V2.cell? ⟨A, 4, none⟩ = some (.int .i64 2) := HN2.out.sb.cell 4
  have xc5 : V2.cell? ⟨A, 5, none⟩ = some (.int .i64 2) := HN2.out.sb.cell 5
  have xc6 : V2.cell? ⟨A, 6, none⟩ = some (.slice Ao2 2 co2) := HN2.out.sb.cell 6
  have xc7 : V2.cell? ⟨A, 7, none⟩ = some (.slice Aq2 1 cq2) := HN2.out.sb.cell 7
  have xz0 := HN2.out.sb.frozen 0
  have xz1 := HN2.out.sb.frozen 1
  have xz2 := HN2.out.sb.frozen 2
  have xz3 := HN2.out.sb.frozen 3
  have xz4 := HN2.out.sb.frozen 4
  have xz5 := HN2.out.sb.frozen 5
  have xz6 := HN2.out.sb.frozen 6
  have xz7 := HN2.out.sb.frozen 7
  have xr0 : V2.cell? ⟨R, 0, none⟩ = some (.int .i64 7) := HN2.out.rb.cell 0
  have xr1 : V2.cell? ⟨R, 1, none⟩ = some (.int .i64 2) := HN2.out.rb.cell 1
  have xr2 : V2.cell? ⟨R, 2, none⟩ = some (.int .i64 0) := HN2.out.rb.cell 2
  have xr3 : V2.cell? ⟨R, 3, none⟩ = some (.slice Ar0 0 cr0) := HN2.out.rb.cell 3
  have xq0 := HN2.out.rb.frozen 0
  have xq1 := HN2.out.rb.frozen 1
  have xq2 := HN2.out.rb.frozen 2
  have xq3 := HN2.out.rb.frozen 3
  have lA := HN2.out.sb.lt
  have lR := HN2.out.rb.lt
  refine wp_region_lexP [(0, 1), (1, 1), (2, 1), (3, 1), (4, 0), (5, 1), (6, 2), (7, 2), (8, 2), (9, 0), (10, 2), (11, 2)] [6, 7, 8, 9, 10, 11] (fun w9 => w9.cell? ⟨R, 0, none⟩ = some (.int .i64 7) ∧ w9.cell? ⟨R, 1, none⟩ = some (.int .i64 2) ∧ w9.cell? ⟨R, 2, none⟩ = some (.int .i64 0) ∧ w9.cell? ⟨R, 3, none⟩ = some (.slice Ar0 0 cr0) ∧ w9.cell? ⟨b1, off1 + 7, none⟩ = some (.int .i64 0) ∧ w9.cell? ⟨b1, off1 + 7 + 1, none⟩ = some (.int .i64 7) ∧ w9.cell? ⟨b1, off1 + 7 + 2, none⟩ = some (.int .i64 1) ∧ w9.cell? ⟨b1, off1 + 7 + 3, none⟩ = some (.int .i64 0) ∧ w9.cell? ⟨b1, off1 + 7 + 4, none⟩ = some (.int .i64 0) ∧ w9.cell? ⟨b1, off1 + 7 + 5, none⟩ = some (.slice Asq 0 csq) ∧ w9.cell? ⟨b1, off1 + 7 + 6, none⟩ = some (.slice Apq 1 cpq)) (by kernel_rfl) (by kernel_rfl) (by kernel_rfl) (by kernel_rfl) (by kernel_rfl) ⟨xr0, xr1, xr2, xr3, kq0, kq1, kq2, kq3, kq4, kq5, kq6⟩ ?_
  repeat (refine lexP_read rfl (by rfl) (by rfl) (by intro w9 hS9; (try dsimp only at hS9); go_simp <;> with_reducible rfl) ?_; (try simp only [Act.put, List.getElem_toArray, List.getElem_cons_succ, List.getElem_cons_zero, List.setIfInBounds_toArray, List.set_cons_zero, List.set_cons_succ]))
  refine lexP_eff rfl (fun _ => trivial) ?_
  go_simp
  have hbd : Below V2.heap.size V2 V2.drew := (Below.refl _ _).drew
  have hrc : RcV V2.drew w.heap.size eR0 (.agg #[.int .i64 7, .int .i64 2, .int .i64 0, .slice Ar0 0 cr0]) := HN2.out.rc.up hbd
  have hpk : PkV V2.drew w.heap.size ⟨0, 7, 1, 0, 0, [], [98]⟩ (.agg #[.int .i64 0, .int .i64 7, .int .i64 1, .int .i64 0, .int .i64 0, .slice Asq 0 csq, .slice Apq 1 cpq]) := hKq.pk.up hbd
  refine CallsIn.mono ((callsIn_wide (n := 0)).2 (Receive_any eR0 ⟨0, 7, 1, 0, 0, [], [98]⟩ _ _ w.heap.size V2.drew hrc ⟨by decide⟩ hpk ⟨by decide, by decide⟩ HN2.out.bel.size)) ?_
  rintro e w9 ⟨⟨rv, vd, vk, rfl, hrv, hvd, hvk⟩, hbn⟩
  rw [ex3] at hrv hvd hvk
  obtain ⟨ve, rfl, hE⟩ := hrv
  obtain ⟨Ar3, cr3, hve, -, -⟩ := hE.form
  change ve = .slice Ar3 1 cr3 at hve
  subst hve
  obtain ⟨Ad3, cd3, hvd2, -, -⟩ := hvd.form
  change vd = .slice Ad3 0 cd3 at hvd2
  subst hvd2
  obtain ⟨b3, off3, ck3, hkv, -, -⟩ := hvk.at_ (by decide) (by decide)
  change vk = .slice (some ⟨b3, off3, none⟩) 1 ck3 at hkv
  subst hkv
  dsimp only
  have hbn' : Below V2.heap.size V2 w9 := hbd.trans hbn
  have HB3 := Lib.hid ((HN2.out.below hbn').add hvk)
  have y0 := (hbn'.cell (p := ⟨b1, off1 + 7, none⟩) lbq).trans kq0
  have y1 := (hbn'.cell (p := ⟨b1, off1 + 7 + 1, none⟩) lbq).trans kq1
  have y2 := (hbn'.cell (p := ⟨b1, off1 + 7 + 2, none⟩) lbq).trans kq2
  have y3 := (hbn'.cell (p := ⟨b1, off1 + 7 + 3, none⟩) lbq).trans kq3
  have y4 := (hbn'.cell (p := ⟨b1, off1 + 7 + 4, none⟩) lbq).trans kq4
  have y5 := (hbn'.cell (p := ⟨b1, off1 + 7 + 5, none⟩) lbq).trans kq5
  have y6 := (hbn'.cell (p := ⟨b1, off1 + 7 + 6, none⟩) lbq).trans kq6
  have HY := Lib.hid (And.intro y0 (And.intro y1 (And.intro y2 (And.intro y3 (And.intro y4 (And.intro y5 y6))))))
  clear xc0 xc1 xc2 xc3 xc4 xc5 xc6 xc7 xz0 xz1 xz2 xz3 xz4 xz5 xz6 xz7 xr0 xr1 xr2 xr3 xq0 xq1 xq2 xq3 lA lR lbq kq0 kq1 kq2 kq3 kq4 kq5 kq6 y0 y1 y2 y3 y4 y5 y6
  clear hKq hbyq hrc hpk hbd
  have xc0 : w9.cell? ⟨A, 0, none⟩ = some (.int .i64 7) := HB3.out.sb.cell 0
  have xc1 : w9.cell? ⟨A, 1, none⟩ = some (.int .i64 2) := HB3.out.sb.cell 1
  have xc2 : w9.cell? ⟨A, 2, none⟩ = some (.int .i64 10) := HB3.out.sb.cell 2
  have xc3 : w9.cell? ⟨A, 3, none⟩ = some (.int .i64 0) := HB3.out.sb.cell 3
  have xc4 : w9.cell? ⟨A, 4, none⟩ = some (.int .i64 2) := HB3.out.sb.cell 4
  have xc5 : w9.cell? ⟨A, 5, none⟩ = some (.int .i64 2) := HB3.out.sb.cell 5
  have xc6 : w9.cell? ⟨A, 6, none⟩ = some (.slice Ao2 2 co2) := HB3.out.sb.cell 6
  have xc7 : w9.cell? ⟨A, 7, none⟩ = some (.slice Aq2 1 cq2) := HB3.out.sb.cell 7
  have xz0 := HB3.out.sb.frozen 0
  have xz1 := HB3.out.sb.frozen 1
  have xz2 := HB3.out.sb.frozen 2
  have xz3 := HB3.out.sb.frozen 3
  have xz4 := HB3.out.sb.frozen 4
  have xz5 := HB3.out.sb.frozen 5
  have xz6 := HB3.out.sb.frozen 6
  have xz7 := HB3.out.sb.frozen 7
  have xr0 : w9.cell? ⟨R, 0, none⟩ = some (.int .i64 7) := HB3.out.rb.cell 0
  have xr1 : w9.cell? ⟨R, 1, none⟩ = some (.int .i64 2) := HB3.out.rb.cell 1
  have xr2 : w9.cell? ⟨R, 2, none⟩ = some (.int .i64 0) := HB3.out.rb.cell 2
  have xr3 : w9.cell? ⟨R, 3, none⟩ = some (.slice Ar0 0 cr0) := HB3.out.rb.cell 3
  have xq0 := HB3.out.rb.frozen 0
  have xq1 := HB3.out.rb.frozen 1
  have xq2 := HB3.out.rb.frozen 2
  have xq3 := HB3.out.rb.frozen 3
  have lA := HB3.out.sb.lt
  have lR := HB3.out.rb.lt
  refine ⟨⟨xr0, xr1, xr2, xr3, HY.out.1, HY.out.2.1, HY.out.2.2.1, HY.out.2.2.2.1, HY.out.2.2.2.2.1, HY.out.2.2.2.2.2.1, HY.out.2.2.2.2.2.2⟩, ?_⟩
  clear HY
  rw [show rcC eR1 (.slice Ar3 1 cr3) = #[.int .i64 7, .int .i64 2, .int .i64 0, .slice Ar3 1 cr3] from rfl]
  (try simp only [Act.put, List.getElem_toArray, List.getElem_cons_succ, List.getElem_cons_zero, List.setIfInBounds_toArray, List.set_cons_zero, List.set_cons_succ])
  repeat (refine lexP_read rfl (by rfl) (by rfl) (by intro w9 hS9; (try dsimp only at hS9); go_simp <;> with_reducible rfl) ?_; (try simp only [Act.put, List.getElem_toArray, List.getElem_cons_succ, List.getElem_cons_zero, List.setIfInBounds_toArray, List.set_cons_zero, List.set_cons_succ]))
  repeat (refine lexP_late rfl (fun _ => trivial) (by rfl) (by intro w9; go_simp <;> with_reducible rfl) ?_; (try simp only [Act.put, List.getElem_toArray, List.getElem_cons_succ, List.getElem_cons_zero, List.setIfInBounds_toArray, List.set_cons_zero, List.set_cons_succ]))
  have hTR := set33_turn HB3.out.rb HR.out (.int .i64 7) (.int .i64 2) (.int .i64 0) (.slice Ar3 1 cr3)
  have HN3 := Lib.hid (HB3.out.setR HR.out eR1 (v0 := .int .i64 7) (v1 := .int .i64 2) (v2 := .int .i64 0) hE rfl)
  have HD3 := Lib.hid (hvd.turn hTR (by simp) (by simp))
  clear hE hTR hvd hvk hbn hbn' HN2
  refine lexP_eff rfl (fun _ => trivial) ?_
  go_simp
  repeat (refine lexP_late rfl (fun _ => trivial) (by rfl) (by intro w9; go_simp <;> with_reducible rfl) ?_; (try simp only [Act.put, List.getElem_toArray, List.getElem_cons_succ, List.getElem_cons_zero, List.setIfInBounds_toArray, List.set_cons_zero, List.set_cons_succ]))
  refine lexP_nil (panQ_normal ?_)
  generalize ((((w9.setCell ⟨R, 0, none⟩ (.int .i64 7)).setCell ⟨R, 1, none⟩ (.int .i64 2)).setCell ⟨R, 2, none⟩ (.int .i64 0)).setCell ⟨R, 3, none⟩ (.slice Ar3 1 cr3)) = V3 at *
  clear xc0 xc1 xc2 xc3 xc4 xc5 xc6 xc7 xz0 xz1 xz2 xz3 xz4 xz5 xz6 xz7 xr0 xr1 xr2 xr3 xq0 xq1 xq2 xq3 lA lR HB3
  go_upto_region 8 with fail
  obtain ⟨lbx, vsx, vpx, hKx⟩ := KsV.cells (l := [eX]) (HN3.out.ks ([eX], .slice (some ⟨b3, off3, none⟩) 1 ck3) (by simp)) (by decide) (i := 0) (by decide)
  obtain ⟨Asx, csx, hvsx, -, -⟩ := hKx.xs.form
  change vsx = .slice Asx 1 csx at hvsx
  subst hvsx
  obtain ⟨Apx, cpx, hvpx, hbyx⟩ := hKx.bs
  change vpx = .slice Apx 0 cpx at hvpx
  subst hvpx
  have kx0 : V3.cell? ⟨b3, off3, none⟩ = some (.int .i64 1) := hKx.c0
  have kx1 : V3.cell? ⟨b3, off3 + 1, none⟩ = some (.int .i64 7) := hKx.c1
  have kx2 : V3.cell? ⟨b3, off3 + 2, none⟩ = some (.int .i64 0) := hKx.c2
  have kx3 : V3.cell? ⟨b3, off3 + 3, none⟩ = some (.int .i64 0) := hKx.c3
  have kx4 : V3.cell? ⟨b3, off3 + 4, none⟩ = some (.int .i64 2) := hKx.c4
  have kx5 : V3.cell? ⟨b3, off3 + 5, none⟩ = some (.slice Asx 1 csx) := hKx.c5
  have kx6 : V3.cell? ⟨b3, off3 + 6, none⟩ = some (.slice Apx 0 cpx) := hKx.c6
  obtain ⟨bx, ox, cx, hvx, -, -, hbx, hcx⟩ := hKx.xs.at_ encX_len (by decide) (by decide)
  injection hvx with hAx hnx hcx2
  subst hAx
  clear hnx hcx2
  have kx7 : V3.cell? ⟨bx, ox, none⟩ = some (.int .i64 1) := hcx 0 (by decide) 0 _ rfl
  have kx8 : V3.cell? ⟨bx, ox + 1, none⟩ = some (.int .i64 1) := hcx 0 (by decide) 1 _ rfl
  clear hcx
  have kn : ∀ W, (binOp .neq 87 (.agg #[.int .i64 1, .int .i64 1]) (.agg #[.int .i64 1, .int .i64 1])).run Try.prog W = .ok (.bool false) W := fun W => by rw [neq87]; simp
  go_upto_region 10 with fail
  have xc0 : V3.cell? ⟨A, 0, none⟩ = some (.int .i64 7) := HN3.out.sb.cell 0
  have xc1 : V3.cell? ⟨A, 1, none⟩ = some (.int .i64 2) := HN3.out.sb.cell 1
  have xc2 : V3.cell? ⟨A, 2, none⟩ = some (.int .i64 10) := HN3.out.sb.cell 2
  have xc3 : V3.cell? ⟨A, 3, none⟩ = some (.int .i64 0) := HN3.out.sb.cell 3
  have xc4 : V3.cell? ⟨A, 4, none⟩ = some (.int .i64 2) := HN3.out.sb.cell 4
  have xc5 : V3.cell? ⟨A, 5, none⟩ = some (.int .i64 2) := HN3.out.sb.cell 5
  have xc6 : V3.cell? ⟨A, 6, none⟩ = some (.slice Ao2 2 co2) := HN3.out.sb.cell 6
  have xc7 : V3.cell? ⟨A, 7, none⟩ = some (.slice Aq2 1 cq2) := HN3.out.sb.cell 7
  have xz0 := HN3.out.sb.frozen 0
  have xz1 := HN3.out.sb.frozen 1
  have xz2 := HN3.out.sb.frozen 2
  have xz3 := HN3.out.sb.frozen 3
  have xz4 := HN3.out.sb.frozen 4
  have xz5 := HN3.out.sb.frozen 5
  have xz6 := HN3.out.sb.frozen 6
  have xz7 := HN3.out.sb.frozen 7
  have xr0 : V3.cell? ⟨R, 0, none⟩ = some (.int .i64 7) := HN3.out.rb.cell 0
  have xr1 : V3.cell? ⟨R, 1, none⟩ = some (.int .i64 2) := HN3.out.rb.cell 1
  have xr2 : V3.cell? ⟨R, 2, none⟩ = some (.int .i64 0) := HN3.out.rb.cell 2
  have xr3 : V3.cell? ⟨R, 3, none⟩ = some (.slice Ar3 1 cr3) := HN3.out.rb.cell 3
  have xq0 := HN3.out.rb.frozen 0
  have xq1 := HN3.out.rb.frozen 1
  have xq2 := HN3.out.rb.frozen 2
  have xq3 := HN3.out.rb.frozen 3
  have lA := HN3.out.sb.lt
  have lR := HN3.out.rb.lt
  refine wp_region_lexP [(0, 1), (1, 1), (2, 1), (3, 1), (4, 0), (5, 1), (6, 2), (7, 2), (8, 0), (9, 2)] [6, 7, 8, 9] (fun w9 => w9.cell? ⟨A, 0, none⟩ = some (.int .i64 7) ∧ w9.cell? ⟨A, 1, none⟩ = some (.int .i64 2) ∧ w9.cell? ⟨A, 2, none⟩ = some (.int .i64 10) ∧ w9.cell? ⟨A, 3, none⟩ = some (.int .i64 0) ∧ w9.cell? ⟨A, 4, none⟩ = some (.int .i64 2) ∧ w9.cell? ⟨A, 5, none⟩ = some (.int .i64 2) ∧ w9.cell? ⟨A, 6, none⟩ = some (.slice Ao2 2 co2) ∧ w9.cell? ⟨A, 7, none⟩ = some (.slice Aq2 1 cq2) ∧ w9.cell? ⟨b3, off3, none⟩ = some (.int .i64 1) ∧ w9.cell? ⟨b3, off3 + 1, none⟩ = some (.int .i64 7) ∧ w9.cell? ⟨b3, off3 + 2, none⟩ = some (.int .i64 0) ∧ w9.cell? ⟨b3, off3 + 3, none⟩ = some (.int .i64 0) ∧ w9.cell? ⟨b3, off3 + 4, none⟩ = some (.int .i64 2) ∧ w9.cell? ⟨b3, off3 + 5, none⟩ = some (.slice (some ⟨bx, ox, none⟩) 1 csx) ∧ w9.cell? ⟨b3, off3 + 6, none⟩ = some (.slice Apx 0 cpx)) (by kernel_rfl) (by kernel_rfl) (by kernel_rfl) (by kernel_rfl) (by kernel_rfl) ⟨xc0, xc1, xc2, xc3, xc4, xc5, xc6, xc7, kx0, kx1, kx2, kx3, kx4, kx5, kx6⟩ ?_
  repeat (refine lexP_read rfl (by rfl) (by rfl) (by intro w9 hS9; (try dsimp only at hS9); go_simp <;> with_reducible rfl) ?_; (try simp only [Act.put, List.getElem_toArray, List.getElem_cons_succ, List.getElem_cons_zero, List.setIfInBounds_toArray, List.set_cons_zero, List.set_cons_succ]))
  refine lexP_eff rfl (fun _ => trivial) ?_
  go_simp
  have hbd : Below V3.heap.size V3 V3.drew := (Below.refl _ _).drew
  have hsn0 : SnV V3.drew w.heap.size eS1 (.agg #[.int .i64 7, .int .i64 2, .int .i64 10, .int .i64 0, .int .i64 2, .int .i64 2, .slice Ao2 2 co2, .slice Aq2 1 cq2]) := HN3.out.sn.up hbd
  have hpk : PkV V3.drew w.heap.size eX (.agg #[.int .i64 1, .int .i64 7, .int .i64 0, .int .i64 0, .int .i64 2, .slice (some ⟨bx, ox, none⟩) 1 csx, .slice Apx 0 cpx]) := hKx.pk.up hbd
  refine CallsIn.mono ((callsIn_wide (n := 0)).2 (Ack_any eS1 8 eX _ _ w.heap.size V3.drew hsn0 ⟨by decide, by decide⟩ hpk ⟨by decide, by decide⟩ HN3.out.bel.size)) ?_
  rintro e w9 ⟨⟨sv, nr, rfl, hsn, hnr⟩, hbn⟩
  rw [ex4] at hsn hnr
  obtain rfl : nr = 8 := hnr
  obtain ⟨vo, vq, rfl, hO, hQ⟩ := hsn
  obtain ⟨Ao4, co4, hvo, -, -⟩ := hO.form
  change vo = .slice Ao4 2 co4 at hvo
  obtain ⟨Aq4, cq4, hvq, -, -⟩ := hQ.form
  change vq = .slice Aq4 1 cq4 at hvq
  subst hvo hvq
  dsimp only
  have hbn' : Below V3.heap.size V3 w9 := hbd.trans hbn
  have HB4 := Lib.hid (HN3.out.below hbn')
  have y0 := (hbn'.cell (p := ⟨b3, off3, none⟩) lbx).trans kx0
  have y1 := (hbn'.cell (p := ⟨b3, off3 + 1, none⟩) lbx).trans kx1
  have y2 := (hbn'.cell (p := ⟨b3, off3 + 2, none⟩) lbx).trans kx2
  have y3 := (hbn'.cell (p := ⟨b3, off3 + 3, none⟩) lbx).trans kx3
  have y4 := (hbn'.cell (p := ⟨b3, off3 + 4, none⟩) lbx).trans kx4
  have y5 := (hbn'.cell (p := ⟨b3, off3 + 5, none⟩) lbx).trans kx5
  have y6 := (hbn'.cell (p := ⟨b3, off3 + 6, none⟩) lbx).trans kx6
  have HY := Lib.hid (And.intro y0 (And.intro y1 (And.intro y2 (And.intro y3 (And.intro y4 (And.intro y5 y6))))))
  clear xc0 xc1 xc2 xc3 xc4 xc5 xc6 xc7 xz0 xz1 xz2 xz3 xz4 xz5 xz6 xz7 xr0 xr1 xr2 xr3 xq0 xq1 xq2 xq3 lA lR lbx kx0 kx1 kx2 kx3 kx4 kx5 kx6 y0 y1 y2 y3 y4 y5 y6
  clear hKx hbyx hsn0 hpk hbd kx7 kx8 kn hbx
  have xc0 : w9.cell? ⟨A, 0, none⟩ = some (.int .i64 7) := HB4.out.sb.cell 0
  have xc1 : w9.cell? ⟨A, 1, none⟩ = some (.int .i64 2) := HB4.out.sb.cell 1
  have xc2 : w9.cell? ⟨A, 2, none⟩ = some (.int .i64 10) := HB4.out.sb.cell 2
  have xc3 : w9.cell? ⟨A, 3, none⟩ = some (.int .i64 0) := HB4.out.sb.cell 3
  have xc4 : w9.cell? ⟨A, 4, none⟩ = some (.int .i64 2) := HB4.out.sb.cell 4
  have xc5 : w9.cell? ⟨A, 5, none⟩ = some (.int .i64 2) := HB4.out.sb.cell 5
  have xc6 : w9.cell? ⟨A, 6, none⟩ = some (.slice Ao2 2 co2) := HB4.out.sb.cell 6
  have xc7 : w9.cell? ⟨A, 7, none⟩ = some (.slice Aq2 1 cq2) := HB4.out.sb.cell 7
  have xz0 := HB4.out.sb.frozen 0
  have xz1 := HB4.out.sb.frozen 1
  have xz2 := HB4.out.sb.frozen 2
  have xz3 := HB4.out.sb.frozen 3
  have xz4 := HB4.out.sb.frozen 4
  have xz5 := HB4.out.sb.frozen 5
  have xz6 := HB4.out.sb.frozen 6
  have xz7 := HB4.out.sb.frozen 7
  have xr0 : w9.cell? ⟨R, 0, none⟩ = some (.int .i64 7) := HB4.out.rb.cell 0
  have xr1 : w9.cell? ⟨R, 1, none⟩ = some (.int .i64 2) := HB4.out.rb.cell 1
  have xr2 : w9.cell? ⟨R, 2, none⟩ = some (.int .i64 0) := HB4.out.rb.cell 2
  have xr3 : w9.cell? ⟨R, 3, none⟩ = some (.slice Ar3 1 cr3) := HB4.out.rb.cell 3
  have xq0 := HB4.out.rb.frozen 0
  have xq1 := HB4.out.rb.frozen 1
  have xq2 := HB4.out.rb.frozen 2
  have xq3 := HB4.out.rb.frozen 3
  have lA := HB4.out.sb.lt
  have lR := HB4.out.rb.lt
  refine ⟨⟨xc0, xc1, xc2, xc3, xc4, xc5, xc6, xc7, HY.out.1, HY.out.2.1, HY.out.2.2.1, HY.out.2.2.2.1, HY.out.2.2.2.2.1, HY.out.2.2.2.2.2.1, HY.out.2.2.2.2.2.2⟩, ?_⟩
  clear HY
  rw [show snC eS3 (.slice Ao4 2 co4) (.slice Aq4 1 cq4) = #[.int .i64 7, .int .i64 2, .int .i64 10, .int .i64 0, .int .i64 2, .int .i64 2, .slice Ao4 2 co4, .slice Aq4 1 cq4] from rfl]
  (try simp only [Act.put, List.getElem_toArray, List.getElem_cons_succ, List.getElem_cons_zero, List.setIfInBounds_toArray, List.set_cons_zero, List.set_cons_succ])
  repeat (refine lexP_read rfl (by rfl) (by rfl) (by intro w9 hS9; (try dsimp only at hS9); go_simp <;> with_reducible rfl) ?_; (try simp only [Act.put, List.getElem_toArray, List.getElem_cons_succ, List.getElem_cons_zero, List.setIfInBounds_toArray, List.set_cons_zero, List.set_cons_succ]))
  repeat (refine lexP_late rfl (fun _ => trivial) (by rfl) (by intro w9; go_simp <;> with_reducible rfl) ?_; (try simp only [Act.put, List.getElem_toArray, List.getElem_cons_succ, List.getElem_cons_zero, List.setIfInBounds_toArray, List.set_cons_zero, List.set_cons_succ]))
  have HN4 := Lib.hid (HB4.out.setS HA.out eS3 (v0 := .int .i64 7) (v1 := .int .i64 2) (v2 := .int .i64 10) (v3 := .int .i64 0) (v4 := .int .i64 2) (v5 := .int .i64 2) hO hQ rfl)
  clear hO hQ hbn hbn' HN3
  refine lexP_eff rfl (fun _ => trivial) ?_
  go_simp
  repeat (refine lexP_late rfl (fun _ => trivial) (by rfl) (by intro w9; go_simp <;> with_reducible rfl) ?_; (try simp only [Act.put, List.getElem_toArray, List.getElem_cons_succ, List.getElem_cons_zero, List.setIfInBounds_toArray, List.set_cons_zero, List.set_cons_succ]))
  refine lexP_nil (panQ_normal ?_)
  generalize ((((((((w9.setCell ⟨A, 0, none⟩ (.int .i64 7)).setCell ⟨A, 1, none⟩ (.int .i64 2)).setCell ⟨A, 2, none⟩ (.int .i64 10)).setCell ⟨A, 3, none⟩ (.int .i64 0)).setCell ⟨A, 4, none⟩ (.int .i64 2)).setCell ⟨A, 5, none⟩ (.int .i64 2)).setCell ⟨A, 6, none⟩ (.slice Ao4 2 co4)).setCell ⟨A, 7, none⟩ (.slice Aq4 1 cq4)) = V4 at *
  clear xc0 xc1 xc2 xc3 xc4 xc5 xc6 xc7 xz0 xz1 xz2 xz3 xz4 xz5 xz6 xz7 xr0 xr1 xr2 xr3 xq0 xq1 xq2 xq3 lA lR HB4
  go_upto_region 11 with fail
  have hc := Poll_any eS3 10 _ w.heap.size V4 HN4.out.sn ⟨by decide, by decide⟩ HN4.out.bel.size
  rw [show snC eS3 (.slice Ao4 2 co4) (.slice Aq4 1 cq4) = #[.int .i64 7, .int .i64 2, .int .i64 10, .int .i64 0, .int .i64 2, .int .i64 2, .slice Ao4 2 co4, .slice Aq4 1 cq4] from rfl] at hc
  have HC := Lib.hid hc
  clear hc
  have xc0 : V4.cell? ⟨A, 0, none⟩ = some (.int .i64 7) := HN4.out.sb.cell 0
  have xc1 : V4.cell? ⟨A, 1, none⟩ = some (.int .i64 2) := HN4.out.sb.cell 1
  have xc2 : V4.cell? ⟨A, 2, none⟩ = some (.int .i64 10) := HN4.out.sb.cell 2
  have xc3 : V4.cell? ⟨A, 3, none⟩ = some (.int .i64 0) := HN4.out.sb.cell 3
  have xc4 : V4.cell? ⟨A, 4, none⟩ = some (.int .i64 2) := HN4.out.sb.cell 4
  have xc5 : V4.cell? ⟨A, 5, none⟩ = some (.int .i64 2) := HN4.out.sb.cell 5
  have xc6 : V4.cell? ⟨A, 6, none⟩ = some (.slice Ao4 2 co4) := HN4.out.sb.cell 6
  have xc7 : V4.cell? ⟨A, 7, none⟩ = some (.slice Aq4 1 cq4) := HN4.out.sb.cell 7
  have xz0 := HN4.out.sb.frozen 0
  have xz1 := HN4.out.sb.frozen 1
  have xz2 := HN4.out.sb.frozen 2
  have xz3 := HN4.out.sb.frozen 3
  have xz4 := HN4.out.sb.frozen 4
  have xz5 := HN4.out.sb.frozen 5
  have xz6 := HN4.out.sb.frozen 6
  have xz7 := HN4.out.sb.frozen 7
  have xr0 : V4.cell? ⟨R, 0, none⟩ = some (.int .i64 7) := HN4.out.rb.cell 0
  have xr1 : V4.cell? ⟨R, 1, none⟩ = some (.int .i64 2) := HN4.out.rb.cell 1
  have xr2 : V4.cell? ⟨R, 2, none⟩ = some (.int .i64 0) := HN4.out.rb.cell 2
  have xr3 : V4.cell? ⟨R, 3, none⟩ = some (.slice Ar3 1 cr3) := HN4.out.rb.cell 3
  have xq0 := HN4.out.rb.frozen 0
  have xq1 := HN4.out.rb.frozen 1
  have xq2 := HN4.out.rb.frozen 2
  have xq3 := HN4.out.rb.frozen 3
  have lA := HN4.out.sb.lt
  have lR := HN4.out.rb.lt
  go_wp2_with fail
  refine HC.out.mono ?_
  clear HC
  rintro e w9 ⟨⟨sv, kv, rfl, hsn, hks⟩, hbn⟩
  rw [ex5] at hsn hks
  obtain ⟨vo, vq, rfl, hO, hQ⟩ := hsn
  obtain ⟨Ao5, co5, hvo, -, -⟩ := hO.form
  change vo = .slice Ao5 2 co5 at hvo
  obtain ⟨Aq5, cq5, hvq, -, -⟩ := hQ.form
  change vq = .slice Aq5 1 cq5 at hvq
  subst hvo hvq
  obtain ⟨b5, off5, ck5, hkv, -, -⟩ := hks.at_ (by decide) (by decide)
  change kv = .slice (some ⟨b5, off5, none⟩) 1 ck5 at hkv
  subst hkv
  clear xc0 xc1 xc2 xc3 xc4 xc5 xc6 xc7 xz0 xz1 xz2 xz3 xz4 xz5 xz6 xz7 xr0 xr1 xr2 xr3 xq0 xq1 xq2 xq3 lA lR
  have HB5 := Lib.hid ((HN4.out.below hbn).add hks)
  clear hbn hks
  have xc0 : w9.cell? ⟨A, 0, none⟩ = some (.int .i64 7) := HB5.out.sb.cell 0
  have xc1 : w9.cell? ⟨A, 1, none⟩ = some (.int .i64 2) := HB5.out.sb.cell 1
  have xc2 : w9.cell? ⟨A, 2, none⟩ = some (.int .i64 10) := HB5.out.sb.cell 2
  have xc3 : w9.cell? ⟨A, 3, none⟩ = some (.int .i64 0) := HB5.out.sb.cell 3
  have xc4 : w9.cell? ⟨A, 4, none⟩ = some (.int .i64 2) := HB5.out.sb.cell 4
  have xc5 : w9.cell? ⟨A, 5, none⟩ = some (.int .i64 2) := HB5.out.sb.cell 5
  have xc6 : w9.cell? ⟨A, 6, none⟩ = some (.slice Ao4 2 co4) := HB5.out.sb.cell 6
  have xc7 : w9.cell? ⟨A, 7, none⟩ = some (.slice Aq4 1 cq4) := HB5.out.sb.cell 7
  have xz0 := HB5.out.sb.frozen 0
  have xz1 := HB5.out.sb.frozen 1
  have xz2 := HB5.out.sb.frozen 2
  have xz3 := HB5.out.sb.frozen 3
  have xz4 := HB5.out.sb.frozen 4
  have xz5 := HB5.out.sb.frozen 5
  have xz6 := HB5.out.sb.frozen 6
  have xz7 := HB5.out.sb.frozen 7
  have xr0 : w9.cell? ⟨R, 0, none⟩ = some (.int .i64 7) := HB5.out.rb.cell 0
  have xr1 : w9.cell? ⟨R, 1, none⟩ = some (.int .i64 2) := HB5.out.rb.cell 1
  have xr2 : w9.cell? ⟨R, 2, none⟩ = some (.int .i64 0) := HB5.out.rb.cell 2
  have xr3 : w9.cell? ⟨R, 3, none⟩ = some (.slice Ar3 1 cr3) := HB5.out.rb.cell 3
  have xq0 := HB5.out.rb.frozen 0
  have xq1 := HB5.out.rb.frozen 1
  have xq2 := HB5.out.rb.frozen 2
  have xq3 := HB5.out.rb.frozen 3
  have lA := HB5.out.sb.lt
  have lR := HB5.out.rb.lt
  rw [show snC eS4 (.slice Ao5 2 co5) (.slice Aq5 1 cq5) = #[.int .i64 7, .int .i64 2, .int .i64 10, .int .i64 0, .int .i64 2, .int .i64 2, .slice Ao5 2 co5, .slice Aq5 1 cq5] from rfl]
  have HN5 := Lib.hid (HB5.out.setS HA.out eS4 (v0 := .int .i64 7) (v1 := .int .i64 2) (v2 := .int .i64 10) (v3 := .int .i64 0) (v4 := .int .i64 2) (v5 := .int .i64 2) hO hQ rfl)
  clear hO hQ HN4
  go_upto_region 12 with fail
  generalize ((((((((w9.setCell ⟨A, 0, none⟩ (.int .i64 7)).setCell ⟨A, 1, none⟩ (.int .i64 2)).setCell ⟨A, 2, none⟩ (.int .i64 10)).setCell ⟨A, 3, none⟩ (.int .i64 0)).setCell ⟨A, 4, none⟩ (.int .i64 2)).setCell ⟨A, 5, none⟩ (.int .i64 2)).setCell ⟨A, 6, none⟩ (.slice Ao5 2 co5)).setCell ⟨A, 7, none⟩ (.slice Aq5 1 cq5)) = V5 at *
  clear xc0 xc1 xc2 xc3 xc4 xc5 xc6 xc7 xz0 xz1 xz2 xz3 xz4 xz5 xz6 xz7 xr0 xr1 xr2 xr3 xq0 xq1 xq2 xq3 lA lR HB5
  have xc0 : V5.cell? ⟨A, 0, none⟩ = some (.int .i64 7) := HN5.out.sb.cell 0
  have xc1 : V5.cell? ⟨A, 1, none⟩ = some (.int .i64 2) := HN5.out.sb.cell 1
  have xc2 : V5.cell? ⟨A, 2, none⟩ = some (.int .i64 10) := HN5.out.sb.cell 2
  have xc3 : V5.cell? ⟨A, 3, none⟩ = some (.int .i64 0) := HN5.out.sb.cell 3
  have xc4 : V5.cell? ⟨A, 4, none⟩ = some (.int .i64 2) := HN5.out.sb.cell 4
  have xc5 : V5.cell? ⟨A, 5, none⟩ = some (.int .i64 2) := HN5.out.sb.cell 5
  have xc6 : V5.cell? ⟨A, 6, none⟩ = some (.slice Ao5 2 co5) := HN5.out.sb.cell 6
  have xc7 : V5.cell? ⟨A, 7, none⟩ = some (.slice Aq5 1 cq5) := HN5.out.sb.cell 7
  have xz0 := HN5.out.sb.frozen 0
  have xz1 := HN5.out.sb.frozen 1
  have xz2 := HN5.out.sb.frozen 2
  have xz3 := HN5.out.sb.frozen 3
  have xz4 := HN5.out.sb.frozen 4
  have xz5 := HN5.out.sb.frozen 5
  have xz6 := HN5.out.sb.frozen 6
  have xz7 := HN5.out.sb.frozen 7
  have xr0 : V5.cell? ⟨R, 0, none⟩ = some (.int .i64 7) := HN5.out.rb.cell 0
  have xr1 : V5.cell? ⟨R, 1, none⟩ = some (.int .i64 2) := HN5.out.rb.cell 1
  have xr2 : V5.cell? ⟨R, 2, none⟩ = some (.int .i64 0) := HN5.out.rb.cell 2
  have xr3 : V5.cell? ⟨R, 3, none⟩ = some (.slice Ar3 1 cr3) := HN5.out.rb.cell 3
  have xq0 := HN5.out.rb.frozen 0
  have xq1 := HN5.out.rb.frozen 1
  have xq2 := HN5.out.rb.frozen 2
  have xq3 := HN5.out.rb.frozen 3
  have lA := HN5.out.sb.lt
  have lR := HN5.out.rb.lt
  obtain ⟨lbu, vsu, vpu, hKu⟩ := KsV.cells (l := eP4) (HN5.out.ks (eP4, .slice (some ⟨b5, off5, none⟩) 1 ck5) (by simp)) (by decide) (i := 0) (by decide)
  obtain ⟨Asu, csu, hvsu, -, -⟩ := hKu.xs.form
  change vsu = .slice Asu 0 csu at hvsu
  subst hvsu
  obtain ⟨Apu, cpu, hvpu, hbyu⟩ := hKu.bs
  change vpu = .slice Apu 1 cpu at hvpu
  subst hvpu
  have ku0 : V5.cell? ⟨b5, off5, none⟩ = some (.int .i64 0) := hKu.c0
  have ku1 : V5.cell? ⟨b5, off5 + 1, none⟩ = some (.int .i64 7) := hKu.c1
  have ku2 : V5.cell? ⟨b5, off5 + 2, none⟩ = some (.int .i64 0) := hKu.c2
  have ku3 : V5.cell? ⟨b5, off5 + 3, none⟩ = some (.int .i64 0) := hKu.c3
  have ku4 : V5.cell? ⟨b5, off5 + 4, none⟩ = some (.int .i64 0) := hKu.c4
  have ku5 : V5.cell? ⟨b5, off5 + 5, none⟩ = some (.slice Asu 0 csu) := hKu.c5
  have ku6 : V5.cell? ⟨b5, off5 + 6, none⟩ = some (.slice Apu 1 cpu) := hKu.c6
  go_upto_region 14 with fail
  clear xc0 xc1 xc2 xc3 xc4 xc5 xc6 xc7 xz0 xz1 xz2 xz3 xz4 xz5 xz6 xz7 xr0 xr1 xr2 xr3 xq0 xq1 xq2 xq3 lA lR
  have xc0 : V5.cell? ⟨A, 0, none⟩ = some (.int .i64 7) := HN5.out.sb.cell 0
  have xc1 : V5.cell? ⟨A, 1, none⟩ = some (.int .i64 2) := HN5.out.sb.cell 1
  have xc2 : V5.cell? ⟨A, 2, none⟩ = some (.int .i64 10) := HN5.out.sb.cell 2
  have xc3 : V5.cell? ⟨A, 3, none⟩ = some (.int .i64 0) := HN5.out.sb.cell 3
  have xc4 : V5.cell? ⟨A, 4, none⟩ = some (.int .i64 2) := HN5.out.sb.cell 4
  have xc5 : V5.cell? ⟨A, 5, none⟩ = some (.int .i64 2) := HN5.out.sb.cell 5
  have xc6 : V5.cell? ⟨A, 6, none⟩ = some (.slice Ao5 2 co5) := HN5.out.sb.cell 6
  have xc7 : V5.cell? ⟨A, 7, none⟩ = some (.slice Aq5 1 cq5) := HN5.out.sb.cell 7
  have xz0 := HN5.out.sb.frozen 0
  have xz1 := HN5.out.sb.frozen 1
  have xz2 := HN5.out.sb.frozen 2
  have xz3 := HN5.out.sb.frozen 3
  have xz4 := HN5.out.sb.frozen 4
  have xz5 := HN5.out.sb.frozen 5
  have xz6 := HN5.out.sb.frozen 6
  have xz7 := HN5.out.sb.frozen 7
  have xr0 : V5.cell? ⟨R, 0, none⟩ = some (.int .i64 7) := HN5.out.rb.cell 0
  have xr1 : V5.cell? ⟨R, 1, none⟩ = some (.int .i64 2) := HN5.out.rb.cell 1
  have xr2 : V5.cell? ⟨R, 2, none⟩ = some (.int .i64 0) := HN5.out.rb.cell 2
  have xr3 : V5.cell? ⟨R, 3, none⟩ = some (.slice Ar3 1 cr3) := HN5.out.rb.cell 3
  have xq0 := HN5.out.rb.frozen 0
  have xq1 := HN5.out.rb.frozen 1
  have xq2 := HN5.out.rb.frozen 2
  have xq3 := HN5.out.rb.frozen 3
  have lA := HN5.out.sb.lt
  have lR := HN5.out.rb.lt
  refine wp_region_lexP [(0, 1), (1, 1), (2, 1), (3, 1), (4, 0), (5, 1), (6, 2), (7, 2), (8, 2), (9, 0), (10, 2), (11, 2)] [6, 7, 8, 9, 10, 11] (fun w9 => w9.cell? ⟨R, 0, none⟩ = some (.int .i64 7) ∧ w9.cell? ⟨R, 1, none⟩ = some (.int .i64 2) ∧ w9.cell? ⟨R, 2, none⟩ = some (.int .i64 0) ∧ w9.cell? ⟨R, 3, none⟩ = some (.slice Ar3 1 cr3) ∧ w9.cell? ⟨b5, off5, none⟩ = some (.int .i64 0) ∧ w9.cell? ⟨b5, off5 + 1, none⟩ = some (.int .i64 7) ∧ w9.cell? ⟨b5, off5 + 2, none⟩ = some (.int .i64 0) ∧ w9.cell? ⟨b5, off5 + 3, none⟩ = some (.int .i64 0) ∧ w9.cell? ⟨b5, off5 + 4, none⟩ = some (.int .i64 0) ∧ w9.cell? ⟨b5, off5 + 5, none⟩ = some (.slice Asu 0 csu) ∧ w9.cell? ⟨b5, off5 + 6, none⟩ = some (.slice Apu 1 cpu)) (by kernel_rfl) (by kernel_rfl) (by kernel_rfl) (by kernel_rfl) (by kernel_rfl) ⟨xr0, xr1, xr2, xr3, ku0, ku1, ku2, ku3, ku4, ku5, ku6⟩ ?_
  repeat (refine lexP_read rfl (by rfl) (by rfl) (by intro w9 hS9; (try dsimp only at hS9); go_simp <;> with_reducible rfl) ?_; (try simp only [Act.put, List.getElem_toArray, List.getElem_cons_succ, List.getElem_cons_zero, List.setIfInBounds_toArray, List.set_cons_zero, List.set_cons_succ]))
  refine lexP_eff rfl (fun _ => trivial) ?_
  go_simp
  have hbd : Below V5.heap.size V5 V5.drew := (Below.refl _ _).drew
  have hrc : RcV V5.drew w.heap.size eR1 (.agg #[.int .i64 7, .int .i64 2, .int .i64 0, .slice Ar3 1 cr3]) := HN5.out.rc.up hbd
  have hpk : PkV V5.drew w.heap.size ⟨0, 7, 0, 0, 0, [], [97]⟩ (.agg #[.int .i64 0, .int .i64 7, .int .i64 0, .int .i64 0, .int .i64 0, .slice Asu 0 csu, .slice Apu 1 cpu]) := hKu.pk.up hbd
  refine CallsIn.mono ((callsIn_wide (n := 0)).2 (Receive_any eR1 ⟨0, 7, 0, 0, 0, [], [97]⟩ _ _ w.heap.size V5.drew hrc ⟨by decide⟩ hpk ⟨by decide, by decide⟩ HN5.out.bel.size)) ?_
  rintro e w9 ⟨⟨rv, vd, vk, rfl, hrv, hvd, hvk⟩, hbn⟩
  rw [ex6] at hrv hvd hvk
  obtain ⟨ve, rfl, hE⟩ := hrv
  obtain ⟨Ar6, cr6, hve, -, -⟩ := hE.form
  change ve = .slice Ar6 0 cr6 at hve
  subst hve
  obtain ⟨Ad6, cd6, hvd2, -, -⟩ := hvd.form
  change vd = .slice Ad6 2 cd6 at hvd2
  subst hvd2
  obtain ⟨b6, off6, ck6, hkv, -, -⟩ := hvk.at_ (by decide) (by decide)
  change vk = .slice (some ⟨b6, off6, none⟩) 1 ck6 at hkv
  subst hkv
  dsimp only
  have hbn' : Below V5.heap.size V5 w9 := hbd.trans hbn
  have HB6 := Lib.hid ((HN5.out.below hbn').add hvk)
  have y0 := (hbn'.cell (p := ⟨b5, off5, none⟩) lbu).trans ku0
  have y1 := (hbn'.cell (p := ⟨b5, off5 + 1, none⟩) lbu).trans ku1
  have y2 := (hbn'.cell (p := ⟨b5, off5 + 2, none⟩) lbu).trans ku2
  have y3 := (hbn'.cell (p := ⟨b5, off5 + 3, none⟩) lbu).trans ku3
  have y4 := (hbn'.cell (p := ⟨b5, off5 + 4, none⟩) lbu).trans ku4
  have y5 := (hbn'.cell (p := ⟨b5, off5 + 5, none⟩) lbu).trans ku5
  have y6 := (hbn'.cell (p := ⟨b5, off5 + 6, none⟩) lbu).trans ku6
  have HY := Lib.hid (And.intro y0 (And.intro y1 (And.intro y2 (And.intro y3 (And.intro y4 (And.intro y5 y6))))))
  clear xc0 xc1 xc2 xc3 xc4 xc5 xc6 xc7 xz0 xz1 xz2 xz3 xz4 xz5 xz6 xz7 xr0 xr1 xr2 xr3 xq0 xq1 xq2 xq3 lA lR lbu ku0 ku1 ku2 ku3 ku4 ku5 ku6 y0 y1 y2 y3 y4 y5 y6
  clear hKu hbyu hrc hpk hbd
  have xc0 : w9.cell? ⟨A, 0, none⟩ = some (.int .i64 7) := HB6.out.sb.cell 0
  have xc1 : w9.cell? ⟨A, 1, none⟩ = some (.int .i64 2) := HB6.out.sb.cell 1
  have xc2 : w9.cell? ⟨A, 2, none⟩ = some (.int .i64 10) := HB6.out.sb.cell 2
  have xc3 : w9.cell? ⟨A, 3, none⟩ = some (.int .i64 0) := HB6.out.sb.cell 3
  have xc4 : w9.cell? ⟨A, 4, none⟩ = some (.int .i64 2) := HB6.out.sb.cell 4
  have xc5 : w9.cell? ⟨A, 5, none⟩ = some (.int .i64 2) := HB6.out.sb.cell 5
  have xc6 : w9.cell? ⟨A, 6, none⟩ = some (.slice Ao5 2 co5) := HB6.out.sb.cell 6
  have xc7 : w9.cell? ⟨A, 7, none⟩ = some (.slice Aq5 1 cq5) := HB6.out.sb.cell 7
  have xz0 := HB6.out.sb.frozen 0
  have xz1 := HB6.out.sb.frozen 1
  have xz2 := HB6.out.sb.frozen 2
  have xz3 := HB6.out.sb.frozen 3
  have xz4 := HB6.out.sb.frozen 4
  have xz5 := HB6.out.sb.frozen 5
  have xz6 := HB6.out.sb.frozen 6
  have xz7 := HB6.out.sb.frozen 7
  have xr0 : w9.cell? ⟨R, 0, none⟩ = some (.int .i64 7) := HB6.out.rb.cell 0
  have xr1 : w9.cell? ⟨R, 1, none⟩ = some (.int .i64 2) := HB6.out.rb.cell 1
  have xr2 : w9.cell? ⟨R, 2, none⟩ = some (.int .i64 0) := HB6.out.rb.cell 2
  have xr3 : w9.cell? ⟨R, 3, none⟩ = some (.slice Ar3 1 cr3) := HB6.out.rb.cell 3
  have xq0 := HB6.out.rb.frozen 0
  have xq1 := HB6.out.rb.frozen 1
  have xq2 := HB6.out.rb.frozen 2
  have xq3 := HB6.out.rb.frozen 3
  have lA := HB6.out.sb.lt
  have lR := HB6.out.rb.lt
  refine ⟨⟨xr0, xr1, xr2, xr3, HY.out.1, HY.out.2.1, HY.out.2.2.1, HY.out.2.2.2.1, HY.out.2.2.2.2.1, HY.out.2.2.2.2.2.1, HY.out.2.2.2.2.2.2⟩, ?_⟩
  clear HY
  rw [show rcC eR2 (.slice Ar6 0 cr6) = #[.int .i64 7, .int .i64 2, .int .i64 2, .slice Ar6 0 cr6] from rfl]
  (try simp only [Act.put, List.getElem_toArray, List.getElem_cons_succ, List.getElem_cons_zero, List.setIfInBounds_toArray, List.set_cons_zero, List.set_cons_succ])
  repeat (refine lexP_read rfl (by rfl) (by rfl) (by intro w9 hS9; (try dsimp only at hS9); go_simp <;> with_reducible rfl) ?_; (try simp only [Act.put, List.getElem_toArray, List.getElem_cons_succ, List.getElem_cons_zero, List.setIfInBounds_toArray, List.set_cons_zero, List.set_cons_succ]))
  repeat (refine lexP_late rfl (fun _ => trivial) (by rfl) (by intro w9; go_simp <;> with_reducible rfl) ?_; (try simp only [Act.put, List.getElem_toArray, List.getElem_cons_succ, List.getElem_cons_zero, List.setIfInBounds_toArray, List.set_cons_zero, List.set_cons_succ]))
  have hTR := set33_turn HB6.out.rb HR.out (.int .i64 7) (.int .i64 2) (.int .i64 2) (.slice Ar6 0 cr6)
  have HN6 := Lib.hid (HB6.out.setR HR.out eR2 (v0 := .int .i64 7) (v1 := .int .i64 2) (v2 := .int .i64 2) hE rfl)
  have HD6 := Lib.hid (hvd.turn hTR (by simp) (by simp))
  clear hE hTR hvd hvk hbn hbn' HN5
  refine lexP_eff rfl (fun _ => trivial) ?_
  go_simp
  repeat (refine lexP_late rfl (fun _ => trivial) (by rfl) (by intro w9; go_simp <;> with_reducible rfl) ?_; (try simp only [Act.put, List.getElem_toArray, List.getElem_cons_succ, List.getElem_cons_zero, List.setIfInBounds_toArray, List.set_cons_zero, List.set_cons_succ]))
  refine lexP_nil (panQ_normal ?_)
  generalize ((((w9.setCell ⟨R, 0, none⟩ (.int .i64 7)).setCell ⟨R, 1, none⟩ (.int .i64 2)).setCell ⟨R, 2, none⟩ (.int .i64 2)).setCell ⟨R, 3, none⟩ (.slice Ar6 0 cr6)) = V6 at *
  clear xc0 xc1 xc2 xc3 xc4 xc5 xc6 xc7 xz0 xz1 xz2 xz3 xz4 xz5 xz6 xz7 xr0 xr1 xr2 xr3 xq0 xq1 xq2 xq3 lA lR HB6
  go_upto_region 15 with fail
  have hbX : Below V6.heap.size V6 (((V6.alloc (.cells #[.int .u8 97] 5)).alloc (.cells #[.int .u8 98] 5)).alloc (.cells #[.slice (some ⟨V6.heap.size, 0, none⟩) 1 1, .slice (some ⟨V6.heap.size + 1, 0, none⟩) 1 1] 42)) := (((Below.refl _ V6).alloc (Nat.le_refl _) _).alloc (by simp) _).alloc (by simp; omega) _
  have q1 := ((Blk.new V6 5 #[.int .u8 97]).alloc (.cells #[.int .u8 98] 5)).alloc (.cells #[.slice (some ⟨V6.heap.size, 0, none⟩) 1 1, .slice (some ⟨V6.heap.size + 1, 0, none⟩) 1 1] 42)
  have q2 := (Blk.new (V6.alloc (.cells #[.int .u8 97] 5)) 5 #[.int .u8 98]).alloc (.cells #[.slice (some ⟨V6.heap.size, 0, none⟩) 1 1, .slice (some ⟨V6.heap.size + 1, 0, none⟩) 1 1] 42)
  have q3 := Blk.new ((V6.alloc (.cells #[.int .u8 97] 5)).alloc (.cells #[.int .u8 98] 5)) 42 #[.slice (some ⟨V6.heap.size, 0, none⟩) 1 1, .slice (some ⟨V6.heap.size + 1, 0, none⟩) 1 1]
  simp only [World.size_alloc] at q2 q3
  have hQX : QsV (((V6.alloc (.cells #[.int .u8 97] 5)).alloc (.cells #[.int .u8 98] 5)).alloc (.cells #[.slice (some ⟨V6.heap.size, 0, none⟩) 1 1, .slice (some ⟨V6.heap.size + 1, 0, none⟩) 1 1] 42)) w.heap.size [[97], [98]] (.slice (some ⟨V6.heap.size + 1 + 1, 0, none⟩) 2 2) := by
    refine ⟨[⟨some ⟨V6.heap.size, 0, none⟩, 1, [97]⟩, ⟨some ⟨V6.heap.size + 1, 0, none⟩, 1, [98]⟩], ⟨⟨_, _, rfl, Nat.le_refl _, by unfold maxLen; decide, Rd.of_blk (sz := 1) (n := 2) q3 rfl⟩, fun e he => ?_⟩, rfl⟩
    rcases List.mem_cons.1 he with rfl | he
    · exact Rd.of_blk (sz := 1) (n := 1) q1 rfl
    · rw [List.mem_singleton] at he
      subst he
      exact Rd.of_blk (sz := 1) (n := 1) q2 rfl
  have HX := Lib.hid (And.intro (SamePayloads_true [[97], [98]] _ _ _ _ _ (HD6.out.up hbX) hQX (by decide)) hbX)
  clear hbX q1 q2 q3 hQX
  go_wp2_with fail
  refine HX.out.1.mono ?_
  rintro e U6 ⟨rfl, hbU⟩
  have HU6 := Lib.hid (HN6.out.below (HX.out.2.trans (hbU.mono HX.out.2.size)))
  clear hbU HX HN6
  obtain ⟨lby, vsy, vpy, hKy⟩ := KsV.cells (l := [eY]) (HU6.out.ks ([eY], .slice (some ⟨b6, off6, none⟩) 1 ck6) (by simp)) (by decide) (i := 0) (by decide)
  obtain ⟨Asy, csy, hvsy, -, -⟩ := hKy.xs.form
  change vsy = .slice Asy 0 csy at hvsy
  subst hvsy
  obtain ⟨Apy, cpy, hvpy, hbyy⟩ := hKy.bs
  change vpy = .slice Apy 0 cpy at hvpy
  subst hvpy
  have ky0 : U6.cell? ⟨b6, off6, none⟩ = some (.int .i64 1) := hKy.c0
  have ky1 : U6.cell? ⟨b6, off6 + 1, none⟩ = some (.int .i64 7) := hKy.c1
  have ky2 : U6.cell? ⟨b6, off6 + 2, none⟩ = some (.int .i64 0) := hKy.c2
  have ky3 : U6.cell? ⟨b6, off6 + 3, none⟩ = some (.int .i64 2) := hKy.c3
  have ky4 : U6.cell? ⟨b6, off6 + 4, none⟩ = some (.int .i64 2) := hKy.c4
  have ky5 : U6.cell? ⟨b6, off6 + 5, none⟩ = some (.slice Asy 0 csy) := hKy.c5
  have ky6 : U6.cell? ⟨b6, off6 + 6, none⟩ = some (.slice Apy 0 cpy) := hKy.c6
  go_upto_region 17 with fail
  clear lby ky0 ky1 ky2 ky3 ky4 ky5 ky6 hKy hbyy
  obtain ⟨lbu, vsu, vpu, hKu⟩ := KsV.cells (l := eP4) (HU6.out.ks (eP4, .slice (some ⟨b5, off5, none⟩) 1 ck5) (by simp)) (by decide) (i := 0) (by decide)
  obtain ⟨Asu, csu, hvsu, -, -⟩ := hKu.xs.form
  change vsu = .slice Asu 0 csu at hvsu
  subst hvsu
  obtain ⟨Apu, cpu, hvpu, hbyu⟩ := hKu.bs
  change vpu = .slice Apu 1 cpu at hvpu
  subst hvpu
  have ku0 : U6.cell? ⟨b5, off5, none⟩ = some (.int .i64 0) := hKu.c0
  have ku1 : U6.cell? ⟨b5, off5 + 1, none⟩ = some (.int .i64 7) := hKu.c1
  have ku2 : U6.cell? ⟨b5, off5 + 2, none⟩ = some (.int .i64 0) := hKu.c2
  have ku3 : U6.cell? ⟨b5, off5 + 3, none⟩ = some (.int .i64 0) := hKu.c3
  have ku4 : U6.cell? ⟨b5, off5 + 4, none⟩ = some (.int .i64 0) := hKu.c4
  have ku5 : U6.cell? ⟨b5, off5 + 5, none⟩ = some (.slice Asu 0 csu) := hKu.c5
  have ku6 : U6.cell? ⟨b5, off5 + 6, none⟩ = some (.slice Apu 1 cpu) := hKu.c6
  have xc0 : U6.cell? ⟨A, 0, none⟩ = some (.int .i64 7) := HU6.out.sb.cell 0
  have xc1 : U6.cell? ⟨A, 1, none⟩ = some (.int .i64 2) := HU6.out.sb.cell 1
  have xc2 : U6.cell? ⟨A, 2, none⟩ = some (.int .i64 10) := HU6.out.sb.cell 2
  have xc3 : U6.cell? ⟨A, 3, none⟩ = some (.int .i64 0) := HU6.out.sb.cell 3
  have xc4 : U6.cell? ⟨A, 4, none⟩ = some (.int .i64 2) := HU6.out.sb.cell 4
  have xc5 : U6.cell? ⟨A, 5, none⟩ = some (.int .i64 2) := HU6.out.sb.cell 5
  have xc6 : U6.cell? ⟨A, 6, none⟩ = some (.slice Ao5 2 co5) := HU6.out.sb.cell 6
  have xc7 : U6.cell? ⟨A, 7, none⟩ = some (.slice Aq5 1 cq5) := HU6.out.sb.cell 7
  have xz0 := HU6.out.sb.frozen 0
  have xz1 := HU6.out.sb.frozen 1
  have xz2 := HU6.out.sb.frozen 2
  have xz3 := HU6.out.sb.frozen 3
  have xz4 := HU6.out.sb.frozen 4
  have xz5 := HU6.out.sb.frozen 5
  have xz6 := HU6.out.sb.frozen 6
  have xz7 := HU6.out.sb.frozen 7
  have xr0 : U6.cell? ⟨R, 0, none⟩ = some (.int .i64 7) := HU6.out.rb.cell 0
  have xr1 : U6.cell? ⟨R, 1, none⟩ = some (.int .i64 2) := HU6.out.rb.cell 1
  have xr2 : U6.cell? ⟨R, 2, none⟩ = some (.int .i64 2) := HU6.out.rb.cell 2
  have xr3 : U6.cell? ⟨R, 3, none⟩ = some (.slice Ar6 0 cr6) := HU6.out.rb.cell 3
  have xq0 := HU6.out.rb.frozen 0
  have xq1 := HU6.out.rb.frozen 1
  have xq2 := HU6.out.rb.frozen 2
  have xq3 := HU6.out.rb.frozen 3
  have lA := HU6.out.sb.lt
  have lR := HU6.out.rb.lt
  refine wp_region_lexP [(0, 1), (1, 1), (2, 1), (3, 1), (4, 0), (5, 1), (6, 2), (7, 2), (8, 2), (9, 0), (10, 2), (11, 2)] [6, 7, 8, 9, 10, 11] (fun w9 => w9.cell? ⟨R, 0, none⟩ = some (.int .i64 7) ∧ w9.cell? ⟨R, 1, none⟩ = some (.int .i64 2) ∧ w9.cell? ⟨R, 2, none⟩ = some (.int .i64 2) ∧ w9.cell? ⟨R, 3, none⟩ = some (.slice Ar6 0 cr6) ∧ w9.cell? ⟨b5, off5, none⟩ = some (.int .i64 0) ∧ w9.cell? ⟨b5, off5 + 1, none⟩ = some (.int .i64 7) ∧ w9.cell? ⟨b5, off5 + 2, none⟩ = some (.int .i64 0) ∧ w9.cell? ⟨b5, off5 + 3, none⟩ = some (.int .i64 0) ∧ w9.cell? ⟨b5, off5 + 4, none⟩ = some (.int .i64 0) ∧ w9.cell? ⟨b5, off5 + 5, none⟩ = some (.slice Asu 0 csu) ∧ w9.cell? ⟨b5, off5 + 6, none⟩ = some (.slice Apu 1 cpu)) (by kernel_rfl) (by kernel_rfl) (by kernel_rfl) (by kernel_rfl) (by kernel_rfl) ⟨xr0, xr1, xr2, xr3, ku0, ku1, ku2, ku3, ku4, ku5, ku6⟩ ?_
  repeat (refine lexP_read rfl (by rfl) (by rfl) (by intro w9 hS9; (try dsimp only at hS9); go_simp <;> with_reducible rfl) ?_; (try simp only [Act.put, List.getElem_toArray, List.getElem_cons_succ, List.getElem_cons_zero, List.setIfInBounds_toArray, List.set_cons_zero, List.set_cons_succ]))
  refine lexP_eff rfl (fun _ => trivial) ?_
  go_simp
  have hbd : Below U6.heap.size U6 U6.drew := (Below.refl _ _).drew
  have hrc : RcV U6.drew w.heap.size eR2 (.agg #[.int .i64 7, .int .i64 2, .int .i64 2, .slice Ar6 0 cr6]) := HU6.out.rc.up hbd
  have hpk : PkV U6.drew w.heap.size ⟨0, 7, 0, 0, 0, [], [97]⟩ (.agg #[.int .i64 0, .int .i64 7, .int .i64 0, .int .i64 0, .int .i64 0, .slice Asu 0 csu, .slice Apu 1 cpu]) := hKu.pk.up hbd
  refine CallsIn.mono ((callsIn_wide (n := 0)).2 (Receive_any eR2 ⟨0, 7, 0, 0, 0, [], [97]⟩ _ _ w.heap.size U6.drew hrc ⟨by decide⟩ hpk ⟨by decide, by decide⟩ HU6.out.bel.size)) ?_
  rintro e w9 ⟨⟨rv, vd, vk, rfl, hrv, hvd, hvk⟩, hbn⟩
  rw [ex7] at hrv hvd hvk
  obtain ⟨ve, rfl, hE⟩ := hrv
  obtain ⟨Ar7, cr7, hve, -, -⟩ := hE.form
  change ve = .slice Ar7 0 cr7 at hve
  subst hve
  obtain ⟨Ad7, cd7, hvd2, -, -⟩ := hvd.form
  change vd = .slice Ad7 0 cd7 at hvd2
  subst hvd2
  obtain ⟨b7, off7, ck7, hkv, -, -⟩ := hvk.at_ (by decide) (by decide)
  change vk = .slice (some ⟨b7, off7, none⟩) 1 ck7 at hkv
  subst hkv
  dsimp only
  have hbn' : Below U6.heap.size U6 w9 := hbd.trans hbn
  have HB7 := Lib.hid ((HU6.out.below hbn').add hvk)
  have y0 := (hbn'.cell (p := ⟨b5, off5, none⟩) lbu).trans ku0
  have y1 := (hbn'.cell (p := ⟨b5, off5 + 1, none⟩) lbu).trans ku1
  have y2 := (hbn'.cell (p := ⟨b5, off5 + 2, none⟩) lbu).trans ku2
  have y3 := (hbn'.cell (p := ⟨b5, off5 + 3, none⟩) lbu).trans ku3
  have y4 := (hbn'.cell (p := ⟨b5, off5 + 4, none⟩) lbu).trans ku4
  have y5 := (hbn'.cell (p := ⟨b5, off5 + 5, none⟩) lbu).trans ku5
  have y6 := (hbn'.cell (p := ⟨b5, off5 + 6, none⟩) lbu).trans ku6
  have HY := Lib.hid (And.intro y0 (And.intro y1 (And.intro y2 (And.intro y3 (And.intro y4 (And.intro y5 y6))))))
  clear xc0 xc1 xc2 xc3 xc4 xc5 xc6 xc7 xz0 xz1 xz2 xz3 xz4 xz5 xz6 xz7 xr0 xr1 xr2 xr3 xq0 xq1 xq2 xq3 lA lR lbu ku0 ku1 ku2 ku3 ku4 ku5 ku6 y0 y1 y2 y3 y4 y5 y6
  clear hKu hbyu hrc hpk hbd
  have xc0 : w9.cell? ⟨A, 0, none⟩ = some (.int .i64 7) := HB7.out.sb.cell 0
  have xc1 : w9.cell? ⟨A, 1, none⟩ = some (.int .i64 2) := HB7.out.sb.cell 1
  have xc2 : w9.cell? ⟨A, 2, none⟩ = some (.int .i64 10) := HB7.out.sb.cell 2
  have xc3 : w9.cell? ⟨A, 3, none⟩ = some (.int .i64 0) := HB7.out.sb.cell 3
  have xc4 : w9.cell? ⟨A, 4, none⟩ = some (.int .i64 2) := HB7.out.sb.cell 4
  have xc5 : w9.cell? ⟨A, 5, none⟩ = some (.int .i64 2) := HB7.out.sb.cell 5
  have xc6 : w9.cell? ⟨A, 6, none⟩ = some (.slice Ao5 2 co5) := HB7.out.sb.cell 6
  have xc7 : w9.cell? ⟨A, 7, none⟩ = some (.slice Aq5 1 cq5) := HB7.out.sb.cell 7
  have xz0 := HB7.out.sb.frozen 0
  have xz1 := HB7.out.sb.frozen 1
  have xz2 := HB7.out.sb.frozen 2
  have xz3 := HB7.out.sb.frozen 3
  have xz4 := HB7.out.sb.frozen 4
  have xz5 := HB7.out.sb.frozen 5
  have xz6 := HB7.out.sb.frozen 6
  have xz7 := HB7.out.sb.frozen 7
  have xr0 : w9.cell? ⟨R, 0, none⟩ = some (.int .i64 7) := HB7.out.rb.cell 0
  have xr1 : w9.cell? ⟨R, 1, none⟩ = some (.int .i64 2) := HB7.out.rb.cell 1
  have xr2 : w9.cell? ⟨R, 2, none⟩ = some (.int .i64 2) := HB7.out.rb.cell 2
  have xr3 : w9.cell? ⟨R, 3, none⟩ = some (.slice Ar6 0 cr6) := HB7.out.rb.cell 3
  have xq0 := HB7.out.rb.frozen 0
  have xq1 := HB7.out.rb.frozen 1
  have xq2 := HB7.out.rb.frozen 2
  have xq3 := HB7.out.rb.frozen 3
  have lA := HB7.out.sb.lt
  have lR := HB7.out.rb.lt
  refine ⟨⟨xr0, xr1, xr2, xr3, HY.out.1, HY.out.2.1, HY.out.2.2.1, HY.out.2.2.2.1, HY.out.2.2.2.2.1, HY.out.2.2.2.2.2.1, HY.out.2.2.2.2.2.2⟩, ?_⟩
  clear HY
  rw [show rcC eR2 (.slice Ar7 0 cr7) = #[.int .i64 7, .int .i64 2, .int .i64 2, .slice Ar7 0 cr7] from rfl]
  (try simp only [Act.put, List.getElem_toArray, List.getElem_cons_succ, List.getElem_cons_zero, List.setIfInBounds_toArray, List.set_cons_zero, List.set_cons_succ])
  repeat (refine lexP_read rfl (by rfl) (by rfl) (by intro w9 hS9; (try dsimp only at hS9); go_simp <;> with_reducible rfl) ?_; (try simp only [Act.put, List.getElem_toArray, List.getElem_cons_succ, List.getElem_cons_zero, List.setIfInBounds_toArray, List.set_cons_zero, List.set_cons_succ]))
  repeat (refine lexP_late rfl (fun _ => trivial) (by rfl) (by intro w9; go_simp <;> with_reducible rfl) ?_; (try simp only [Act.put, List.getElem_toArray, List.getElem_cons_succ, List.getElem_cons_zero, List.setIfInBounds_toArray, List.set_cons_zero, List.set_cons_succ]))
  have hTR := set33_turn HB7.out.rb HR.out (.int .i64 7) (.int .i64 2) (.int .i64 2) (.slice Ar7 0 cr7)
  have HN7 := Lib.hid (HB7.out.setR HR.out eR2 (v0 := .int .i64 7) (v1 := .int .i64 2) (v2 := .int .i64 2) hE rfl)
  have HD7 := Lib.hid (hvd.turn hTR (by simp) (by simp))
  clear hE hTR hvd hvk hbn hbn' HU6
  refine lexP_eff rfl (fun _ => trivial) ?_
  go_simp
  repeat (refine lexP_late rfl (fun _ => trivial) (by rfl) (by intro w9; go_simp <;> with_reducible rfl) ?_; (try simp only [Act.put, List.getElem_toArray, List.getElem_cons_succ, List.getElem_cons_zero, List.setIfInBounds_toArray, List.set_cons_zero, List.set_cons_succ]))
  refine lexP_nil (panQ_normal ?_)
  generalize ((((w9.setCell ⟨R, 0, none⟩ (.int .i64 7)).setCell ⟨R, 1, none⟩ (.int .i64 2)).setCell ⟨R, 2, none⟩ (.int .i64 2)).setCell ⟨R, 3, none⟩ (.slice Ar7 0 cr7)) = V7 at *
  clear xc0 xc1 xc2 xc3 xc4 xc5 xc6 xc7 xz0 xz1 xz2 xz3 xz4 xz5 xz6 xz7 xr0 xr1 xr2 xr3 xq0 xq1 xq2 xq3 lA lR HB7
  obtain ⟨lbv, vsv, vpv, hKv⟩ := KsV.cells (l := [eY]) (HN7.out.ks ([eY], .slice (some ⟨b7, off7, none⟩) 1 ck7) (by simp)) (by decide) (i := 0) (by decide)
  obtain ⟨Asv, csv, hvsv, -, -⟩ := hKv.xs.form
  change vsv = .slice Asv 0 csv at hvsv
  subst hvsv
  obtain ⟨Apv, cpv, hvpv, hbyv⟩ := hKv.bs
  change vpv = .slice Apv 0 cpv at hvpv
  subst hvpv
  have kv0 : V7.cell? ⟨b7, off7, none⟩ = some (.int .i64 1) := hKv.c0
  have kv1 : V7.cell? ⟨b7, off7 + 1, none⟩ = some (.int .i64 7) := hKv.c1
  have kv2 : V7.cell? ⟨b7, off7 + 2, none⟩ = some (.int .i64 0) := hKv.c2
  have kv3 : V7.cell? ⟨b7, off7 + 3, none⟩ = some (.int .i64 2) := hKv.c3
  have kv4 : V7.cell? ⟨b7, off7 + 4, none⟩ = some (.int .i64 2) := hKv.c4
  have kv5 : V7.cell? ⟨b7, off7 + 5, none⟩ = some (.slice Asv 0 csv) := hKv.c5
  have kv6 : V7.cell? ⟨b7, off7 + 6, none⟩ = some (.slice Apv 0 cpv) := hKv.c6
  have xc0 : V7.cell? ⟨A, 0, none⟩ = some (.int .i64 7) := HN7.out.sb.cell 0
  have xc1 : V7.cell? ⟨A, 1, none⟩ = some (.int .i64 2) := HN7.out.sb.cell 1
  have xc2 : V7.cell? ⟨A, 2, none⟩ = some (.int .i64 10) := HN7.out.sb.cell 2
  have xc3 : V7.cell? ⟨A, 3, none⟩ = some (.int .i64 0) := HN7.out.sb.cell 3
  have xc4 : V7.cell? ⟨A, 4, none⟩ = some (.int .i64 2) := HN7.out.sb.cell 4
  have xc5 : V7.cell? ⟨A, 5, none⟩ = some (.int .i64 2) := HN7.out.sb.cell 5
  have xc6 : V7.cell? ⟨A, 6, none⟩ = some (.slice Ao5 2 co5) := HN7.out.sb.cell 6
  have xc7 : V7.cell? ⟨A, 7, none⟩ = some (.slice Aq5 1 cq5) := HN7.out.sb.cell 7
  have xz0 := HN7.out.sb.frozen 0
  have xz1 := HN7.out.sb.frozen 1
  have xz2 := HN7.out.sb.frozen 2
  have xz3 := HN7.out.sb.frozen 3
  have xz4 := HN7.out.sb.frozen 4
  have xz5 := HN7.out.sb.frozen 5
  have xz6 := HN7.out.sb.frozen 6
  have xz7 := HN7.out.sb.frozen 7
  have xr0 : V7.cell? ⟨R, 0, none⟩ = some (.int .i64 7) := HN7.out.rb.cell 0
  have xr1 : V7.cell? ⟨R, 1, none⟩ = some (.int .i64 2) := HN7.out.rb.cell 1
  have xr2 : V7.cell? ⟨R, 2, none⟩ = some (.int .i64 2) := HN7.out.rb.cell 2
  have xr3 : V7.cell? ⟨R, 3, none⟩ = some (.slice Ar7 0 cr7) := HN7.out.rb.cell 3
  have xq0 := HN7.out.rb.frozen 0
  have xq1 := HN7.out.rb.frozen 1
  have xq2 := HN7.out.rb.frozen 2
  have xq3 := HN7.out.rb.frozen 3
  have lA := HN7.out.sb.lt
  have lR := HN7.out.rb.lt
  go_upto_region 20 with fail
  clear xc0 xc1 xc2 xc3 xc4 xc5 xc6 xc7 xz0 xz1 xz2 xz3 xz4 xz5 xz6 xz7 xr0 xr1 xr2 xr3 xq0 xq1 xq2 xq3 lA lR
  have xc0 : V7.cell? ⟨A, 0, none⟩ = some (.int .i64 7) := HN7.out.sb.cell 0
  have xc1 : V7.cell? ⟨A, 1, none⟩ = some (.int .i64 2) := HN7.out.sb.cell 1
  have xc2 : V7.cell? ⟨A, 2, none⟩ = some (.int .i64 10) := HN7.out.sb.cell 2
  have xc3 : V7.cell? ⟨A, 3, none⟩ = some (.int .i64 0) := HN7.out.sb.cell 3
  have xc4 : V7.cell? ⟨A, 4, none⟩ = some (.int .i64 2) := HN7.out.sb.cell 4
  have xc5 : V7.cell? ⟨A, 5, none⟩ = some (.int .i64 2) := HN7.out.sb.cell 5
  have xc6 : V7.cell? ⟨A, 6, none⟩ = some (.slice Ao5 2 co5) := HN7.out.sb.cell 6
  have xc7 : V7.cell? ⟨A, 7, none⟩ = some (.slice Aq5 1 cq5) := HN7.out.sb.cell 7
  have xz0 := HN7.out.sb.frozen 0
  have xz1 := HN7.out.sb.frozen 1
  have xz2 := HN7.out.sb.frozen 2
  have xz3 := HN7.out.sb.frozen 3
  have xz4 := HN7.out.sb.frozen 4
  have xz5 := HN7.out.sb.frozen 5
  have xz6 := HN7.out.sb.frozen 6
  have xz7 := HN7.out.sb.frozen 7
  have xr0 : V7.cell? ⟨R, 0, none⟩ = some (.int .i64 7) := HN7.out.rb.cell 0
  have xr1 : V7.cell? ⟨R, 1, none⟩ = some (.int .i64 2) := HN7.out.rb.cell 1
  have xr2 : V7.cell? ⟨R, 2, none⟩ = some (.int .i64 2) := HN7.out.rb.cell 2
  have xr3 : V7.cell? ⟨R, 3, none⟩ = some (.slice Ar7 0 cr7) := HN7.out.rb.cell 3
  have xq0 := HN7.out.rb.frozen 0
  have xq1 := HN7.out.rb.frozen 1
  have xq2 := HN7.out.rb.frozen 2
  have xq3 := HN7.out.rb.frozen 3
  have lA := HN7.out.sb.lt
  have lR := HN7.out.rb.lt
  refine wp_region_lexP [(0, 1), (1, 1), (2, 1), (3, 1), (4, 0), (5, 1), (6, 2), (7, 2), (8, 0), (9, 2)] [6, 7, 8, 9] (fun w9 => w9.cell? ⟨A, 0, none⟩ = some (.int .i64 7) ∧ w9.cell? ⟨A, 1, none⟩ = some (.int .i64 2) ∧ w9.cell? ⟨A, 2, none⟩ = some (.int .i64 10) ∧ w9.cell? ⟨A, 3, none⟩ = some (.int .i64 0) ∧ w9.cell? ⟨A, 4, none⟩ = some (.int .i64 2) ∧ w9.cell? ⟨A, 5, none⟩ = some (.int .i64 2) ∧ w9.cell? ⟨A, 6, none⟩ = some (.slice Ao5 2 co5) ∧ w9.cell? ⟨A, 7, none⟩ = some (.slice Aq5 1 cq5) ∧ w9.cell? ⟨b7, off7, none⟩ = some (.int .i64 1) ∧ w9.cell? ⟨b7, off7 + 1, none⟩ = some (.int .i64 7) ∧ w9.cell? ⟨b7, off7 + 2, none⟩ = some (.int .i64 0) ∧ w9.cell? ⟨b7, off7 + 3, none⟩ = some (.int .i64 2) ∧ w9.cell? ⟨b7, off7 + 4, none⟩ = some (.int .i64 2) ∧ w9.cell? ⟨b7, off7 + 5, none⟩ = some (.slice Asv 0 csv) ∧ w9.cell? ⟨b7, off7 + 6, none⟩ = some (.slice Apv 0 cpv)) (by kernel_rfl) (by kernel_rfl) (by kernel_rfl) (by kernel_rfl) (by kernel_rfl) ⟨xc0, xc1, xc2, xc3, xc4, xc5, xc6, xc7, kv0, kv1, kv2, kv3, kv4, kv5, kv6⟩ ?_
  repeat (refine lexP_read rfl (by rfl) (by rfl) (by intro w9 hS9; (try dsimp only at hS9); go_simp <;> with_reducible rfl) ?_; (try simp only [Act.put, List.getElem_toArray, List.getElem_cons_succ, List.getElem_cons_zero, List.setIfInBounds_toArray, List.set_cons_zero, List.set_cons_succ]))
  refine lexP_eff rfl (fun _ => trivial) ?_
  go_simp
  have hbd : Below V7.heap.size V7 V7.drew := (Below.refl _ _).drew
  have hsn0 : SnV V7.drew w.heap.size eS4 (.agg #[.int .i64 7, .int .i64 2, .int .i64 10, .int .i64 0, .int .i64 2, .int .i64 2, .slice Ao5 2 co5, .slice Aq5 1 cq5]) := HN7.out.sn.up hbd
  have hpk : PkV V7.drew w.heap.size eY (.agg #[.int .i64 1, .int .i64 7, .int .i64 0, .int .i64 2, .int .i64 2, .slice Asv 0 csv, .slice Apv 0 cpv]) := hKv.pk.up hbd
  refine CallsIn.mono ((callsIn_wide (n := 0)).2 (Ack_any eS4 13 eY _ _ w.heap.size V7.drew hsn0 ⟨by decide, by decide⟩ hpk ⟨by decide, by decide⟩ HN7.out.bel.size)) ?_
  rintro e w9 ⟨⟨sv, nr, rfl, hsn, hnr⟩, hbn⟩
  rw [ex8] at hsn hnr
  obtain rfl : nr = -1 := hnr
  obtain ⟨vo, vq, rfl, hO, hQ⟩ := hsn
  obtain ⟨Ao8, co8, hvo, -, -⟩ := hO.form
  change vo = .slice Ao8 0 co8 at hvo
  obtain ⟨Aq8, cq8, hvq, -, -⟩ := hQ.form
  change vq = .slice Aq8 1 cq8 at hvq
  subst hvo hvq
  dsimp only
  have hbn' : Below V7.heap.size V7 w9 := hbd.trans hbn
  have HB8 := Lib.hid (HN7.out.below hbn')
  have y0 := (hbn'.cell (p := ⟨b7, off7, none⟩) lbv).trans kv0
  have y1 := (hbn'.cell (p := ⟨b7, off7 + 1, none⟩) lbv).trans kv1
  have y2 := (hbn'.cell (p := ⟨b7, off7 + 2, none⟩) lbv).trans kv2
  have y3 := (hbn'.cell (p := ⟨b7, off7 + 3, none⟩) lbv).trans kv3
  have y4 := (hbn'.cell (p := ⟨b7, off7 + 4, none⟩) lbv).trans kv4
  have y5 := (hbn'.cell (p := ⟨b7, off7 + 5, none⟩) lbv).trans kv5
  have y6 := (hbn'.cell (p := ⟨b7, off7 + 6, none⟩) lbv).trans kv6
  have HY := Lib.hid (And.intro y0 (And.intro y1 (And.intro y2 (And.intro y3 (And.intro y4 (And.intro y5 y6))))))
  clear xc0 xc1 xc2 xc3 xc4 xc5 xc6 xc7 xz0 xz1 xz2 xz3 xz4 xz5 xz6 xz7 xr0 xr1 xr2 xr3 xq0 xq1 xq2 xq3 lA lR lbv kv0 kv1 kv2 kv3 kv4 kv5 kv6 y0 y1 y2 y3 y4 y5 y6
  clear hKv hbyv hsn0 hpk hbd 
  have xc0 : w9.cell? ⟨A, 0, none⟩ = some (.int .i64 7) := HB8.out.sb.cell 0
  have xc1 : w9.cell? ⟨A, 1, none⟩ = some (.int .i64 2) := HB8.out.sb.cell 1
  have xc2 : w9.cell? ⟨A, 2, none⟩ = some (.int .i64 10) := HB8.out.sb.cell 2
  have xc3 : w9.cell? ⟨A, 3, none⟩ = some (.int .i64 0) := HB8.out.sb.cell 3
  have xc4 : w9.cell? ⟨A, 4, none⟩ = some (.int .i64 2) := HB8.out.sb.cell 4
  have xc5 : w9.cell? ⟨A, 5, none⟩ = some (.int .i64 2) := HB8.out.sb.cell 5
  have xc6 : w9.cell? ⟨A, 6, none⟩ = some (.slice Ao5 2 co5) := HB8.out.sb.cell 6
  have xc7 : w9.cell? ⟨A, 7, none⟩ = some (.slice Aq5 1 cq5) := HB8.out.sb.cell 7
  have xz0 := HB8.out.sb.frozen 0
  have xz1 := HB8.out.sb.frozen 1
  have xz2 := HB8.out.sb.frozen 2
  have xz3 := HB8.out.sb.frozen 3
  have xz4 := HB8.out.sb.frozen 4
  have xz5 := HB8.out.sb.frozen 5
  have xz6 := HB8.out.sb.frozen 6
  have xz7 := HB8.out.sb.frozen 7
  have xr0 : w9.cell? ⟨R, 0, none⟩ = some (.int .i64 7) := HB8.out.rb.cell 0
  have xr1 : w9.cell? ⟨R, 1, none⟩ = some (.int .i64 2) := HB8.out.rb.cell 1
  have xr2 : w9.cell? ⟨R, 2, none⟩ = some (.int .i64 2) := HB8.out.rb.cell 2
  have xr3 : w9.cell? ⟨R, 3, none⟩ = some (.slice Ar7 0 cr7) := HB8.out.rb.cell 3
  have xq0 := HB8.out.rb.frozen 0
  have xq1 := HB8.out.rb.frozen 1
  have xq2 := HB8.out.rb.frozen 2
  have xq3 := HB8.out.rb.frozen 3
  have lA := HB8.out.sb.lt
  have lR := HB8.out.rb.lt
  refine ⟨⟨xc0, xc1, xc2, xc3, xc4, xc5, xc6, xc7, HY.out.1, HY.out.2.1, HY.out.2.2.1, HY.out.2.2.2.1, HY.out.2.2.2.2.1, HY.out.2.2.2.2.2.1, HY.out.2.2.2.2.2.2⟩, ?_⟩
  clear HY
  rw [show snC eS5 (.slice Ao8 0 co8) (.slice Aq8 1 cq8) = #[.int .i64 7, .int .i64 2, .int .i64 10, .int .i64 2, .int .i64 2, .int .i64 2, .slice Ao8 0 co8, .slice Aq8 1 cq8] from rfl]
  (try simp only [Act.put, List.getElem_toArray, List.getElem_cons_succ, List.getElem_cons_zero, List.setIfInBounds_toArray, List.set_cons_zero, List.set_cons_succ])
  repeat (refine lexP_read rfl (by rfl) (by rfl) (by intro w9 hS9; (try dsimp only at hS9); go_simp <;> with_reducible rfl) ?_; (try simp only [Act.put, List.getElem_toArray, List.getElem_cons_succ, List.getElem_cons_zero, List.setIfInBounds_toArray, List.set_cons_zero, List.set_cons_succ]))
  repeat (refine lexP_late rfl (fun _ => trivial) (by rfl) (by intro w9; go_simp <;> with_reducible rfl) ?_; (try simp only [Act.put, List.getElem_toArray, List.getElem_cons_succ, List.getElem_cons_zero, List.setIfInBounds_toArray, List.set_cons_zero, List.set_cons_succ]))
  have HN8 := Lib.hid (HB8.out.setS HA.out eS5 (v0 := .int .i64 7) (v1 := .int .i64 2) (v2 := .int .i64 10) (v3 := .int .i64 2) (v4 := .int .i64 2) (v5 := .int .i64 2) hO hQ rfl)
  clear hO hQ hbn hbn' HN7
  refine lexP_eff rfl (fun _ => trivial) ?_
  go_simp
  repeat (refine lexP_late rfl (fun _ => trivial) (by rfl) (by intro w9; go_simp <;> with_reducible rfl) ?_; (try simp only [Act.put, List.getElem_toArray, List.getElem_cons_succ, List.getElem_cons_zero, List.setIfInBounds_toArray, List.set_cons_zero, List.set_cons_succ]))
  refine lexP_nil (panQ_normal ?_)
  generalize ((((((((w9.setCell ⟨A, 0, none⟩ (.int .i64 7)).setCell ⟨A, 1, none⟩ (.int .i64 2)).setCell ⟨A, 2, none⟩ (.int .i64 10)).setCell ⟨A, 3, none⟩ (.int .i64 2)).setCell ⟨A, 4, none⟩ (.int .i64 2)).setCell ⟨A, 5, none⟩ (.int .i64 2)).setCell ⟨A, 6, none⟩ (.slice Ao8 0 co8)).setCell ⟨A, 7, none⟩ (.slice Aq8 1 cq8)) = V8 at *
  clear xc0 xc1 xc2 xc3 xc4 xc5 xc6 xc7 xz0 xz1 xz2 xz3 xz4 xz5 xz6 xz7 xr0 xr1 xr2 xr3 xq0 xq1 xq2 xq3 lA lR HB8
  go_upto_region 21 with fail
  have hc := Poll_any eS5 13 _ w.heap.size V8 HN8.out.sn ⟨by decide, by decide⟩ HN8.out.bel.size
  rw [show snC eS5 (.slice Ao8 0 co8) (.slice Aq8 1 cq8) = #[.int .i64 7, .int .i64 2, .int .i64 10, .int .i64 2, .int .i64 2, .int .i64 2, .slice Ao8 0 co8, .slice Aq8 1 cq8] from rfl] at hc
  have HC := Lib.hid hc
  clear hc
  have xc0 : V8.cell? ⟨A, 0, none⟩ = some (.int .i64 7) := HN8.out.sb.cell 0
  have xc1 : V8.cell? ⟨A, 1, none⟩ = some (.int .i64 2) := HN8.out.sb.cell 1
  have xc2 : V8.cell? ⟨A, 2, none⟩ = some (.int .i64 10) := HN8.out.sb.cell 2
  have xc3 : V8.cell? ⟨A, 3, none⟩ = some (.int .i64 2) := HN8.out.sb.cell 3
  have xc4 : V8.cell? ⟨A, 4, none⟩ = some (.int .i64 2) := HN8.out.sb.cell 4
  have xc5 : V8.cell? ⟨A, 5, none⟩ = some (.int .i64 2) := HN8.out.sb.cell 5
  have xc6 : V8.cell? ⟨A, 6, none⟩ = some (.slice Ao8 0 co8) := HN8.out.sb.cell 6
  have xc7 : V8.cell? ⟨A, 7, none⟩ = some (.slice Aq8 1 cq8) := HN8.out.sb.cell 7
  have xz0 := HN8.out.sb.frozen 0
  have xz1 := HN8.out.sb.frozen 1
  have xz2 := HN8.out.sb.frozen 2
  have xz3 := HN8.out.sb.frozen 3
  have xz4 := HN8.out.sb.frozen 4
  have xz5 := HN8.out.sb.frozen 5
  have xz6 := HN8.out.sb.frozen 6
  have xz7 := HN8.out.sb.frozen 7
  have xr0 : V8.cell? ⟨R, 0, none⟩ = some (.int .i64 7) := HN8.out.rb.cell 0
  have xr1 : V8.cell? ⟨R, 1, none⟩ = some (.int .i64 2) := HN8.out.rb.cell 1
  have xr2 : V8.cell? ⟨R, 2, none⟩ = some (.int .i64 2) := HN8.out.rb.cell 2
  have xr3 : V8.cell? ⟨R, 3, none⟩ = some (.slice Ar7 0 cr7) := HN8.out.rb.cell 3
  have xq0 := HN8.out.rb.frozen 0
  have xq1 := HN8.out.rb.frozen 1
  have xq2 := HN8.out.rb.frozen 2
  have xq3 := HN8.out.rb.frozen 3
  have lA := HN8.out.sb.lt
  have lR := HN8.out.rb.lt
  go_wp2_with fail
  refine HC.out.mono ?_
  clear HC
  rintro e w9 ⟨⟨sv, kv, rfl, hsn, hks⟩, hbn⟩
  rw [ex9] at hsn hks
  obtain ⟨vo, vq, rfl, hO, hQ⟩ := hsn
  obtain ⟨Ao9, co9, hvo, -, -⟩ := hO.form
  change vo = .slice Ao9 1 co9 at hvo
  obtain ⟨Aq9, cq9, hvq, -, -⟩ := hQ.form
  change vq = .slice Aq9 0 cq9 at hvq
  subst hvo hvq
  obtain ⟨b9, off9, ck9, hkv, -, -⟩ := hks.at_ (by decide) (by decide)
  change kv = .slice (some ⟨b9, off9, none⟩) 1 ck9 at hkv
  subst hkv
  clear xc0 xc1 xc2 xc3 xc4 xc5 xc6 xc7 xz0 xz1 xz2 xz3 xz4 xz5 xz6 xz7 xr0 xr1 xr2 xr3 xq0 xq1 xq2 xq3 lA lR
  have HB9 := Lib.hid ((HN8.out.below hbn).add hks)
  clear hbn hks
  have xc0 : w9.cell? ⟨A, 0, none⟩ = some (.int .i64 7) := HB9.out.sb.cell 0
  have xc1 : w9.cell? ⟨A, 1, none⟩ = some (.int .i64 2) := HB9.out.sb.cell 1
  have xc2 : w9.cell? ⟨A, 2, none⟩ = some (.int .i64 10) := HB9.out.sb.cell 2
  have xc3 : w9.cell? ⟨A, 3, none⟩ = some (.int .i64 2) := HB9.out.sb.cell 3
  have xc4 : w9.cell? ⟨A, 4, none⟩ = some (.int .i64 2) := HB9.out.sb.cell 4
  have xc5 : w9.cell? ⟨A, 5, none⟩ = some (.int .i64 2) := HB9.out.sb.cell 5
  have xc6 : w9.cell? ⟨A, 6, none⟩ = some (.slice Ao8 0 co8) := HB9.out.sb.cell 6
  have xc7 : w9.cell? ⟨A, 7, none⟩ = some (.slice Aq8 1 cq8) := HB9.out.sb.cell 7
  have xz0 := HB9.out.sb.frozen 0
  have xz1 := HB9.out.sb.frozen 1
  have xz2 := HB9.out.sb.frozen 2
  have xz3 := HB9.out.sb.frozen 3
  have xz4 := HB9.out.sb.frozen 4
  have xz5 := HB9.out.sb.frozen 5
  have xz6 := HB9.out.sb.frozen 6
  have xz7 := HB9.out.sb.frozen 7
  have xr0 : w9.cell? ⟨R, 0, none⟩ = some (.int .i64 7) := HB9.out.rb.cell 0
  have xr1 : w9.cell? ⟨R, 1, none⟩ = some (.int .i64 2) := HB9.out.rb.cell 1
  have xr2 : w9.cell? ⟨R, 2, none⟩ = some (.int .i64 2) := HB9.out.rb.cell 2
  have xr3 : w9.cell? ⟨R, 3, none⟩ = some (.slice Ar7 0 cr7) := HB9.out.rb.cell 3
  have xq0 := HB9.out.rb.frozen 0
  have xq1 := HB9.out.rb.frozen 1
  have xq2 := HB9.out.rb.frozen 2
  have xq3 := HB9.out.rb.frozen 3
  have lA := HB9.out.sb.lt
  have lR := HB9.out.rb.lt
  rw [show snC eS6 (.slice Ao9 1 co9) (.slice Aq9 0 cq9) = #[.int .i64 7, .int .i64 2, .int .i64 10, .int .i64 2, .int .i64 3, .int .i64 2, .slice Ao9 1 co9, .slice Aq9 0 cq9] from rfl]
  have HN9 := Lib.hid (HB9.out.setS HA.out eS6 (v0 := .int .i64 7) (v1 := .int .i64 2) (v2 := .int .i64 10) (v3 := .int .i64 2) (v4 := .int .i64 3) (v5 := .int .i64 2) hO hQ rfl)
  clear hO hQ HN8
  go_upto_region 22 with fail
  generalize ((((((((w9.setCell ⟨A, 0, none⟩ (.int .i64 7)).setCell ⟨A, 1, none⟩ (.int .i64 2)).setCell ⟨A, 2, none⟩ (.int .i64 10)).setCell ⟨A, 3, none⟩ (.int .i64 2)).setCell ⟨A, 4, none⟩ (.int .i64 3)).setCell ⟨A, 5, none⟩ (.int .i64 2)).setCell ⟨A, 6, none⟩ (.slice Ao9 1 co9)).setCell ⟨A, 7, none⟩ (.slice Aq9 0 cq9)) = V9 at *
  clear xc0 xc1 xc2 xc3 xc4 xc5 xc6 xc7 xz0 xz1 xz2 xz3 xz4 xz5 xz6 xz7 xr0 xr1 xr2 xr3 xq0 xq1 xq2 xq3 lA lR HB9
  have xc0 : V9.cell? ⟨A, 0, none⟩ = some (.int .i64 7) := HN9.out.sb.cell 0
  have xc1 : V9.cell? ⟨A, 1, none⟩ = some (.int .i64 2) := HN9.out.sb.cell 1
  have xc2 : V9.cell? ⟨A, 2, none⟩ = some (.int .i64 10) := HN9.out.sb.cell 2
  have xc3 : V9.cell? ⟨A, 3, none⟩ = some (.int .i64 2) := HN9.out.sb.cell 3
  have xc4 : V9.cell? ⟨A, 4, none⟩ = some (.int .i64 3) := HN9.out.sb.cell 4
  have xc5 : V9.cell? ⟨A, 5, none⟩ = some (.int .i64 2) := HN9.out.sb.cell 5
  have xc6 : V9.cell? ⟨A, 6, none⟩ = some (.slice Ao9 1 co9) := HN9.out.sb.cell 6
  have xc7 : V9.cell? ⟨A, 7, none⟩ = some (.slice Aq9 0 cq9) := HN9.out.sb.cell 7
  have xz0 := HN9.out.sb.frozen 0
  have xz1 := HN9.out.sb.frozen 1
  have xz2 := HN9.out.sb.frozen 2
  have xz3 := HN9.out.sb.frozen 3
  have xz4 := HN9.out.sb.frozen 4
  have xz5 := HN9.out.sb.frozen 5
  have xz6 := HN9.out.sb.frozen 6
  have xz7 := HN9.out.sb.frozen 7
  have xr0 : V9.cell? ⟨R, 0, none⟩ = some (.int .i64 7) := HN9.out.rb.cell 0
  have xr1 : V9.cell? ⟨R, 1, none⟩ = some (.int .i64 2) := HN9.out.rb.cell 1
  have xr2 : V9.cell? ⟨R, 2, none⟩ = some (.int .i64 2) := HN9.out.rb.cell 2
  have xr3 : V9.cell? ⟨R, 3, none⟩ = some (.slice Ar7 0 cr7) := HN9.out.rb.cell 3
  have xq0 := HN9.out.rb.frozen 0
  have xq1 := HN9.out.rb.frozen 1
  have xq2 := HN9.out.rb.frozen 2
  have xq3 := HN9.out.rb.frozen 3
  have lA := HN9.out.sb.lt
  have lR := HN9.out.rb.lt
  obtain ⟨lbz, vsz, vpz, hKz⟩ := KsV.cells (l := eP6) (HN9.out.ks (eP6, .slice (some ⟨b9, off9, none⟩) 1 ck9) (by simp)) (by decide) (i := 0) (by decide)
  obtain ⟨Asz, csz, hvsz, -, -⟩ := hKz.xs.form
  change vsz = .slice Asz 0 csz at hvsz
  subst hvsz
  obtain ⟨Apz, cpz, hvpz, hbyz⟩ := hKz.bs
  change vpz = .slice Apz 1 cpz at hvpz
  subst hvpz
  have kz0 : V9.cell? ⟨b9, off9, none⟩ = some (.int .i64 0) := hKz.c0
  have kz1 : V9.cell? ⟨b9, off9 + 1, none⟩ = some (.int .i64 7) := hKz.c1
  have kz2 : V9.cell? ⟨b9, off9 + 2, none⟩ = some (.int .i64 2) := hKz.c2
  have kz3 : V9.cell? ⟨b9, off9 + 3, none⟩ = some (.int .i64 0) := hKz.c3
  have kz4 : V9.cell? ⟨b9, off9 + 4, none⟩ = some (.int .i64 0) := hKz.c4
  have kz5 : V9.cell? ⟨b9, off9 + 5, none⟩ = some (.slice Asz 0 csz) := hKz.c5
  have kz6 : V9.cell? ⟨b9, off9 + 6, none⟩ = some (.slice Apz 1 cpz) := hKz.c6
  have hrun := run_c (c := cpz) hbyz
  go_upto_region 24 with fail
  clear xc0 xc1 xc2 xc3 xc4 xc5 xc6 xc7 xz0 xz1 xz2 xz3 xz4 xz5 xz6 xz7 xr0 xr1 xr2 xr3 xq0 xq1 xq2 xq3 lA lR lbz kz0 kz1 kz2 kz3 kz4 kz5 kz6 hrun hKz hbyz
  obtain ⟨lbx, vsx, vpx, hKx⟩ := KsV.cells (l := [eX]) (HN9.out.ks ([eX], .slice (some ⟨b3, off3, none⟩) 1 ck3) (by simp)) (by decide) (i := 0) (by decide)
  obtain ⟨Asx, csx, hvsx, -, -⟩ := hKx.xs.form
  change vsx = .slice Asx 1 csx at hvsx
  subst hvsx
  obtain ⟨Apx, cpx, hvpx, hbyx⟩ := hKx.bs
  change vpx = .slice Apx 0 cpx at hvpx
  subst hvpx
  have kx0 : V9.cell? ⟨b3, off3, none⟩ = some (.int .i64 1) := hKx.c0
  have kx1 : V9.cell? ⟨b3, off3 + 1, none⟩ = some (.int .i64 7) := hKx.c1
  have kx2 : V9.cell? ⟨b3, off3 + 2, none⟩ = some (.int .i64 0) := hKx.c2
  have kx3 : V9.cell? ⟨b3, off3 + 3, none⟩ = some (.int .i64 0) := hKx.c3
  have kx4 : V9.cell? ⟨b3, off3 + 4, none⟩ = some (.int .i64 2) := hKx.c4
  have kx5 : V9.cell? ⟨b3, off3 + 5, none⟩ = some (.slice Asx 1 csx) := hKx.c5
  have kx6 : V9.cell? ⟨b3, off3 + 6, none⟩ = some (.slice Apx 0 cpx) := hKx.c6
  have xc0 : V9.cell? ⟨A, 0, none⟩ = some (.int .i64 7) := HN9.out.sb.cell 0
  have xc1 : V9.cell? ⟨A, 1, none⟩ = some (.int .i64 2) := HN9.out.sb.cell 1
  have xc2 : V9.cell? ⟨A, 2, none⟩ = some (.int .i64 10) := HN9.out.sb.cell 2
  have xc3 : V9.cell? ⟨A, 3, none⟩ = some (.int .i64 2) := HN9.out.sb.cell 3
  have xc4 : V9.cell? ⟨A, 4, none⟩ = some (.int .i64 3) := HN9.out.sb.cell 4
  have xc5 : V9.cell? ⟨A, 5, none⟩ = some (.int .i64 2) := HN9.out.sb.cell 5
  have xc6 : V9.cell? ⟨A, 6, none⟩ = some (.slice Ao9 1 co9) := HN9.out.sb.cell 6
  have xc7 : V9.cell? ⟨A, 7, none⟩ = some (.slice Aq9 0 cq9) := HN9.out.sb.cell 7
  have xz0 := HN9.out.sb.frozen 0
  have xz1 := HN9.out.sb.frozen 1
  have xz2 := HN9.out.sb.frozen 2
  have xz3 := HN9.out.sb.frozen 3
  have xz4 := HN9.out.sb.frozen 4
  have xz5 := HN9.out.sb.frozen 5
  have xz6 := HN9.out.sb.frozen 6
  have xz7 := HN9.out.sb.frozen 7
  have xr0 : V9.cell? ⟨R, 0, none⟩ = some (.int .i64 7) := HN9.out.rb.cell 0
  have xr1 : V9.cell? ⟨R, 1, none⟩ = some (.int .i64 2) := HN9.out.rb.cell 1
  have xr2 : V9.cell? ⟨R, 2, none⟩ = some (.int .i64 2) := HN9.out.rb.cell 2
  have xr3 : V9.cell? ⟨R, 3, none⟩ = some (.slice Ar7 0 cr7) := HN9.out.rb.cell 3
  have xq0 := HN9.out.rb.frozen 0
  have xq1 := HN9.out.rb.frozen 1
  have xq2 := HN9.out.rb.frozen 2
  have xq3 := HN9.out.rb.frozen 3
  have lA := HN9.out.sb.lt
  have lR := HN9.out.rb.lt
  refine wp_region_lexV (.op 0 1 (.op 1 1 (.op 2 1 (.op 3 1 (.two 4 8 (.op 5 1 (.op 6 1 (.op 7 1 (.op 8 0 (.op 9 0 (.op 10 1 .nil)))))) (.op 4 0 (.op 5 1 (.op 6 1 (.op 7 1 (.op 9 0 (.op 10 1 .nil))))))))))) [] (fun w9 => w9.cell? ⟨A, 0, none⟩ = some (.int .i64 7) ∧ w9.cell? ⟨A, 1, none⟩ = some (.int .i64 2) ∧ w9.cell? ⟨A, 2, none⟩ = some (.int .i64 10) ∧ w9.cell? ⟨A, 3, none⟩ = some (.int .i64 2) ∧ w9.cell? ⟨A, 4, none⟩ = some (.int .i64 3) ∧ w9.cell? ⟨A, 5, none⟩ = some (.int .i64 2) ∧ w9.cell? ⟨A, 6, none⟩ = some (.slice Ao9 1 co9) ∧ w9.cell? ⟨A, 7, none⟩ = some (.slice Aq9 0 cq9) ∧ w9.cell? ⟨b3, off3, none⟩ = some (.int .i64 1) ∧ w9.cell? ⟨b3, off3 + 1, none⟩ = some (.int .i64 7) ∧ w9.cell? ⟨b3, off3 + 2, none⟩ = some (.int .i64 0) ∧ w9.cell? ⟨b3, off3 + 3, none⟩ = some (.int .i64 0) ∧ w9.cell? ⟨b3, off3 + 4, none⟩ = some (.int .i64 2) ∧ w9.cell? ⟨b3, off3 + 5, none⟩ = some (.slice Asx 1 csx) ∧ w9.cell? ⟨b3, off3 + 6, none⟩ = some (.slice Apx 0 cpx)) (by kernel_rfl) (by kernel_rfl) (by kernel_rfl) (by kernel_rfl) (by kernel_rfl) ⟨xc0, xc1, xc2, xc3, xc4, xc5, xc6, xc7, kx0, kx1, kx2, kx3, kx4, kx5, kx6⟩ ?_
  repeat ((first | (refine lexV_read rfl (by rfl) (by first | exact wanted_none rfl | exact wanted_some (b := true) (c := true) rfl rfl rfl | exact wanted_some (b := false) (c := false) rfl rfl rfl) (by intro w9 hS9; (try dsimp only at hS9); go_simp <;> with_reducible rfl) ?_) | (refine lexV_skip rfl (fun _ => trivial) (by first | exact wanted_some (b := true) (c := false) rfl rfl rfl | exact wanted_some (b := false) (c := true) rfl rfl rfl) ?_) | (refine lexV_builtin rfl (fun _ => trivial) (by first | exact wanted_none rfl | exact wanted_some (b := true) (c := true) rfl rfl rfl | exact wanted_some (b := false) (c := false) rfl rfl rfl) (by intro w9 hS9; (try dsimp only at hS9); go_simp <;> with_reducible rfl) ?_)); (try simp only [Act.put, List.getElem_toArray, List.getElem_cons_succ, List.getElem_cons_zero, List.setIfInBounds_toArray, List.set_cons_zero, List.set_cons_succ]))
  refine lexV_two ?_ ?_
  · have hbd : Below V9.heap.size V9 V9.drew := (Below.refl _ _).drew
    refine lexV_eff rfl (fun _ => trivial) ?_
    go_simp
    have hsn0 : SnV V9.drew w.heap.size eS6 (.agg #[.int .i64 7, .int .i64 2, .int .i64 10, .int .i64 2, .int .i64 3, .int .i64 2, .slice Ao9 1 co9, .slice Aq9 0 cq9]) := HN9.out.sn.up hbd
    have hpk : PkV V9.drew w.heap.size eX (.agg #[.int .i64 1, .int .i64 7, .int .i64 0, .int .i64 0, .int .i64 2, .slice Asx 1 csx, .slice Apx 0 cpx]) := hKx.pk.up hbd
    refine CallsIn.mono ((callsIn_wide (n := 0)).2 (Ack_any eS6 14 eX _ _ w.heap.size (V9.drew) hsn0 ⟨by decide, by decide⟩ hpk ⟨by decide, by decide⟩ (Nat.le_trans HN9.out.bel.size hbd.size))) ?_
    rintro e w9 ⟨⟨sv, nr, rfl, hsn, hnr⟩, hbn⟩
    rw [ex10] at hsn hnr
    obtain rfl : nr = -1 := hnr
    obtain ⟨vo, vq, rfl, hO, hQ⟩ := hsn
    obtain ⟨Ao10, co10, hvo, -, -⟩ := hO.form
    change vo = .slice Ao10 1 co10 at hvo
    obtain ⟨Aq10, cq10, hvq, -, -⟩ := hQ.form
    change vq = .slice Aq10 0 cq10 at hvq
    subst hvo hvq
    dsimp only
    have hbn' : Below V9.heap.size V9 w9 := hbd.trans (hbn.mono hbd.size)
    have HB := Lib.hid (HN9.out.below hbn')
    have y0 := (hbn'.cell (p := ⟨b3, off3, none⟩) lbx).trans kx0
    have y1 := (hbn'.cell (p := ⟨b3, off3 + 1, none⟩) lbx).trans kx1
    have y2 := (hbn'.cell (p := ⟨b3, off3 + 2, none⟩) lbx).trans kx2
    have y3 := (hbn'.cell (p := ⟨b3, off3 + 3, none⟩) lbx).trans kx3
    have y4 := (hbn'.cell (p := ⟨b3, off3 + 4, none⟩) lbx).trans kx4
    have y5 := (hbn'.cell (p := ⟨b3, off3 + 5, none⟩) lbx).trans kx5
    have y6 := (hbn'.cell (p := ⟨b3, off3 + 6, none⟩) lbx).trans kx6
    have lb9 := Nat.lt_of_lt_of_le lbx hbn'.size
    clear xc0 xc1 xc2 xc3 xc4 xc5 xc6 xc7 xz0 xz1 xz2 xz3 xz4 xz5 xz6 xz7 xr0 xr1 xr2 xr3 xq0 xq1 xq2 xq3 lA lR hsn0 hpk
    clear kx0 kx1 kx2 kx3 kx4 kx5 kx6 hKx hbyx
    have xc0 : w9.cell? ⟨A, 0, none⟩ = some (.int .i64 7) := HB.out.sb.cell 0
    have xc1 : w9.cell? ⟨A, 1, none⟩ = some (.int .i64 2) := HB.out.sb.cell 1
    have xc2 : w9.cell? ⟨A, 2, none⟩ = some (.int .i64 10) := HB.out.sb.cell 2
    have xc3 : w9.cell? ⟨A, 3, none⟩ = some (.int .i64 2) := HB.out.sb.cell 3
    have xc4 : w9.cell? ⟨A, 4, none⟩ = some (.int .i64 3) := HB.out.sb.cell 4
    have xc5 : w9.cell? ⟨A, 5, none⟩ = some (.int .i64 2) := HB.out.sb.cell 5
    have xc6 : w9.cell? ⟨A, 6, none⟩ = some (.slice Ao9 1 co9) := HB.out.sb.cell 6
    have xc7 : w9.cell? ⟨A, 7, none⟩ = some (.slice Aq9 0 cq9) := HB.out.sb.cell 7
    have xz0 := HB.out.sb.frozen 0
    have xz1 := HB.out.sb.frozen 1
    have xz2 := HB.out.sb.frozen 2
    have xz3 := HB.out.sb.frozen 3
    have xz4 := HB.out.sb.frozen 4
    have xz5 := HB.out.sb.frozen 5
    have xz6 := HB.out.sb.frozen 6
    have xz7 := HB.out.sb.frozen 7
    have xr0 : w9.cell? ⟨R, 0, none⟩ = some (.int .i64 7) := HB.out.rb.cell 0
    have xr1 : w9.cell? ⟨R, 1, none⟩ = some (.int .i64 2) := HB.out.rb.cell 1
    have xr2 : w9.cell? ⟨R, 2, none⟩ = some (.int .i64 2) := HB.out.rb.cell 2
    have xr3 : w9.cell? ⟨R, 3, none⟩ = some (.slice Ar7 0 cr7) := HB.out.rb.cell 3
    have xq0 := HB.out.rb.frozen 0
    have xq1 := HB.out.rb.frozen 1
    have xq2 := HB.out.rb.frozen 2
    have xq3 := HB.out.rb.frozen 3
    have lA := HB.out.sb.lt
    have lR := HB.out.rb.lt
    refine ⟨⟨xc0, xc1, xc2, xc3, xc4, xc5, xc6, xc7, y0, y1, y2, y3, y4, y5, y6⟩, ?_⟩
    rw [show snC eS6 (.slice Ao10 1 co10) (.slice Aq10 0 cq10) = #[.int .i64 7, .int .i64 2, .int .i64 10, .int .i64 2, .int .i64 3, .int .i64 2, .slice Ao10 1 co10, .slice Aq10 0 cq10] from rfl]
    (try simp only [Act.put, List.getElem_toArray, List.getElem_cons_succ, List.getElem_cons_zero, List.setIfInBounds_toArray, List.set_cons_zero, List.set_cons_succ])
    repeat ((first | (refine lexV_read rfl (by rfl) (by first | exact wanted_none rfl | exact wanted_some (b := true) (c := true) rfl rfl rfl | exact wanted_some (b := false) (c := false) rfl rfl rfl) (by intro w9 hS9; (try dsimp only at hS9); go_simp <;> with_reducible rfl) ?_) | (refine lexV_skip rfl (fun _ => trivial) (by first | exact wanted_some (b := true) (c := false) rfl rfl rfl | exact wanted_some (b := false) (c := true) rfl rfl rfl) ?_) | (refine lexV_builtin rfl (fun _ => trivial) (by first | exact wanted_none rfl | exact wanted_some (b := true) (c := true) rfl rfl rfl | exact wanted_some (b := false) (c := false) rfl rfl rfl) (by intro w9 hS9; (try dsimp only at hS9); go_simp <;> with_reducible rfl) ?_)); (try simp only [Act.put, List.getElem_toArray, List.getElem_cons_succ, List.getElem_cons_zero, List.setIfInBounds_toArray, List.set_cons_zero, List.set_cons_succ]))
    have hbF : Below w9.heap.size w9 (w9.alloc (.cells #[.int .i64 7, .int .i64 2, .int .i64 10, .int .i64 2, .int .i64 3, .int .i64 2, .slice Ao10 1 co10, .slice Aq10 0 cq10] 25)) := (Below.refl _ w9).alloc (Nat.le_refl _) _
    have hkF : Blk (w9.alloc (.cells #[.int .i64 7, .int .i64 2, .int .i64 10, .int .i64 2, .int .i64 3, .int .i64 2, .slice Ao10 1 co10, .slice Aq10 0 cq10] 25)) w9.heap.size 25 #[.int .i64 7, .int .i64 2, .int .i64 10, .int .i64 2, .int .i64 3, .int .i64 2, .slice Ao10 1 co10, .slice Aq10 0 cq10] := Blk.new w9 25 #[.int .i64 7, .int .i64 2, .int .i64 10, .int .i64 2, .int .i64 3, .int .i64 2, .slice Ao10 1 co10, .slice Aq10 0 cq10]
    have HT := Lib.hid (And.intro (HB.out.below hbF) (And.intro hkF (And.intro (hO.up hbF) (hQ.up hbF))))
    clear hbF hkF hO hQ hbn hbn' hbd HN9
    refine lexV_eff rfl (fun _ => trivial) ?_
    go_simp
    (try simp only [Act.put, List.getElem_toArray, List.getElem_cons_succ, List.getElem_cons_zero, List.setIfInBounds_toArray, List.set_cons_zero, List.set_cons_succ])
    refine lexV_eff rfl (fun _ => trivial) ?_
    go_simp
    (try simp only [Act.put, List.getElem_toArray, List.getElem_cons_succ, List.getElem_cons_zero, List.setIfInBounds_toArray, List.set_cons_zero, List.set_cons_succ])
    repeat ((first | (refine lexV_read rfl (by rfl) (by first | exact wanted_none rfl | exact wanted_some (b := true) (c := true) rfl rfl rfl | exact wanted_some (b := false) (c := false) rfl rfl rfl) (by intro w9 hS9; (try dsimp only at hS9); go_simp <;> with_reducible rfl) ?_) | (refine lexV_skip rfl (fun _ => trivial) (by first | exact wanted_some (b := true) (c := false) rfl rfl rfl | exact wanted_some (b := false) (c := true) rfl rfl rfl) ?_) | (refine lexV_builtin rfl (fun _ => trivial) (by first | exact wanted_none rfl | exact wanted_some (b := true) (c := true) rfl rfl rfl | exact wanted_some (b := false) (c := false) rfl rfl rfl) (by intro w9 hS9; (try dsimp only at hS9); go_simp <;> with_reducible rfl) ?_)); (try simp only [Act.put, List.getElem_toArray, List.getElem_cons_succ, List.getElem_cons_zero, List.setIfInBounds_toArray, List.set_cons_zero, List.set_cons_succ]))
    refine lexV_nil (panQ_normal ?_)
    clear xc0 xc1 xc2 xc3 xc4 xc5 xc6 xc7 xz0 xz1 xz2 xz3 xz4 xz5 xz6 xz7 xr0 xr1 xr2 xr3 xq0 xq1 xq2 xq3 lA lR y0 y1 y2 y3 y4 y5 y6 HB lb9 lbx
    generalize (w9.alloc (.cells #[.int .i64 7, .int .i64 2, .int .i64 10, .int .i64 2, .int .i64 3, .int .i64 2, .slice Ao10 1 co10, .slice Aq10 0 cq10] 25)) = W10 at *
    obtain ⟨X, hX⟩ : ∃ x, x = w9.heap.size := ⟨_, rfl⟩
    rw [← hX] at HT ⊢
    clear hX
    have xc0 : W10.cell? ⟨A, 0, none⟩ = some (.int .i64 7) := HT.out.1.sb.cell 0
    have xc1 : W10.cell? ⟨A, 1, none⟩ = some (.int .i64 2) := HT.out.1.sb.cell 1
    have xc2 : W10.cell? ⟨A, 2, none⟩ = some (.int .i64 10) := HT.out.1.sb.cell 2
    have xc3 : W10.cell? ⟨A, 3, none⟩ = some (.int .i64 2) := HT.out.1.sb.cell 3
    have xc4 : W10.cell? ⟨A, 4, none⟩ = some (.int .i64 3) := HT.out.1.sb.cell 4
    have xc5 : W10.cell? ⟨A, 5, none⟩ = some (.int .i64 2) := HT.out.1.sb.cell 5
    have xc6 : W10.cell? ⟨A, 6, none⟩ = some (.slice Ao9 1 co9) := HT.out.1.sb.cell 6
    have xc7 : W10.cell? ⟨A, 7, none⟩ = some (.slice Aq9 0 cq9) := HT.out.1.sb.cell 7
    have xd0 : W10.cell? ⟨X, 0, none⟩ = some (.int .i64 7) := HT.out.2.1.cell 0
    have xd1 : W10.cell? ⟨X, 1, none⟩ = some (.int .i64 2) := HT.out.2.1.cell 1
    have xd2 : W10.cell? ⟨X, 2, none⟩ = some (.int .i64 10) := HT.out.2.1.cell 2
    have xd3 : W10.cell? ⟨X, 3, none⟩ = some (.int .i64 2) := HT.out.2.1.cell 3
    have xd4 : W10.cell? ⟨X, 4, none⟩ = some (.int .i64 3) := HT.out.2.1.cell 4
    have xd5 : W10.cell? ⟨X, 5, none⟩ = some (.int .i64 2) := HT.out.2.1.cell 5
    have xd6 : W10.cell? ⟨X, 6, none⟩ = some (.slice Ao10 1 co10) := HT.out.2.1.cell 6
    have xd7 : W10.cell? ⟨X, 7, none⟩ = some (.slice Aq10 0 cq10) := HT.out.2.1.cell 7
    have lA := HT.out.1.sb.lt
    have lX := HT.out.2.1.lt
    have hsm := SameSender_true eS6 (.agg #[.int .i64 7, .int .i64 2, .int .i64 10, .int .i64 2, .int .i64 3, .int .i64 2, .slice Ao9 1 co9, .slice Aq9 0 cq9]) (.agg #[.int .i64 7, .int .i64 2, .int .i64 10, .int .i64 2, .int .i64 3, .int .i64 2, .slice Ao10 1 co10, .slice Aq10 0 cq10]) w.heap.size w.heap.size W10 HT.out.1.sn ⟨_, _, rfl, HT.out.2.2.1, HT.out.2.2.2⟩ ⟨by decide, by decide⟩
    have HSM := Lib.hid hsm
    clear hsm
    go_wp2_with fail
    refine HSM.out.mono ?_
    rintro e u1 ⟨rfl, hbu⟩
    have HU := Lib.hid (HT.out.1.below hbu)
    clear hbu xc0 xc1 xc2 xc3 xc4 xc5 xc6 xc7 xd0 xd1 xd2 xd3 xd4 xd5 xd6 xd7 lA lX
    have xc0 : u1.cell? ⟨A, 0, none⟩ = some (.int .i64 7) := HU.out.sb.cell 0
    have xc1 : u1.cell? ⟨A, 1, none⟩ = some (.int .i64 2) := HU.out.sb.cell 1
    have xc2 : u1.cell? ⟨A, 2, none⟩ = some (.int .i64 10) := HU.out.sb.cell 2
    have xc3 : u1.cell? ⟨A, 3, none⟩ = some (.int .i64 2) := HU.out.sb.cell 3
    have xc4 : u1.cell? ⟨A, 4, none⟩ = some (.int .i64 3) := HU.out.sb.cell 4
    have xc5 : u1.cell? ⟨A, 5, none⟩ = some (.int .i64 2) := HU.out.sb.cell 5
    have xc6 : u1.cell? ⟨A, 6, none⟩ = some (.slice Ao9 1 co9) := HU.out.sb.cell 6
    have xc7 : u1.cell? ⟨A, 7, none⟩ = some (.slice Aq9 0 cq9) := HU.out.sb.cell 7
    have lA := HU.out.sb.lt
    have hun := Unack_any eS6 (.agg #[.int .i64 7, .int .i64 2, .int .i64 10, .int .i64 2, .int .i64 3, .int .i64 2, .slice Ao9 1 co9, .slice Aq9 0 cq9]) w.heap.size u1 HU.out.sn ⟨by decide, by decide⟩
    rw [ex11] at hun
    have HUN := Lib.hid hun
    clear hun
    go_wp2_with fail
    refine HUN.out.mono ?_
    rintro e u2 ⟨rfl, hbu⟩
    have HU2 := Lib.hid (HU.out.bel.trans (hbu.mono HU.out.bel.size))
    clear hbu
    go_wp2_with fail
    go_ret
    exact ⟨rfl, HU2.out⟩
  · have hbd : Below V9.heap.size V9 (V9.alloc (.cells #[.int .i64 0, .int .i64 0, .int .i64 0, .int .i64 0, .int .i64 0, .int .i64 0, .slice none 0 0, .slice none 0 0] 25)).drew := ((Below.refl _ _).alloc (Nat.le_refl _) _).drew
    have hkX : Blk (V9.alloc (.cells #[.int .i64 0, .int .i64 0, .int .i64 0, .int .i64 0, .int .i64 0, .int .i64 0, .slice none 0 0, .slice none 0 0] 25)).drew V9.heap.size 25 #[.int .i64 0, .int .i64 0, .int .i64 0, .int .i64 0, .int .i64 0, .int .i64 0, .slice none 0 0, .slice none 0 0] := (Blk.new _ 25 _).drew
    refine lexV_eff rfl (fun _ => trivial) ?_
    go_simp
    (try simp only [Act.put, List.getElem_toArray, List.getElem_cons_succ, List.getElem_cons_zero, List.setIfInBounds_toArray, List.set_cons_zero, List.set_cons_succ])
    refine lexV_eff rfl (fun _ => trivial) ?_
    go_simp
    have hsn0 : SnV (V9.alloc (.cells #[.int .i64 0, .int .i64 0, .int .i64 0, .int .i64 0, .int .i64 0, .int .i64 0, .slice none 0 0, .slice none 0 0] 25)).drew w.heap.size eS6 (.agg #[.int .i64 7, .int .i64 2, .int .i64 10, .int .i64 2, .int .i64 3, .int .i64 2, .slice Ao9 1 co9, .slice Aq9 0 cq9]) := HN9.out.sn.up hbd
    have hpk : PkV (V9.alloc (.cells #[.int .i64 0, .int .i64 0, .int .i64 0, .int .i64 0, .int .i64 0, .int .i64 0, .slice none 0 0, .slice none 0 0] 25)).drew w.heap.size eX (.agg #[.int .i64 1, .int .i64 7, .int .i64 0, .int .i64 0, .int .i64 2, .slice Asx 1 csx, .slice Apx 0 cpx]) := hKx.pk.up hbd
    refine CallsIn.mono ((callsIn_wide (n := 0)).2 (Ack_any eS6 14 eX _ _ w.heap.size ((V9.alloc (.cells #[.int .i64 0, .int .i64 0, .int .i64 0, .int .i64 0, .int .i64 0, .int .i64 0, .slice none 0 0, .slice none 0 0] 25)).drew) hsn0 ⟨by decide, by decide⟩ hpk ⟨by decide, by decide⟩ (Nat.le_trans HN9.out.bel.size hbd.size))) ?_
    rintro e w9 ⟨⟨sv, nr, rfl, hsn, hnr⟩, hbn⟩
    rw [ex10] at hsn hnr
    obtain rfl : nr = -1 := hnr
    obtain ⟨vo, vq, rfl, hO, hQ⟩ := hsn
    obtain ⟨Ao10, co10, hvo, -, -⟩ := hO.form
    change vo = .slice Ao10 1 co10 at hvo
    obtain ⟨Aq10, cq10, hvq, -, -⟩ := hQ.form
    change vq = .slice Aq10 0 cq10 at hvq
    subst hvo hvq
    dsimp only
    have hbn' : Below V9.heap.size V9 w9 := hbd.trans (hbn.mono hbd.size)
    have HB := Lib.hid (HN9.out.below hbn')
    have y0 := (hbn'.cell (p := ⟨b3, off3, none⟩) lbx).trans kx0
    have y1 := (hbn'.cell (p := ⟨b3, off3 + 1, none⟩) lbx).trans kx1
    have y2 := (hbn'.cell (p := ⟨b3, off3 + 2, none⟩) lbx).trans kx2
    have y3 := (hbn'.cell (p := ⟨b3, off3 + 3, none⟩) lbx).trans kx3
    have y4 := (hbn'.cell (p := ⟨b3, off3 + 4, none⟩) lbx).trans kx4
    have y5 := (hbn'.cell (p := ⟨b3, off3 + 5, none⟩) lbx).trans kx5
    have y6 := (hbn'.cell (p := ⟨b3, off3 + 6, none⟩) lbx).trans kx6
    have lb9 := Nat.lt_of_lt_of_le lbx hbn'.size
    have hkX9 := hkX.below hbn hkX.lt
    have hAX : A < V9.heap.size := lA
    have hbX : b3 < V9.heap.size := lbx
    obtain ⟨X, hX⟩ : ∃ x, x = V9.heap.size := ⟨_, rfl⟩
    rw [← hX] at hkX9 hAX hbX ⊢
    clear hX hkX
    clear xc0 xc1 xc2 xc3 xc4 xc5 xc6 xc7 xz0 xz1 xz2 xz3 xz4 xz5 xz6 xz7 xr0 xr1 xr2 xr3 xq0 xq1 xq2 xq3 lA lR hsn0 hpk
    clear kx0 kx1 kx2 kx3 kx4 kx5 kx6 hKx hbyx
    have xc0 : w9.cell? ⟨A, 0, none⟩ = some (.int .i64 7) := HB.out.sb.cell 0
    have xc1 : w9.cell? ⟨A, 1, none⟩ = some (.int .i64 2) := HB.out.sb.cell 1
    have xc2 : w9.cell? ⟨A, 2, none⟩ = some (.int .i64 10) := HB.out.sb.cell 2
    have xc3 : w9.cell? ⟨A, 3, none⟩ = some (.int .i64 2) := HB.out.sb.cell 3
    have xc4 : w9.cell? ⟨A, 4, none⟩ = some (.int .i64 3) := HB.out.sb.cell 4
    have xc5 : w9.cell? ⟨A, 5, none⟩ = some (.int .i64 2) := HB.out.sb.cell 5
    have xc6 : w9.cell? ⟨A, 6, none⟩ = some (.slice Ao9 1 co9) := HB.out.sb.cell 6
    have xc7 : w9.cell? ⟨A, 7, none⟩ = some (.slice Aq9 0 cq9) := HB.out.sb.cell 7
    have xz0 := HB.out.sb.frozen 0
    have xz1 := HB.out.sb.frozen 1
    have xz2 := HB.out.sb.frozen 2
    have xz3 := HB.out.sb.frozen 3
    have xz4 := HB.out.sb.frozen 4
    have xz5 := HB.out.sb.frozen 5
    have xz6 := HB.out.sb.frozen 6
    have xz7 := HB.out.sb.frozen 7
    have xr0 : w9.cell? ⟨R, 0, none⟩ = some (.int .i64 7) := HB.out.rb.cell 0
    have xr1 : w9.cell? ⟨R, 1, none⟩ = some (.int .i64 2) := HB.out.rb.cell 1
    have xr2 : w9.cell? ⟨R, 2, none⟩ = some (.int .i64 2) := HB.out.rb.cell 2
    have xr3 : w9.cell? ⟨R, 3, none⟩ = some (.slice Ar7 0 cr7) := HB.out.rb.cell 3
    have xq0 := HB.out.rb.frozen 0
    have xq1 := HB.out.rb.frozen 1
    have xq2 := HB.out.rb.frozen 2
    have xq3 := HB.out.rb.frozen 3
    have lA := HB.out.sb.lt
    have lR := HB.out.rb.lt
    refine ⟨⟨xc0, xc1, xc2, xc3, xc4, xc5, xc6, xc7, y0, y1, y2, y3, y4, y5, y6⟩, ?_⟩
    rw [show snC eS6 (.slice Ao10 1 co10) (.slice Aq10 0 cq10) = #[.int .i64 7, .int .i64 2, .int .i64 10, .int .i64 2, .int .i64 3, .int .i64 2, .slice Ao10 1 co10, .slice Aq10 0 cq10] from rfl]
    (try simp only [Act.put, List.getElem_toArray, List.getElem_cons_succ, List.getElem_cons_zero, List.setIfInBounds_toArray, List.set_cons_zero, List.set_cons_succ])
    have hneA : (A = X) = False := eq_false (by omega)
    have hneb : (b3 = X) = False := eq_false (by omega)
    have hneA2 : (X = A) = False := eq_false (by omega)
    have hneb2 : (X = b3) = False := eq_false (by omega)
    repeat ((first | (refine lexV_read rfl (by rfl) (by first | exact wanted_none rfl | exact wanted_some (b := true) (c := true) rfl rfl rfl | exact wanted_some (b := false) (c := false) rfl rfl rfl) (by intro w9 hS9; (try dsimp only at hS9); go_simp <;> with_reducible rfl) ?_) | (refine lexV_skip rfl (fun _ => trivial) (by first | exact wanted_some (b := true) (c := false) rfl rfl rfl | exact wanted_some (b := false) (c := true) rfl rfl rfl) ?_) | (refine lexV_builtin rfl (fun _ => trivial) (by first | exact wanted_none rfl | exact wanted_some (b := true) (c := true) rfl rfl rfl | exact wanted_some (b := false) (c := false) rfl rfl rfl) (by intro w9 hS9; (try dsimp only at hS9); go_simp <;> with_reducible rfl) ?_)); (try simp only [Act.put, List.getElem_toArray, List.getElem_cons_succ, List.getElem_cons_zero, List.setIfInBounds_toArray, List.set_cons_zero, List.set_cons_succ]))
    have xd0 : w9.cell? ⟨X, 0, none⟩ = some (.int .i64 0) := hkX9.cell 0
    have xd1 : w9.cell? ⟨X, 1, none⟩ = some (.int .i64 0) := hkX9.cell 1
    have xd2 : w9.cell? ⟨X, 2, none⟩ = some (.int .i64 0) := hkX9.cell 2
    have xd3 : w9.cell? ⟨X, 3, none⟩ = some (.int .i64 0) := hkX9.cell 3
    have xd4 : w9.cell? ⟨X, 4, none⟩ = some (.int .i64 0) := hkX9.cell 4
    have xd5 : w9.cell? ⟨X, 5, none⟩ = some (.int .i64 0) := hkX9.cell 5
    have xd6 : w9.cell? ⟨X, 6, none⟩ = some (.slice none 0 0) := hkX9.cell 6
    have xd7 : w9.cell? ⟨X, 7, none⟩ = some (.slice none 0 0) := hkX9.cell 7
    have xy0 := hkX9.frozen 0
    have xy1 := hkX9.frozen 1
    have xy2 := hkX9.frozen 2
    have xy3 := hkX9.frozen 3
    have xy4 := hkX9.frozen 4
    have xy5 := hkX9.frozen 5
    have xy6 := hkX9.frozen 6
    have xy7 := hkX9.frozen 7
    have lX9 := hkX9.lt
    have hXw : w.heap.size ≤ X := by have := HA.out; omega
    have hkF := set25_blk hkX9 (.int .i64 7) (.int .i64 2) (.int .i64 10) (.int .i64 2) (.int .i64 3) (.int .i64 2) (.slice Ao10 1 co10) (.slice Aq10 0 cq10)
    have hTF := set25_turn hkX9 hXw (.int .i64 7) (.int .i64 2) (.int .i64 10) (.int .i64 2) (.int .i64 3) (.int .i64 2) (.slice Ao10 1 co10) (.slice Aq10 0 cq10)
    have hbF := set25_below HB.out.bel (g := X) hXw (.int .i64 7) (.int .i64 2) (.int .i64 10) (.int .i64 2) (.int .i64 3) (.int .i64 2) (.slice Ao10 1 co10) (.slice Aq10 0 cq10)
    have hsF := set25_other HB.out.sb (g := X) (by omega) (.int .i64 7) (.int .i64 2) (.int .i64 10) (.int .i64 2) (.int .i64 3) (.int .i64 2) (.slice Ao10 1 co10) (.slice Aq10 0 cq10)
    have HT : Hid (AwS w A R eS6 (.slice Ao9 1 co9) (.slice Aq9 0 cq9) eR2 (.slice Ar7 0 cr7) _ ((((((((w9.setCell ⟨X, 0, none⟩ (.int .i64 7)).setCell ⟨X, 1, none⟩ (.int .i64 2)).setCell ⟨X, 2, none⟩ (.int .i64 10)).setCell ⟨X, 3, none⟩ (.int .i64 2)).setCell ⟨X, 4, none⟩ (.int .i64 3)).setCell ⟨X, 5, none⟩ (.int .i64 2)).setCell ⟨X, 6, none⟩ (.slice Ao10 1 co10)).setCell ⟨X, 7, none⟩ (.slice Aq10 0 cq10)) ∧ Blk ((((((((w9.setCell ⟨X, 0, none⟩ (.int .i64 7)).setCell ⟨X, 1, none⟩ (.int .i64 2)).setCell ⟨X, 2, none⟩ (.int .i64 10)).setCell ⟨X, 3, none⟩ (.int .i64 2)).setCell ⟨X, 4, none⟩ (.int .i64 3)).setCell ⟨X, 5, none⟩ (.int .i64 2)).setCell ⟨X, 6, none⟩ (.slice Ao10 1 co10)).setCell ⟨X, 7, none⟩ (.slice Aq10 0 cq10)) X 25 #[.int .i64 7, .int .i64 2, .int .i64 10, .int .i64 2, .int .i64 3, .int .i64 2, .slice Ao10 1 co10, .slice Aq10 0 cq10] ∧ OsV ((((((((w9.setCell ⟨X, 0, none⟩ (.int .i64 7)).setCell ⟨X, 1, none⟩ (.int .i64 2)).setCell ⟨X, 2, none⟩ (.int .i64 10)).setCell ⟨X, 3, none⟩ (.int .i64 2)).setCell ⟨X, 4, none⟩ (.int .i64 3)).setCell ⟨X, 5, none⟩ (.int .i64 2)).setCell ⟨X, 6, none⟩ (.slice Ao10 1 co10)).setCell ⟨X, 7, none⟩ (.slice Aq10 0 cq10)) w.heap.size eS6.out (.slice Ao10 1 co10) ∧ QsV ((((((((w9.setCell ⟨X, 0, none⟩ (.int .i64 7)).setCell ⟨X, 1, none⟩ (.int .i64 2)).setCell ⟨X, 2, none⟩ (.int .i64 10)).setCell ⟨X, 3, none⟩ (.int .i64 2)).setCell ⟨X, 4, none⟩ (.int .i64 3)).setCell ⟨X, 5, none⟩ (.int .i64 2)).setCell ⟨X, 6, none⟩ (.slice Ao10 1 co10)).setCell ⟨X, 7, none⟩ (.slice Aq10 0 cq10)) w.heap.size eS6.q (.slice Aq10 0 cq10)) :=
      ⟨⟨hsF, HB.out.so.turn hTF (by simp) (by simp), HB.out.sq.turn hTF (by simp) (by simp), HB.out.rb.turn hTF (by simp), HB.out.re.turn hTF (by simp) (by simp), fun x hx => (HB.out.ks x hx).turn hTF (by simp) (by simp) (by simp), hbF⟩, hkF, hO.turn hTF (by simp) (by simp), hQ.turn hTF (by simp) (by simp)⟩
    clear hkF hTF hbF hsF hO hQ hbn hbn' hbd HN9 hkX9 HB
    refine lexV_eff rfl (fun _ => trivial) ?_
    go_simp
    (try simp only [Act.put, List.getElem_toArray, List.getElem_cons_succ, List.getElem_cons_zero, List.setIfInBounds_toArray, List.set_cons_zero, List.set_cons_succ])
    repeat ((first | (refine lexV_read rfl (by rfl) (by first | exact wanted_none rfl | exact wanted_some (b := true) (c := true) rfl rfl rfl | exact wanted_some (b := false) (c := false) rfl rfl rfl) (by intro w9 hS9; (try dsimp only at hS9); go_simp <;> with_reducible rfl) ?_) | (refine lexV_skip rfl (fun _ => trivial) (by first | exact wanted_some (b := true) (c := false) rfl rfl rfl | exact wanted_some (b := false) (c := true) rfl rfl rfl) ?_) | (refine lexV_builtin rfl (fun _ => trivial) (by first | exact wanted_none rfl | exact wanted_some (b := true) (c := true) rfl rfl rfl | exact wanted_some (b := false) (c := false) rfl rfl rfl) (by intro w9 hS9; (try dsimp only at hS9); go_simp <;> with_reducible rfl) ?_)); (try simp only [Act.put, List.getElem_toArray, List.getElem_cons_succ, List.getElem_cons_zero, List.setIfInBounds_toArray, List.set_cons_zero, List.set_cons_succ]))
    refine lexV_nil (panQ_normal ?_)
    clear xc0 xc1 xc2 xc3 xc4 xc5 xc6 xc7 xz0 xz1 xz2 xz3 xz4 xz5 xz6 xz7 xr0 xr1 xr2 xr3 xq0 xq1 xq2 xq3 lA lR y0 y1 y2 y3 y4 y5 y6 lb9 lbx xd0 xy0 xd1 xy1 xd2 xy2 xd3 xy3 xd4 xy4 xd5 xy5 xd6 xy6 xd7 xy7 lX9
    generalize ((((((((w9.setCell ⟨X, 0, none⟩ (.int .i64 7)).setCell ⟨X, 1, none⟩ (.int .i64 2)).setCell ⟨X, 2, none⟩ (.int .i64 10)).setCell ⟨X, 3, none⟩ (.int .i64 2)).setCell ⟨X, 4, none⟩ (.int .i64 3)).setCell ⟨X, 5, none⟩ (.int .i64 2)).setCell ⟨X, 6, none⟩ (.slice Ao10 1 co10)).setCell ⟨X, 7, none⟩ (.slice Aq10 0 cq10)) = W10 at *
    have xc0 : W10.cell? ⟨A, 0, none⟩ = some (.int .i64 7) := HT.out.1.sb.cell 0
    have xc1 : W10.cell? ⟨A, 1, none⟩ = some (.int .i64 2) := HT.out.1.sb.cell 1
    have xc2 : W10.cell? ⟨A, 2, none⟩ = some (.int .i64 10) := HT.out.1.sb.cell 2
    have xc3 : W10.cell? ⟨A, 3, none⟩ = some (.int .i64 2) := HT.out.1.sb.cell 3
    have xc4 : W10.cell? ⟨A, 4, none⟩ = some (.int .i64 3) := HT.out.1.sb.cell 4
    have xc5 : W10.cell? ⟨A, 5, none⟩ = some (.int .i64 2) := HT.out.1.sb.cell 5
    have xc6 : W10.cell? ⟨A, 6, none⟩ = some (.slice Ao9 1 co9) := HT.out.1.sb.cell 6
    have xc7 : W10.cell? ⟨A, 7, none⟩ = some (.slice Aq9 0 cq9) := HT.out.1.sb.cell 7
    have xd0 : W10.cell? ⟨X, 0, none⟩ = some (.int .i64 7) := HT.out.2.1.cell 0
    have xd1 : W10.cell? ⟨X, 1, none⟩ = some (.int .i64 2) := HT.out.2.1.cell 1
    have xd2 : W10.cell? ⟨X, 2, none⟩ = some (.int .i64 10) := HT.out.2.1.cell 2
    have xd3 : W10.cell? ⟨X, 3, none⟩ = some (.int .i64 2) := HT.out.2.1.cell 3
    have xd4 : W10.cell? ⟨X, 4, none⟩ = some (.int .i64 3) := HT.out.2.1.cell 4
    have xd5 : W10.cell? ⟨X, 5, none⟩ = some (.int .i64 2) := HT.out.2.1.cell 5
    have xd6 : W10.cell? ⟨X, 6, none⟩ = some (.slice Ao10 1 co10) := HT.out.2.1.cell 6
    have xd7 : W10.cell? ⟨X, 7, none⟩ = some (.slice Aq10 0 cq10) := HT.out.2.1.cell 7
    have lA := HT.out.1.sb.lt
    have lX := HT.out.2.1.lt
    have hsm := SameSender_true eS6 (.agg #[.int .i64 7, .int .i64 2, .int .i64 10, .int .i64 2, .int .i64 3, .int .i64 2, .slice Ao9 1 co9, .slice Aq9 0 cq9]) (.agg #[.int .i64 7, .int .i64 2, .int .i64 10, .int .i64 2, .int .i64 3, .int .i64 2, .slice Ao10 1 co10, .slice Aq10 0 cq10]) w.heap.size w.heap.size W10 HT.out.1.sn ⟨_, _, rfl, HT.out.2.2.1, HT.out.2.2.2⟩ ⟨by decide, by decide⟩
    have HSM := Lib.hid hsm
    clear hsm
    go_wp2_with fail
    refine HSM.out.mono ?_
    rintro e u1 ⟨rfl, hbu⟩
    have HU := Lib.hid (HT.out.1.below hbu)
    clear hbu xc0 xc1 xc2 xc3 xc4 xc5 xc6 xc7 xd0 xd1 xd2 xd3 xd4 xd5 xd6 xd7 lA lX
    have xc0 : u1.cell? ⟨A, 0, none⟩ = some (.int .i64 7) := HU.out.sb.cell 0
    have xc1 : u1.cell? ⟨A, 1, none⟩ = some (.int .i64 2) := HU.out.sb.cell 1
    have xc2 : u1.cell? ⟨A, 2, none⟩ = some (.int .i64 10) := HU.out.sb.cell 2
    have xc3 : u1.cell? ⟨A, 3, none⟩ = some (.int .i64 2) := HU.out.sb.cell 3
    have xc4 : u1.cell? ⟨A, 4, none⟩ = some (.int .i64 3) := HU.out.sb.cell 4
    have xc5 : u1.cell? ⟨A, 5, none⟩ = some (.int .i64 2) := HU.out.sb.cell 5
    have xc6 : u1.cell? ⟨A, 6, none⟩ = some (.slice Ao9 1 co9) := HU.out.sb.cell 6
    have xc7 : u1.cell? ⟨A, 7, none⟩ = some (.slice Aq9 0 cq9) := HU.out.sb.cell 7
    have lA := HU.out.sb.lt
    have hun := Unack_any eS6 (.agg #[.int .i64 7, .int .i64 2, .int .i64 10, .int .i64 2, .int .i64 3, .int .i64 2, .slice Ao9 1 co9, .slice Aq9 0 cq9]) w.heap.size u1 HU.out.sn ⟨by decide, by decide⟩
    rw [ex11] at hun
    have HUN := Lib.hid hun
    clear hun
    go_wp2_with fail
    refine HUN.out.mono ?_
    rintro e u2 ⟨rfl, hbu⟩
    have HU2 := Lib.hid (HU.out.bel.trans (hbu.mono HU.out.bel.size))
    clear hbu
    go_wp2_with fail
    go_ret
    exact ⟨rfl, HU2.out⟩
end Go.Proofs.Ytanmndhdhlmjgaa
