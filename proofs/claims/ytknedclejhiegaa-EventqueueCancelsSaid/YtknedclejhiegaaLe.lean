/- The walk of the law EventqueueExpires. No condition. -/
import Derived.Test.YtknedclejhiegaaLd
namespace Go.Proofs.Ytknedclejhiegaa
open Go.RowKit
/-- the state of the loop -/
structure ExI (w : World) (bq bp : Nat) (L : List Em) (M D : Nat) (Ap Ad : Option Addr) (np cp : Nat) (esp ds : List Ev) (i : Nat) (W : World) : Prop where
  q : ∃ A n c es, Blk W bq 24 #[.slice A n c, .int .i64 (M : Nat)] ∧ Evs W A n es ∧ es.map Ev.em = L.drop i ∧ n ≤ c
  p : Blk W bp 24 #[.slice Ap np cp, .int .i64 (M : Nat)]
  pe : Evs W Ap np esp
  de : Evs W Ad D ds
  bel : Below w.heap.size w W
/-- an event taken from a queue in order -/
theorem pop_ok {l : List Em} {nx : Int} {i : Nat} (h : OkP nx l) (hi : i < l.length) : popQ (l.drop i) nx = ⟨l.drop (i + 1), nx, l[i], 0⟩ ∧ firstQ (l.drop i) nx = (l[i], true) := by
  have h1 := (h.sub (List.drop_sublist i l)).chk
  unfold popQ firstQ
  rw [h1, if_neg (by simp), if_neg (by simp), List.drop_eq_getElem_cons hi]
  exact ⟨rfl, rfl⟩
theorem due_ok {l : List Em} {nx now : Int} (h : OkP nx l) : ∃ k, k ≤ l.length ∧ dueQ l nx now = (l.drop k, l.take k) ∧ (∀ e ∈ l.take k, e.t ≤ now) ∧ (∀ e ∈ l.drop k, now < e.t) := by
  obtain ⟨h1, h2⟩ := cut_facts h.ord now
  refine ⟨_, atE_le (laterB now) l, ?_, h1, h2⟩
  unfold dueQ
  rw [h.chk, if_neg (by simp)]
theorem ex_cells {X w' : World} {bx by_ bz oz : Nat} {vx0 vx1 vx2 vx3 vx4 vy0 vy1 vy2 vy3 vy4 vz0 vz1 vz2 vz3 vz4 : Value} (hb : Below X.heap.size X w') (h : X.cell? ⟨bx, 0, none⟩ = some vx0 ∧ X.cell? ⟨bx, 1, none⟩ = some vx1 ∧ X.cell? ⟨bx, 2, none⟩ = some vx2 ∧ X.cell? ⟨bx, 3, none⟩ = some vx3 ∧ X.cell? ⟨bx, 4, none⟩ = some vx4 ∧ X.cell? ⟨by_, 0, none⟩ = some vy0 ∧ X.cell? ⟨by_, 1, none⟩ = some vy1 ∧ X.cell? ⟨by_, 2, none⟩ = some vy2 ∧ X.cell? ⟨by_, 3, none⟩ = some vy3 ∧ X.cell? ⟨by_, 4, none⟩ = some vy4 ∧ X.cell? ⟨bz, oz, none⟩ = some vz0 ∧ X.cell? ⟨bz, oz + 1, none⟩ = some vz1 ∧ X.cell? ⟨bz, oz + 2, none⟩ = some vz2 ∧ X.cell? ⟨bz, oz + 3, none⟩ = some vz3 ∧ X.cell? ⟨bz, oz + 4, none⟩ = some vz4 ∧ bx < X.heap.size ∧ by_ < X.heap.size ∧ bz < X.heap.size) :
    w'.cell? ⟨bx, 0, none⟩ = some vx0 ∧ w'.cell? ⟨bx, 1, none⟩ = some vx1 ∧ w'.cell? ⟨bx, 2, none⟩ = some vx2 ∧ w'.cell? ⟨bx, 3, none⟩ = some vx3 ∧ w'.cell? ⟨bx, 4, none⟩ = some vx4 ∧ w'.cell? ⟨by_, 0, none⟩ = some vy0 ∧ w'.cell? ⟨by_, 1, none⟩ = some vy1 ∧ w'.cell? ⟨by_, 2, none⟩ = some vy2 ∧ w'.cell? ⟨by_, 3, none⟩ = some vy3 ∧ w'.cell? ⟨by_, 4, none⟩ = some vy4 ∧ w'.cell? ⟨bz, oz, none⟩ = some vz0 ∧ w'.cell? ⟨bz, oz + 1, none⟩ = some vz1 ∧ w'.cell? ⟨bz, oz + 2, none⟩ = some vz2 ∧ w'.cell? ⟨bz, oz + 3, none⟩ = some vz3 ∧ w'.cell? ⟨bz, oz + 4, none⟩ = some vz4 ∧ Below X.heap.size X w' := by
  obtain ⟨x0, x1, x2, x3, x4, y0, y1, y2, y3, y4, z0, z1, z2, z3, z4, lx, ly, lz⟩ := h
  exact ⟨(hb.cell (p := ⟨bx, 0, none⟩) lx).trans x0, (hb.cell (p := ⟨bx, 1, none⟩) lx).trans x1, (hb.cell (p := ⟨bx, 2, none⟩) lx).trans x2, (hb.cell (p := ⟨bx, 3, none⟩) lx).trans x3, (hb.cell (p := ⟨bx, 4, none⟩) lx).trans x4, (hb.cell (p := ⟨by_, 0, none⟩) ly).trans y0, (hb.cell (p := ⟨by_, 1, none⟩) ly).trans y1, (hb.cell (p := ⟨by_, 2, none⟩) ly).trans y2, (hb.cell (p := ⟨by_, 3, none⟩) ly).trans y3, (hb.cell (p := ⟨by_, 4, none⟩) ly).trans y4, (hb.cell (p := ⟨bz, oz, none⟩) lz).trans z0, (hb.cell (p := ⟨bz, oz + 1, none⟩) lz).trans z1, (hb.cell (p := ⟨bz, oz + 2, none⟩) lz).trans z2, (hb.cell (p := ⟨bz, oz + 3, none⟩) lz).trans z3, (hb.cell (p := ⟨bz, oz + 4, none⟩) lz).trans z4, hb⟩
set_option linter.unusedSimpArgs false in
set_option maxRecDepth 100000 in
set_option maxHeartbeats 16000000 in
theorem walkEventqueueExpires (w : World) (v0 v1 : Value) (h0 : Arg39 w v0) (h1 : Arg5 w v1) : Calls Try.prog 9 #[v0, v1] w fun e w' => e = .returned (.bool true) ∧ Below w.heap.size w w' := by
  obtain ⟨A, m, c, l, rfl, hR, hmc, hcm, hl⟩ := h0
  obtain ⟨now, rfl, hnow⟩ := h1
  have HX := Lib.hid (And.intro hR hl)
  clear hR hl
  unfold maxLen at hcm
  go_enter Try.func9, Try.ntmps9
  go_wp2_with fail
  refine (times_any A m c l w HX.out.1 (by unfold maxLen; omega) HX.out.2).mono ?_
  rintro e w1 ⟨hb1, A1, c1, rfl, hr1⟩
  have hok := added_ok l
  have htl := timesM_len l
  have htb : ∀ t ∈ timesM l, 0 ≤ t ∧ t ≤ 1073741824 := fun t ht => by have := timesM_ok l t ht; omega
  generalize timesM l = ts at *
  obtain ⟨M, hM⟩ : ∃ M, ts.length = M := ⟨_, rfl⟩
  have HM := Lib.hid hM
  rw [hM] at htl hr1 hok ⊢
  have H1 := Lib.hid (And.intro hb1 (And.intro hr1 (And.intro hok htb)))
  have hs1 := hb1.size
  clear hb1 hr1 hok htb hM
  go_wp2_with fail
  refine (added_any A1 M c1 ts w1 H1.out.2.1 (by omega) H1.out.2.2.2).mono ?_
  rintro e w2 ⟨hb2, v2, he2, hv2⟩
  rw [HM.out] at hv2
  obtain ⟨L, hL⟩ : ∃ L, addM ts M = L := ⟨_, rfl⟩
  have HOK : Hid (OkP M L ∧ L.length = M) := by rw [← hL]; exact H1.out.2.2.1
  rw [hL] at hv2
  clear hL
  obtain ⟨A2, c2, es2, rfl, hE2, hm2, hc2⟩ := hv2.val
  have hl2 : es2.length = M := by rw [← HOK.out.2, ← hm2, List.length_map]
  rw [hl2] at hE2 hc2 he2
  subst he2
  have hs2 := hb2.size
  have H2 := Lib.hid (And.intro (H1.out.1.trans (hb2.mono hs1)) (And.intro hE2 (And.intro hm2 (ok_body HOK.out.1 hm2))))
  clear hb2 hv2 hE2 hm2 hl2
  have hb2x : Below w2.heap.size w2 (w2.alloc (.cells #[.slice A2 M c2, .int .i64 (M : Nat)] 24)) := (Below.refl _ _).alloc (Nat.le_refl _) _
  have hs2x : w2.heap.size + 1 ≤ (w2.alloc (.cells #[.slice A2 M c2, .int .i64 (M : Nat)] 24)).heap.size := by simp
  have H2x := Lib.hid (And.intro hb2x (Blk.new w2 24 #[.slice A2 M c2, .int .i64 (M : Nat)]))
  clear hb2x
  go_wp2_with fail
  generalize (w2.alloc (.cells #[.slice A2 M c2, .int .i64 (M : Nat)] 24)) = V2 at *
  refine (Due_any A2 M c2 es2 M now V2 (H2.out.2.1.up H2x.out.1) (by omega) hc2 H2.out.2.2.2).mono ?_
  rintro e w3 ⟨hb3, v3, Ad, cd, ds, he3, hv3, hD3, hd3⟩
  obtain ⟨k, hk, hdue, hle, hgt⟩ := due_ok (now := (now : Nat)) HOK.out.1
  rw [H2.out.2.2.1, hdue] at hv3 hd3
  dsimp only at hv3 hd3
  clear hdue
  obtain ⟨A3, c3, es3, rfl, hE3, hm3, hc3⟩ := hv3.val
  obtain ⟨N, hN⟩ : ∃ N, es3.length = N := ⟨_, rfl⟩
  have hdl : ds.length = k := by have h := congrArg List.length hd3; rw [List.length_map, List.length_take] at h; omega
  have hN3 : N ≤ 30 := by rw [← hN]; have h := congrArg List.length hm3; have := HOK.out.2; rw [List.length_map, List.length_drop] at h; omega
  rw [hN] at hE3 hc3 he3
  rw [hdl] at hD3 he3
  subst he3
  have hs3 := hb3.size
  have hb3x : Below w2.heap.size w2 (w3.alloc (.cells #[.slice A3 N c3, .int .i64 (M : Nat)] 24)) := (H2x.out.1.trans (hb3.mono H2x.out.1.size)).alloc (by omega) _
  have hs3x : w3.heap.size + 1 ≤ (w3.alloc (.cells #[.slice A3 N c3, .int .i64 (M : Nat)] 24)).heap.size := by simp
  have hEa := hE3.up ((Below.refl _ w3).alloc (Nat.le_refl _) (.cells #[.slice A3 N c3, .int .i64 (M : Nat)] 24))
  have hDa := hD3.up ((Below.refl _ w3).alloc (Nat.le_refl _) (.cells #[.slice A3 N c3, .int .i64 (M : Nat)] 24))
  have gp := Blk.new w3 24 #[.slice A3 N c3, .int .i64 (M : Nat)]
  have gq := (H2x.out.2.below hb3 (by omega)).alloc (.cells #[.slice A3 N c3, .int .i64 (M : Nat)] 24)
  have HK := Lib.hid (And.intro hk (And.intro hle (And.intro hgt (And.intro hd3 hm3))))
  have HI : Hid (ExI w w2.heap.size w3.heap.size L M k A3 Ad N c3 es3 ds 0 (w3.alloc (.cells #[.slice A3 N c3, .int .i64 (M : Nat)] 24))) := ⟨⟨_, _, _, es2, gq, H2.out.2.1.up hb3x, H2.out.2.2.1, hc2⟩, gp, hEa, hDa, H2.out.1.trans (hb3x.mono H2.out.1.size)⟩
  clear hb3 hv3 hE3 hD3 hm3 hN hd3 hdl hle hgt hb3x hEa hDa gp gq
  have hk30 : k ≤ 30 := by have := HOK.out.2; omega
  go_wp2_with fail
  generalize (w3.alloc (.cells #[.slice A3 N c3, .int .i64 (M : Nat)] 24)) = V3 at *
  go_loopw [9] (fun u9 W => ∃ i : Nat, i ≤ k ∧ u9 = .int .i64 (i : Nat) ∧ ExI w w2.heap.size w3.heap.size L M k A3 Ad N c3 es3 ds i W) (fun u9 _ => k + 1 - (intOf u9).toNat)
  case atStart => exact ⟨0, by omega, rfl, HI.out⟩
  case round =>
    obtain ⟨i, hi, rfl, hI⟩ := hrel
    have hI1 := Lib.hid hI
    obtain ⟨⟨Aq, nq, cq, eq, gq, hEq, hmq, hcq⟩, gp, hpe, hde, hbel⟩ := hI
    have hokq : OkP (M : Nat) (L.drop i) := HOK.out.1.sub (List.drop_sublist i L)
    have hnq := hEq.count
    have hnb : nq ≤ 30 := by have h := congrArg List.length hmq; have := HOK.out.2; rw [List.length_map, List.length_drop] at h; omega
    have q0 : wr.cell? ⟨w2.heap.size, 0, none⟩ = some (.slice Aq nq cq) := gq.cell 0
    have q1 : wr.cell? ⟨w2.heap.size, 1, none⟩ = some (.int .i64 (M : Nat)) := gq.cell 1
    have hlq := gq.lt
    have hlp := gp.lt
    have HQ := Lib.hid (And.intro (And.intro hEq hmq) (And.intro (ok_body hokq hmq) (And.intro gq (And.intro gp (And.intro hpe (And.intro hde hbel))))))
    clear hEq hmq gq gp hpe hde hbel hokq hnq
    by_cases hik : i < k
    · have hi1 : (i : Int) < k := by omega
      have hi0 : (0 : Int) ≤ i := by omega
      have hiL : i < L.length := by have := HOK.out.2; have := HK.out.1; omega
      obtain ⟨hpop, hfst⟩ := pop_ok HOK.out.1 hiL
      have hxt : L[i].t ≤ (now : Int) := HK.out.2.1 _ (List.mem_take_iff_getElem.2 ⟨i, by omega, rfl⟩)
      have hkd : ds.length = k := HQ.out.2.2.2.2.2.1.count
      have hid : i < ds.length := by omega
      have hdi : ds[i].em = L[i] := by
        have h := congrArg (fun x => x[i]?) HK.out.2.2.2.1
        simpa [List.getElem?_eq_getElem hiL, List.getElem?_eq_getElem hid, List.getElem?_take_of_lt hik] using h
      obtain ⟨bd, od, rfl, hbd, hcd⟩ := HQ.out.2.2.2.2.2.1.cells (by omega)
      have hdc := hcd i _ (List.getElem?_eq_getElem hid)
      have hdr := HQ.out.2.2.2.2.2.1.ev _ (List.getElem_mem hid)
      generalize L[i] = x at *
      generalize ds[i] = y at *
      subst hdi
      obtain ⟨xt, xn, xk, xo, xA, xc, xp⟩ := y
      simp only [Ev.em] at hpop hfst hxt hdc
      have hdr' : Reads wr wr.heap.size 1 xA xp.length (u8s xp) := hdr
      have HD := Lib.hid (And.intro hdc hdr')
      have HPF := Lib.hid (And.intro hpop hfst)
      have hxt1 : ¬ (now : Int) < xt := by omega
      clear hdc hdr hdr' hcd hkd hpop hfst hxt hid
      go_wp2_with fail
      refine (First_any Aq nq cq eq M wr HQ.out.1.1 (by omega) hcq HQ.out.2.1).mono ?_
      rintro e w4 ⟨hb4, v4, he4, hv4⟩
      rw [HQ.out.1.2, HPF.out.2] at he4 hv4
      subst he4
      dsimp only at hv4 ⊢
      obtain ⟨A4, c4, rfl, hr4⟩ := hv4.val
      dsimp only at hr4
      unfold evC
      dsimp only
      have hs4 := hb4.size
      have hbx : Below wr.heap.size wr (w4.alloc (.cells #[.int .i64 xt, .int .i64 xn, .int .i64 xk, .int .i64 xo, .slice A4 xp.length c4] 32)) := hb4.alloc hb4.size _
      have gx := Blk.new w4 32 #[.int .i64 xt, .int .i64 xn, .int .i64 xk, .int .i64 xo, .slice A4 xp.length c4]
      have hsx : w4.heap.size + 1 ≤ (w4.alloc (.cells #[.int .i64 xt, .int .i64 xn, .int .i64 xk, .int .i64 xo, .slice A4 xp.length c4] 32)).heap.size := by simp
      have hrx := hr4.up ((Below.refl _ w4).alloc (Nat.le_refl _) (.cells #[.int .i64 xt, .int .i64 xn, .int .i64 xk, .int .i64 xo, .slice A4 xp.length c4] 32))
      have gq4 := HQ.out.2.2.1.below hbx hlq
      have H4 := Lib.hid (And.intro hbx (And.intro gx (And.intro hrx gq4)))
      clear hb4 hv4 hr4 hbx gx hrx gq4 q0 q1
      go_upto_region 9 with fail
      generalize (w4.alloc (.cells #[.int .i64 xt, .int .i64 xn, .int .i64 xk, .int .i64 xo, .slice A4 xp.length c4] 32)) = V4 at *
      have q0 : V4.cell? ⟨w2.heap.size, 0, none⟩ = some (.slice Aq nq cq) := H4.out.2.2.2.cell 0
      have q1 : V4.cell? ⟨w2.heap.size, 1, none⟩ = some (.int .i64 (M : Nat)) := H4.out.2.2.2.cell 1
      go_wp2_with fail
      refine (Pop_any Aq nq cq eq M V4 (HQ.out.1.1.up H4.out.1) (by omega) hcq HQ.out.2.1).mono ?_
      rintro e w5 ⟨hb5, v5, y5, he5, hv5, hy5⟩
      rw [HQ.out.1.2, HPF.out.1] at he5 hv5 hy5
      subst he5
      dsimp only at hv5 hy5 ⊢
      obtain ⟨A5, c5, es5, rfl, hE5, hm5, hc5⟩ := hv5.val
      obtain ⟨B5, d5, rfl, hr5⟩ := hy5.val
      dsimp only at hr5
      unfold evC
      dsimp only
      obtain ⟨n5, hn5⟩ : ∃ N, es5.length = N := ⟨_, rfl⟩
      rw [hn5] at hE5 hc5 ⊢
      have hs5 := hb5.size
      have hby : Below w5.heap.size w5 ((w5.alloc (.cells #[.slice A5 n5 c5, .int .i64 (M : Nat)] 24)).alloc (.cells #[.int .i64 xt, .int .i64 xn, .int .i64 xk, .int .i64 xo, .slice B5 xp.length d5] 32)) := ((Below.refl _ w5).alloc (Nat.le_refl _) _).alloc (by simp) _
      have hb45 : Below V4.heap.size V4 ((w5.alloc (.cells #[.slice A5 n5 c5, .int .i64 (M : Nat)] 24)).alloc (.cells #[.int .i64 xt, .int .i64 xn, .int .i64 xk, .int .i64 xo, .slice B5 xp.length d5] 32)) := hb5.trans (hby.mono hb5.size)
      have gq5 : Blk ((w5.alloc (.cells #[.slice A5 n5 c5, .int .i64 (M : Nat)] 24)).alloc (.cells #[.int .i64 xt, .int .i64 xn, .int .i64 xk, .int .i64 xo, .slice B5 xp.length d5] 32)) w5.heap.size 24 #[.slice A5 n5 c5, .int .i64 (M : Nat)] := (Blk.new w5 24 #[.slice A5 n5 c5, .int .i64 (M : Nat)]).alloc _
      have gy5 := Blk.new (w5.alloc (.cells #[.slice A5 n5 c5, .int .i64 (M : Nat)] 24)) 32 #[.int .i64 xt, .int .i64 xn, .int .i64 xk, .int .i64 xo, .slice B5 xp.length d5]
      rw [World.size_alloc] at gy5
      have hsy : w5.heap.size + 2 ≤ ((w5.alloc (.cells #[.slice A5 n5 c5, .int .i64 (M : Nat)] 24)).alloc (.cells #[.int .i64 xt, .int .i64 xn, .int .i64 xk, .int .i64 xo, .slice B5 xp.length d5] 32)).heap.size := by simp
      have hbw5 : Below wr.heap.size wr ((w5.alloc (.cells #[.slice A5 n5 c5, .int .i64 (M : Nat)] 24)).alloc (.cells #[.int .i64 xt, .int .i64 xn, .int .i64 xk, .int .i64 xo, .slice B5 xp.length d5] 32)) := H4.out.1.trans (hb45.mono H4.out.1.size)
      have H5 := Lib.hid (And.intro hbw5 (And.intro (And.intro gq5 gy5) (And.intro (H4.out.2.1.below hb45 (by omega)) (And.intro (And.intro (H4.out.2.2.1.up hb45) (hr5.up hby)) (And.intro (hE5.up hby) (And.intro hm5 (And.intro (H4.out.2.2.2.below hb45 (by omega)) (HD.out.2.up hbw5))))))))
      clear hb5 hv5 hy5 hE5 hr5 hm5 hn5 hby hb45 gq5 gy5 hbw5 q0 q1
      go_upto_region 10 with fail
      generalize ((w5.alloc (.cells #[.slice A5 n5 c5, .int .i64 (M : Nat)] 24)).alloc (.cells #[.int .i64 xt, .int .i64 xn, .int .i64 xk, .int .i64 xo, .slice B5 xp.length d5] 32)) = V5 at *
      have hse := H5.out.1.size
      have x0 : V5.cell? ⟨w4.heap.size, 0, none⟩ = some (.int .i64 xt) := H5.out.2.2.1.cell 0
      have x1 : V5.cell? ⟨w4.heap.size, 1, none⟩ = some (.int .i64 xn) := H5.out.2.2.1.cell 1
      have x2 : V5.cell? ⟨w4.heap.size, 2, none⟩ = some (.int .i64 xk) := H5.out.2.2.1.cell 2
      have x3 : V5.cell? ⟨w4.heap.size, 3, none⟩ = some (.int .i64 xo) := H5.out.2.2.1.cell 3
      have x4 : V5.cell? ⟨w4.heap.size, 4, none⟩ = some (.slice A4 xp.length c4) := H5.out.2.2.1.cell 4
      have y0 : V5.cell? ⟨w5.heap.size + 1, 0, none⟩ = some (.int .i64 xt) := H5.out.2.1.2.cell 0
      have y1 : V5.cell? ⟨w5.heap.size + 1, 1, none⟩ = some (.int .i64 xn) := H5.out.2.1.2.cell 1
      have y2 : V5.cell? ⟨w5.heap.size + 1, 2, none⟩ = some (.int .i64 xk) := H5.out.2.1.2.cell 2
      have y3 : V5.cell? ⟨w5.heap.size + 1, 3, none⟩ = some (.int .i64 xo) := H5.out.2.1.2.cell 3
      have y4 : V5.cell? ⟨w5.heap.size + 1, 4, none⟩ = some (.slice B5 xp.length d5) := H5.out.2.1.2.cell 4
      have z0 := (H5.out.1.cell (p := ⟨bd, od + i * 5, none⟩) hbd).trans HD.out.1.1
      have z1 := (H5.out.1.cell (p := ⟨bd, od + i * 5 + 1, none⟩) hbd).trans HD.out.1.2.1
      have z2 := (H5.out.1.cell (p := ⟨bd, od + i * 5 + 2, none⟩) hbd).trans HD.out.1.2.2.1
      have z3 := (H5.out.1.cell (p := ⟨bd, od + i * 5 + 3, none⟩) hbd).trans HD.out.1.2.2.2.1
      have z4 := (H5.out.1.cell (p := ⟨bd, od + i * 5 + 4, none⟩) hbd).trans HD.out.1.2.2.2.2
      have lx : w4.heap.size < V5.heap.size := by omega
      have ly : w5.heap.size + 1 < V5.heap.size := by omega
      have lz : bd < V5.heap.size := by omega
      have hkc : k ≤ 30 := hk30
      have HXC := Lib.hid (And.intro x0 (And.intro x1 (And.intro x2 (And.intro x3 (And.intro x4 (And.intro y0 (And.intro y1 (And.intro y2 (And.intro y3 (And.intro y4 (And.intro z0 (And.intro z1 (And.intro z2 (And.intro z3 (And.intro z4 (And.intro lx (And.intro ly lz)))))))))))))))))
      clear x0 x1 x2 x3 x4 y0 y1 y2 y3 y4 z0 z1 z2 z3 z4 lx ly lz hse HI hI1 HPF HD
      have kw : IntKind.i64.wrap (now : Int) = (now : Int) := IntWalk.i64_in _ (by omega)
      have kd : decide ((now : Int) < xt) = false := decide_eq_false (by omega)
      have HC1 : Hid (∀ W, Below V5.heap.size V5 W → ∀ (B : Option Addr) (d : Nat), (B = B5 ∧ d = d5) ∨ (B = xA ∧ d = xc) → Calls Try.prog 21 #[.agg (evC xt xn xk xo A4 xp.length c4), .agg (evC xt xn xk xo B xp.length d)] W fun e w' => e = .returned (.bool true) ∧ Below W.heap.size W w') := by
        rintro W hW B d (⟨rfl, rfl⟩ | ⟨rfl, rfl⟩)
        · exact SameEvent_true xt xn xk xo c4 _ A4 _ xp W (H5.out.2.2.2.1.1.up hW) (H5.out.2.2.2.1.2.up hW)
        · exact SameEvent_true xt xn xk xo c4 _ A4 _ xp W (H5.out.2.2.2.1.1.up hW) (H5.out.2.2.2.2.2.2.2.up hW)
      unfold evC at HC1
      go_region_held3 (fun W => W.cell? ⟨w4.heap.size, 0, none⟩ = some (.int .i64 xt) ∧ W.cell? ⟨w4.heap.size, 1, none⟩ = some (.int .i64 xn) ∧ W.cell? ⟨w4.heap.size, 2, none⟩ = some (.int .i64 xk) ∧ W.cell? ⟨w4.heap.size, 3, none⟩ = some (.int .i64 xo) ∧ W.cell? ⟨w4.heap.size, 4, none⟩ = some (.slice A4 xp.length c4) ∧ W.cell? ⟨w5.heap.size + 1, 0, none⟩ = some (.int .i64 xt) ∧ W.cell? ⟨w5.heap.size + 1, 1, none⟩ = some (.int .i64 xn) ∧ W.cell? ⟨w5.heap.size + 1, 2, none⟩ = some (.int .i64 xk) ∧ W.cell? ⟨w5.heap.size + 1, 3, none⟩ = some (.int .i64 xo) ∧ W.cell? ⟨w5.heap.size + 1, 4, none⟩ = some (.slice B5 xp.length d5) ∧ W.cell? ⟨bd, od + i * 5, none⟩ = some (.int .i64 xt) ∧ W.cell? ⟨bd, od + i * 5 + 1, none⟩ = some (.int .i64 xn) ∧ W.cell? ⟨bd, od + i * 5 + 2, none⟩ = some (.int .i64 xk) ∧ W.cell? ⟨bd, od + i * 5 + 3, none⟩ = some (.int .i64 xo) ∧ W.cell? ⟨bd, od + i * 5 + 4, none⟩ = some (.slice xA xp.length xc) ∧ Below V5.heap.size V5 W)
        (first
          | exact ex_cells ((Below.refl _ V5).drew) HXC.out
          | (go_split_ands; refine ex_cells (below_step ?_ hb') HXC.out; assumption)
          | (go_split_ands; refine ex_cells ?_ HXC.out; assumption))
        (first
          | (go_at_call 21; refine (HC1.out _ (by go_split_ands; first | assumption | exact Below.drew (by assumption)) _ _ (by first | exact .inl ⟨rfl, rfl⟩ | exact .inr ⟨rfl, rfl⟩)).mono ?_; rintro e w' ⟨rfl, hb'⟩))
      rename_i hS
      go_split_ands
      have hbf : Below V5.heap.size V5 w' := by assumption
      have hsf := hbf.size
      have hse := H5.out.1.size
      have gQ := H5.out.2.2.2.2.2.2.1.below hbf (by omega)
      have gN := H5.out.2.1.1.below hbf (by omega)
      have n0 : w'.cell? ⟨w5.heap.size, 0, none⟩ = some (.slice A5 n5 c5) := gN.cell 0
      have n1 : w'.cell? ⟨w5.heap.size, 1, none⟩ = some (.int .i64 (M : Nat)) := gN.cell 1
      have hbw := H5.out.1.trans (hbf.mono H5.out.1.size)
      have HF := Lib.hid (And.intro gQ (And.intro hbf hbw))
      clear gQ gN hbf hbw
      go_wp2_with (refine wpList_store_row rfl _ _ _ rfl w2.heap.size _ rfl rfl 24 _ HF.out.1 (by kernel_rfl) rfl (by simp [Value.oneCell']) ?_)
      go_roundw
      case rel =>
        exact ⟨i + 1, by omega, by go_num, ⟨A5, n5, c5, es5, HF.out.1.setRow _, (H5.out.2.2.2.2.1.up HF.out.2.1).row_q HF.out.1 _, H5.out.2.2.2.2.2.1, hc5⟩, (HQ.out.2.2.2.1.below HF.out.2.2 hlp).row_far (by omega) _, (HQ.out.2.2.2.2.1.up HF.out.2.2).row_q HF.out.1 _, (HQ.out.2.2.2.2.2.1.up HF.out.2.2).row_q HF.out.1 _, below_setRow (HQ.out.2.2.2.2.2.2.trans (HF.out.2.2.mono HQ.out.2.2.2.2.2.2.size)) (by omega) _⟩
      case measure => simp [intOf]; omega
    · have hi1 : ¬ (i : Int) < k := by omega
      have hki : i = k := by omega
      have HKI := Lib.hid hki
      clear hki
      have hfir : (firstQ (L.drop i) M).2 = false ∨ (now : Int) < (firstQ (L.drop i) M).1.t := by
        unfold firstQ
        split
        · exact .inl rfl
        · have hg := HK.out.2.2.1
          rw [← HKI.out] at hg
          revert hg
          generalize L.drop i = R
          intro hg
          cases R with
          | nil => exact .inl rfl
          | cons e r => exact .inr (hg e (by simp))
      have hnN : es3.length = eq.length := by
        have h1 := congrArg List.length HQ.out.1.2
        have h2 := congrArg List.length HK.out.2.2.2.2
        rw [HKI.out] at h1
        rw [List.length_map] at h1 h2
        omega
      rw [HQ.out.2.2.2.2.1.count, HQ.out.1.1.count] at hnN
      have HSM : Hid (es3.map Ev.em = eq.map Ev.em) := by
        show _ = _
        rw [HQ.out.1.2, HK.out.2.2.2.2, HKI.out]
      subst hnN
      go_wp2_with fail
      refine (First_any Aq N cq eq M wr HQ.out.1.1 (by omega) hcq HQ.out.2.1).mono ?_
      rintro e w4 ⟨hb4, v4, he4, hv4⟩
      rw [HQ.out.1.2] at he4 hv4
      generalize firstQ (L.drop i) M = r at *
      obtain ⟨x, bb⟩ := r
      dsimp only at he4 hv4 hfir
      subst he4
      obtain ⟨A4, c4, rfl, hr4⟩ := hv4.val
      obtain ⟨xt, xn, xk, xo, xp⟩ := x
      dsimp only at hr4 hfir
      unfold evC
      dsimp only
      have hs4 := hb4.size
      have hbx : Below wr.heap.size wr (w4.alloc (.cells #[.int .i64 xt, .int .i64 xn, .int .i64 xk, .int .i64 xo, .slice A4 xp.length c4] 32)) := hb4.alloc hb4.size _
      have gx := Blk.new w4 32 #[.int .i64 xt, .int .i64 xn, .int .i64 xk, .int .i64 xo, .slice A4 xp.length c4]
      have hsx : w4.heap.size + 1 ≤ (w4.alloc (.cells #[.int .i64 xt, .int .i64 xn, .int .i64 xk, .int .i64 xo, .slice A4 xp.length c4] 32)).heap.size := by simp
      have H4 := Lib.hid (And.intro hbx gx)
      clear hb4 hv4 hr4 hbx gx q0 q1
      go_upto_region 14 with fail
      generalize (w4.alloc (.cells #[.int .i64 xt, .int .i64 xn, .int .i64 xk, .int .i64 xo, .slice A4 xp.length c4] 32)) = V4 at *
      go_wp2_with fail
      refine (awake_any V4).mono ?_
      rintro e w5 ⟨rfl, hb5⟩
      have hs5 := hb5.size
      have hbw5 : Below wr.heap.size wr w5 := H4.out.1.trans (hb5.mono H4.out.1.size)
      have gp5 := HQ.out.2.2.2.1.below hbw5 hlp
      have gq5 := HQ.out.2.2.1.below hbw5 hlq
      have gx5 := H4.out.2.below hb5 (by omega)
      have p0 : w5.cell? ⟨w3.heap.size, 0, none⟩ = some (.slice A3 N c3) := gp5.cell 0
      have p1 : w5.cell? ⟨w3.heap.size, 1, none⟩ = some (.int .i64 (M : Nat)) := gp5.cell 1
      have q0 : w5.cell? ⟨w2.heap.size, 0, none⟩ = some (.slice Aq N cq) := gq5.cell 0
      have q1 : w5.cell? ⟨w2.heap.size, 1, none⟩ = some (.int .i64 (M : Nat)) := gq5.cell 1
      have H5 := Lib.hid (And.intro hbw5 gx5)
      clear hb5 hbw5 gp5 gq5 gx5
      go_wp2_with fail
      refine (Same_true N c3 cq M A3 Aq es3 eq w5 (HQ.out.2.2.2.2.1.up H5.out.1) (HQ.out.1.1.up H5.out.1) (by omega) HSM.out).mono ?_
      rintro e w6 ⟨rfl, hb6⟩
      have hs6 := hb6.size
      have gx6 := H5.out.2.below hb6 (by omega)
      have x0 : w6.cell? ⟨w4.heap.size, 0, none⟩ = some (.int .i64 xt) := gx6.cell 0
      have H6 := Lib.hid (H5.out.1.trans (hb6.mono H5.out.1.size))
      clear hb6 gx6 p0 p1 q0 q1
      cases bb with
      | false =>
        clear hfir
        go_wp2_with fail
        go_ret
        exact ⟨by simp, HQ.out.2.2.2.2.2.2.trans (H6.out.mono HQ.out.2.2.2.2.2.2.size)⟩
      | true =>
        have hx1 : (now : Int) < xt := by simpa using hfir
        clear hfir
        go_wp2_with fail
        go_ret
        exact ⟨by simp, HQ.out.2.2.2.2.2.2.trans (H6.out.mono HQ.out.2.2.2.2.2.2.size)⟩
end Go.Proofs.Ytknedclejhiegaa
