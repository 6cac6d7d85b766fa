/- The walk of the law EventqueueCancels. No condition. -/
import Derived.Test.YtknedclejhiegaaLf
import Derived.Test.YtknedclejhiegaaLh
namespace Go.Proofs.Ytknedclejhiegaa
open Go.RowKit
theorem due_all {l : List Em} {nx now : Int} (h : OkP nx l) (ht : ∀ e ∈ l, e.t ≤ now) : dueQ l nx now = ([], l) := by
  obtain ⟨k, hk, h1, _, h3⟩ := due_ok (now := now) h
  have hd : l.drop k = [] := by
    rw [List.eq_nil_iff_forall_not_mem]
    intro e he
    have := h3 e he
    have := ht e (List.mem_of_mem_drop he)
    omega
  rw [h1, hd]
  have := List.take_append_drop k l
  rw [hd, List.append_nil] at this
  rw [this]
theorem ex_cells2 {X w' : World} {by_ bz oy oz : Nat} {vy0 vy1 vy2 vy3 vy4 vz0 vz1 vz2 vz3 vz4 : Value} (hb : Below X.heap.size X w') (h : X.cell? ⟨by_, oy, none⟩ = some vy0 ∧ X.cell? ⟨by_, oy + 1, none⟩ = some vy1 ∧ X.cell? ⟨by_, oy + 2, none⟩ = some vy2 ∧ X.cell? ⟨by_, oy + 3, none⟩ = some vy3 ∧ X.cell? ⟨by_, oy + 4, none⟩ = some vy4 ∧ X.cell? ⟨bz, oz, none⟩ = some vz0 ∧ X.cell? ⟨bz, oz + 1, none⟩ = some vz1 ∧ X.cell? ⟨bz, oz + 2, none⟩ = some vz2 ∧ X.cell? ⟨bz, oz + 3, none⟩ = some vz3 ∧ X.cell? ⟨bz, oz + 4, none⟩ = some vz4 ∧ by_ < X.heap.size ∧ bz < X.heap.size) :
    w'.cell? ⟨by_, oy, none⟩ = some vy0 ∧ w'.cell? ⟨by_, oy + 1, none⟩ = some vy1 ∧ w'.cell? ⟨by_, oy + 2, none⟩ = some vy2 ∧ w'.cell? ⟨by_, oy + 3, none⟩ = some vy3 ∧ w'.cell? ⟨by_, oy + 4, none⟩ = some vy4 ∧ w'.cell? ⟨bz, oz, none⟩ = some vz0 ∧ w'.cell? ⟨bz, oz + 1, none⟩ = some vz1 ∧ w'.cell? ⟨bz, oz + 2, none⟩ = some vz2 ∧ w'.cell? ⟨bz, oz + 3, none⟩ = some vz3 ∧ w'.cell? ⟨bz, oz + 4, none⟩ = some vz4 ∧ Below X.heap.size X w' := by
  obtain ⟨y0, y1, y2, y3, y4, z0, z1, z2, z3, z4, ly, lz⟩ := h
  exact ⟨(hb.cell (p := ⟨by_, oy, none⟩) ly).trans y0, (hb.cell (p := ⟨by_, oy + 1, none⟩) ly).trans y1, (hb.cell (p := ⟨by_, oy + 2, none⟩) ly).trans y2, (hb.cell (p := ⟨by_, oy + 3, none⟩) ly).trans y3, (hb.cell (p := ⟨by_, oy + 4, none⟩) ly).trans y4, (hb.cell (p := ⟨bz, oz, none⟩) lz).trans z0, (hb.cell (p := ⟨bz, oz + 1, none⟩) lz).trans z1, (hb.cell (p := ⟨bz, oz + 2, none⟩) lz).trans z2, (hb.cell (p := ⟨bz, oz + 3, none⟩) lz).trans z3, (hb.cell (p := ⟨bz, oz + 4, none⟩) lz).trans z4, hb⟩
theorem rest_at {L : List Em} {k i j : Nat} (hk : k < L.length) (h : (i < k ∧ j = i) ∨ (k < i ∧ j + 1 = i)) : (L.take k ++ L.drop (k + 1))[j]? = L[i]? := by
  rcases h with ⟨h1, rfl⟩ | ⟨h1, rfl⟩
  · rw [List.getElem?_append_left (by rw [List.length_take]; omega), List.getElem?_take_of_lt h1]
  · rw [List.getElem?_append_right (by rw [List.length_take]; omega), List.length_take, List.getElem?_drop]
    congr 1
    omega
set_option linter.unusedSimpArgs false in
set_option maxRecDepth 100000 in
set_option maxHeartbeats 16000000 in
theorem walkEventqueueCancels (w : World) (v0 v1 : Value) (h0 : Arg39 w v0) (h1 : Arg5 w v1) : Calls Try.prog 5 #[v0, v1] w fun e w' => e = .returned (.bool true) ∧ Below w.heap.size w w' := by
  obtain ⟨A, m, c, l, rfl, hR, hmc, hcm, hl⟩ := h0
  obtain ⟨now, rfl, hnow⟩ := h1
  have HX := Lib.hid (And.intro hR hl)
  clear hR hl
  unfold maxLen at hcm
  go_enter Try.func5, Try.ntmps5
  go_wp2_with fail
  refine (times_any A m c l w HX.out.1 (by unfold maxLen; omega) HX.out.2).mono ?_
  rintro e w1 ⟨hb1, A1, c1, rfl, hr1⟩
  have hok := added_ok l
  have htl := timesM_len l
  have h100 : ∀ t ∈ timesM l, t ≤ 100 := fun t ht => by have := timesM_ok l t ht; omega
  have H100 := Lib.hid h100
  clear h100
  have htb : ∀ t ∈ timesM l, 0 ≤ t ∧ t ≤ 1073741824 := fun t ht => by have := timesM_ok l t ht; omega
  generalize timesM l = ts at *
  obtain ⟨M, hM⟩ : ∃ M, ts.length = M := ⟨_, rfl⟩
  have HM := Lib.hid hM
  rw [hM] at htl hr1 hok ⊢
  have H1 := Lib.hid (And.intro hb1 (And.intro hr1 (And.intro hok htb)))
  have hs1 := hb1.size
  clear hb1 hr1 hok htb hM
  go_wp2_with fail
  refine (added_any A1 M c1 ts w1 H1.out.2.1 (by omega) H1.out.2.2.2).mono ?_
  rintro e w2 ⟨hb2, v2, he2, hv2⟩
  rw [HM.out] at hv2
  obtain ⟨L, hL⟩ : ∃ L, addM ts M = L := ⟨_, rfl⟩
  have HOK : Hid (OkP M L ∧ L.length = M) := by rw [← hL]; exact H1.out.2.2.1
  have HMem : Hid (∀ e ∈ L, ∃ j : Nat, j < M ∧ ts[j]? = some e.t ∧ e.n = (j : Int) ∧ e.k = (j : Int) ∧ e.p = []) := by rw [← hL]; exact addM_mem ts M
  have HHas : Hid (∀ j : Nat, j < M → ∃ e ∈ L, e.n = (j : Int)) := by rw [← hL]; exact addM_has ts M (by rw [HM.out]; exact Nat.le_refl _)
  rw [hL] at hv2
  clear hL
  obtain ⟨A2, c2, es2, rfl, hE2, hm2, hc2⟩ := hv2.val
  have hl2 : es2.length = M := by rw [← HOK.out.2, ← hm2, List.length_map]
  rw [hl2] at hE2 hc2 he2
  subst he2
  have hs2 := hb2.size
  have H2 := Lib.hid (And.intro (H1.out.1.trans (hb2.mono hs1)) (And.intro hE2 (And.intro hm2 (ok_body HOK.out.1 hm2))))
  clear hb2 hv2 hE2 hm2 hl2
  have hb2x : Below w2.heap.size w2 (w2.alloc (.cells #[.slice A2 M c2, .int .i64 (M : Nat)] 24)) := (Below.refl _ _).alloc (Nat.le_refl _) _
  have hs2x : w2.heap.size + 1 ≤ (w2.alloc (.cells #[.slice A2 M c2, .int .i64 (M : Nat)] 24)).heap.size := by simp
  have H2x := Lib.hid (And.intro hb2x (Blk.new w2 24 #[.slice A2 M c2, .int .i64 (M : Nat)]))
  clear hb2x
  go_upto_region 3 with fail
  generalize (w2.alloc (.cells #[.slice A2 M c2, .int .i64 (M : Nat)] 24)) = V2 at *
  by_cases hM0 : M = 0
  · have hm0 : (M : Int) = 0 := by omega
    go_wp2_with fail
    refine (awake_any _).mono ?_
    rintro e w3 ⟨rfl, hb3⟩
    go_wp2_with fail
    go_ret
    exact ⟨by simp, H2.out.1.trans ((H2x.out.1.trans (hb3.mono H2x.out.1.size)).mono H2.out.1.size)⟩
  · have hm0 : ¬ (M : Int) = 0 := by omega
    have hmp : (0 : Int) < M := by omega
    obtain ⟨n, hn⟩ : ∃ n, now % M = n := ⟨_, rfl⟩
    have hnM : n < M := by rw [← hn]; exact Nat.mod_lt _ (by omega)
    have hni : (now : Int) % (M : Int) = (n : Int) := by rw [← hn]; simp
    obtain ⟨k, hk, hkn, hc1, hc2', hok', hdis⟩ := cancel_ok HOK.out.1 (HHas.out n hnM)
    have HCN := Lib.hid (And.intro hkn (And.intro hc1 (And.intro hc2' (And.intro hok' hdis))))
    clear hkn hc1 hc2' hok' hdis hn
    have q0 : V2.cell? ⟨w2.heap.size, 0, none⟩ = some (.slice A2 M c2) := H2x.out.2.cell 0
    have q1 : V2.cell? ⟨w2.heap.size, 1, none⟩ = some (.int .i64 (M : Nat)) := H2x.out.2.cell 1
    have hRL : (L.take k ++ L.drop (k + 1)).length + 1 = M := by
      have := HOK.out.2
      rw [List.length_append, List.length_take, List.length_drop]
      omega
    have hd1 := due_all (now := 100) HOK.out.1 (fun e he => by
      obtain ⟨j, _, h2, _⟩ := HMem.out e he
      exact H100.out _ (List.mem_of_getElem? h2))
    have hd2 := due_all (now := 100) HCN.out.2.2.2.1 (fun e he => by
      have he' : e ∈ L := by
        rcases List.mem_append.1 he with h | h
        · exact List.mem_of_mem_take h
        · exact List.mem_of_mem_drop h
      obtain ⟨j, _, h2, _⟩ := HMem.out e he'
      exact H100.out _ (List.mem_of_getElem? h2))
    have HDU := Lib.hid (And.intro hd1 hd2)
    clear hd1 hd2
    generalize hRR : L.take k ++ L.drop (k + 1) = R at *
    have HRR := Lib.hid hRR
    clear hRR
    obtain ⟨N, hN⟩ : ∃ N, R.length = N := ⟨_, rfl⟩
    have HN := Lib.hid hN
    rw [hN] at hRL
    have hNM : (N : Int) = (M : Int) - 1 := by omega
    have HNM := Lib.hid hNM
    have hMN : N + 1 ≤ M := by omega
    have HRL := Lib.hid hRL
    clear hN hNM hRL
    go_wp2_with fail
    refine (Cancel_any A2 M c2 es2 M n V2 (H2.out.2.1.up H2x.out.1) (by omega) hc2 H2.out.2.2.2).mono ?_
    rintro e w3 ⟨hb3, v3, he3, hv3⟩
    rw [H2.out.2.2.1, HCN.out.2.1] at he3 hv3
    subst he3
    dsimp only at hv3 ⊢
    obtain ⟨A3, c3, es3, rfl, hE3, hm3, hc3⟩ := hv3.val
    have hl3 : es3.length = N := by rw [← HN.out, ← hm3, List.length_map]
    rw [hl3] at hE3 hc3 ⊢
    have hs3 := hb3.size
    have hbx : Below V2.heap.size V2 (w3.alloc (.cells #[.slice A3 N c3, .int .i64 (M : Nat)] 24)) := hb3.alloc hb3.size _
    have hsx : w3.heap.size + 1 ≤ (w3.alloc (.cells #[.slice A3 N c3, .int .i64 (M : Nat)] 24)).heap.size := by simp
    have gx := Blk.new w3 24 #[.slice A3 N c3, .int .i64 (M : Nat)]
    have H3 := Lib.hid (And.intro hbx (And.intro (H2x.out.2.below hbx (by omega)) (And.intro gx (And.intro (hE3.up ((Below.refl _ w3).alloc (Nat.le_refl _) (.cells #[.slice A3 N c3, .int .i64 (M : Nat)] 24))) (And.intro hm3 (ok_body HCN.out.2.2.2.1 hm3))))))
    clear hb3 hv3 hE3 hm3 hl3 hbx gx q0 q1
    go_upto_region 7 with fail
    generalize (w3.alloc (.cells #[.slice A3 N c3, .int .i64 (M : Nat)] 24)) = V3 at *
    have q0 : V3.cell? ⟨w3.heap.size, 0, none⟩ = some (.slice A3 N c3) := H3.out.2.2.1.cell 0
    have q1 : V3.cell? ⟨w3.heap.size, 1, none⟩ = some (.int .i64 (M : Nat)) := H3.out.2.2.1.cell 1
    go_wp2_with fail
    refine (Cancel_any A3 N c3 es3 M n V3 H3.out.2.2.2.1 (by omega) hc3 H3.out.2.2.2.2.2).mono ?_
    rintro e w4 ⟨hb4, v4, he4, hv4⟩
    rw [H3.out.2.2.2.2.1, HCN.out.2.2.1] at he4 hv4
    subst he4
    dsimp only at hv4 ⊢
    obtain ⟨A4, c4, es4, rfl, _, hm4, _⟩ := hv4.val
    have hl4 : es4.length = N := by rw [← HN.out, ← hm4, List.length_map]
    rw [hl4]
    have hs4 := hb4.size
    have hby : Below V3.heap.size V3 (w4.alloc (.cells #[.slice A4 N c4, .int .i64 (M : Nat)] 24)) := hb4.alloc hb4.size _
    have hsy : w4.heap.size + 1 ≤ (w4.alloc (.cells #[.slice A4 N c4, .int .i64 (M : Nat)] 24)).heap.size := by simp
    have H4 := Lib.hid (And.intro hby (And.intro (H3.out.2.1.below hby (by omega)) (H3.out.2.2.1.below hby (by omega))))
    clear hb4 hv4 hm4 hl4 hby q0 q1
    go_upto_region 8 with fail
    generalize (w4.alloc (.cells #[.slice A4 N c4, .int .i64 (M : Nat)] 24)) = V4 at *
    have q0 : V4.cell? ⟨w2.heap.size, 0, none⟩ = some (.slice A2 M c2) := H4.out.2.1.cell 0
    have q1 : V4.cell? ⟨w2.heap.size, 1, none⟩ = some (.int .i64 (M : Nat)) := H4.out.2.1.cell 1
    have p0 : V4.cell? ⟨w3.heap.size, 0, none⟩ = some (.slice A3 N c3) := H4.out.2.2.cell 0
    have hNM := HNM.out
    go_upto_region 10 with fail
    clear hNM
    go_wp2_with fail
    refine (Due_any A2 M c2 es2 M 100 V4 (H2.out.2.1.up (H2x.out.1.trans ((H3.out.1.trans (H4.out.1.mono H3.out.1.size)).mono H2x.out.1.size))) (by omega) hc2 H2.out.2.2.2).mono ?_
    rintro e w5 ⟨hb5, v5, Ad, cd, ds, he5, hv5, hD5, hd5⟩
    rw [H2.out.2.2.1, HDU.out.1] at hv5 hd5
    dsimp only at hv5 hd5
    obtain ⟨A5, c5, es5, rfl, _, hm5, _⟩ := hv5.val
    have hl5 : es5.length = 0 := by have h := congrArg List.length hm5; simpa using h
    have hld : ds.length = M := by rw [← HOK.out.2, ← hd5, List.length_map]
    rw [hl5, hld] at he5
    rw [hld] at hD5
    subst he5
    have hs5 := hb5.size
    have hbu : Below V4.heap.size V4 (w5.alloc (.cells #[.slice A5 0 c5, .int .i64 (M : Nat)] 24)) := hb5.alloc hb5.size _
    have hsu : w5.heap.size + 1 ≤ (w5.alloc (.cells #[.slice A5 0 c5, .int .i64 (M : Nat)] 24)).heap.size := by simp
    have H5 := Lib.hid (And.intro hbu (And.intro (H4.out.2.2.below hbu (by omega)) (And.intro (hD5.up ((Below.refl _ w5).alloc (Nat.le_refl _) (.cells #[.slice A5 0 c5, .int .i64 (M : Nat)] 24))) hd5)))
    clear hb5 hv5 hm5 hl5 hld hD5 hd5 hbu q0 q1 p0
    go_upto_region 11 with fail
    generalize (w5.alloc (.cells #[.slice A5 0 c5, .int .i64 (M : Nat)] 24)) = V5 at *
    have p0 : V5.cell? ⟨w3.heap.size, 0, none⟩ = some (.slice A3 N c3) := H5.out.2.1.cell 0
    have p1 : V5.cell? ⟨w3.heap.size, 1, none⟩ = some (.int .i64 (M : Nat)) := H5.out.2.1.cell 1
    go_wp2_with fail
    refine (Due_any A3 N c3 es3 M 100 V5 (H3.out.2.2.2.1.up (H4.out.1.trans (H5.out.1.mono H4.out.1.size))) (by omega) hc3 H3.out.2.2.2.2.2).mono ?_
    rintro e w6 ⟨hb6, v6, Ar, cr, rs, he6, hv6, hD6, hd6⟩
    rw [H3.out.2.2.2.2.1, HDU.out.2] at hv6 hd6
    dsimp only at hv6 hd6
    obtain ⟨A6, c6, es6, rfl, _, hm6, _⟩ := hv6.val
    have hl6 : es6.length = 0 := by have h := congrArg List.length hm6; simpa using h
    have hlr : rs.length = N := by rw [← HN.out, ← hd6, List.length_map]
    rw [hl6, hlr] at he6
    rw [hlr] at hD6
    subst he6
    have hs6 := hb6.size
    have hbv : Below V5.heap.size V5 (w6.alloc (.cells #[.slice A6 0 c6, .int .i64 (M : Nat)] 24)) := hb6.alloc hb6.size _
    have hsv : w6.heap.size + 1 ≤ (w6.alloc (.cells #[.slice A6 0 c6, .int .i64 (M : Nat)] 24)).heap.size := by simp
    have hbw6 : Below w.heap.size w (w6.alloc (.cells #[.slice A6 0 c6, .int .i64 (M : Nat)] 24)) := H2.out.1.trans ((H2x.out.1.trans ((H3.out.1.trans ((H4.out.1.trans ((H5.out.1.trans (hbv.mono H5.out.1.size)).mono H4.out.1.size)).mono H3.out.1.size)).mono H2x.out.1.size)).mono H2.out.1.size)
    have H6 := Lib.hid (And.intro hbw6 (And.intro (H5.out.2.2.1.up hbv) (And.intro H5.out.2.2.2 (And.intro (hD6.up ((Below.refl _ w6).alloc (Nat.le_refl _) (.cells #[.slice A6 0 c6, .int .i64 (M : Nat)] 24))) hd6))))
    clear hb6 hv6 hm6 hl6 hlr hD6 hd6 hbv hbw6 p0 p1
    go_upto_region 12 with fail
    generalize (w6.alloc (.cells #[.slice A6 0 c6, .int .i64 (M : Nat)] 24)) = V6 at *
    clear hni
    have hkM : k < M := by have := HOK.out.2; omega
    go_wp2_with fail
    go_loopw [17, 18] (fun u17 u18 W => ∃ i j : Nat, i ≤ M ∧ u18 = .int .i64 (i : Nat) ∧ u17 = .int .i64 (j : Nat) ∧ ((i ≤ k ∧ j = i) ∨ (k < i ∧ j + 1 = i)) ∧ Below V6.heap.size V6 W) (fun _ u18 _ => M + 1 - (intOf u18).toNat)
    case atStart => exact ⟨0, 0, by omega, rfl, rfl, .inl ⟨by omega, rfl⟩, Below.refl _ _⟩
    case round =>
      obtain ⟨i, j, hi, rfl, rfl, hij, hbl⟩ := hrel
      have HB := Lib.hid hbl
      clear hbl
      by_cases hiM : i < M
      · have hi1 : (i : Int) < M := by omega
        have hi0 : (0 : Int) ≤ i := by omega
        have hiL : i < L.length := by have := HOK.out.2; omega
        have hid : i < ds.length := by have := H6.out.2.1.count; omega
        have hdi : ds[i].em = L[i] := by
          have h := congrArg (fun x => x[i]?) H6.out.2.2.1
          simpa [List.getElem?_eq_getElem hiL, List.getElem?_eq_getElem hid] using h
        obtain ⟨bd, od, rfl, hbd, hcd⟩ := H6.out.2.1.cells (by omega)
        have hdc := hcd i _ (List.getElem?_eq_getElem hid)
        have hdr := H6.out.2.1.ev _ (List.getElem_mem hid)
        have hsV := HB.out.size
        have hbd1 : bd < wr.heap.size := by omega
        have hrj : i ≠ k → R[j]? = L[i]? := fun h => by rw [← HRR.out]; exact rest_at hk (by omega)
        have hnum : i ≠ k → L[i].n ≠ (n : Int) := fun h => HCN.out.2.2.2.2 i hiL h
        have hnumk : i = k → L[i].n = (n : Int) := fun h => by subst h; exact HCN.out.1
        rw [List.getElem?_eq_getElem hiL] at hrj
        generalize L[i] = x at *
        generalize ds[i] = y at *
        subst hdi
        obtain ⟨xt, xn, xk, xo, xA, xc, xp⟩ := y
        simp only [Ev.em] at hrj hnum hnumk hdc
        have hdr' : Reads V6 V6.heap.size 1 xA xp.length (u8s xp) := hdr
        have HD := Lib.hid (And.intro hdc hdr')
        have HRJ := Lib.hid hrj
        clear hdc hdr hdr' hcd hid hrj
        have z0 := (HB.out.cell (p := ⟨bd, od + i * 5, none⟩) hbd).trans HD.out.1.1
        have z1 := (HB.out.cell (p := ⟨bd, od + i * 5 + 1, none⟩) hbd).trans HD.out.1.2.1
        have z2 := (HB.out.cell (p := ⟨bd, od + i * 5 + 2, none⟩) hbd).trans HD.out.1.2.2.1
        have z3 := (HB.out.cell (p := ⟨bd, od + i * 5 + 3, none⟩) hbd).trans HD.out.1.2.2.2.1
        have z4 := (HB.out.cell (p := ⟨bd, od + i * 5 + 4, none⟩) hbd).trans HD.out.1.2.2.2.2
        by_cases hik : i = k
        · have hxn := hnumk hik
          clear hnum hnumk
          subst hxn
          have HIK := Lib.hid hik
          clear hik
          go_wp2_with fail
          go_roundw
          case rel => exact ⟨i + 1, j, by omega, by go_num, rfl, by have := HIK.out; omega, HB.out⟩
          case measure => simp [intOf]; omega
        · have hne : ¬ xn = (n : Int) := hnum hik
          clear hnum hnumk
          have hjN : j < N := by have := HRL.out; omega
          have hj1 : (j : Int) < N := by omega
          have hj0 : (0 : Int) ≤ j := by omega
          have hjr : j < rs.length := by have := H6.out.2.2.2.1.count; omega
          have hrd : rs[j].em = ⟨xt, xn, xk, xo, xp⟩ := by
            have h := congrArg (fun x => x[j]?) H6.out.2.2.2.2
            have h2 := HRJ.out hik
            simp only [List.getElem?_map, List.getElem?_eq_getElem hjr, Option.map_some] at h
            rw [h2] at h
            exact Option.some.inj h
          obtain ⟨br, or_, rfl, hbr, hcr⟩ := H6.out.2.2.2.1.cells (by omega)
          have hrc := hcr j _ (List.getElem?_eq_getElem hjr)
          have hrr := H6.out.2.2.2.1.ev _ (List.getElem_mem hjr)
          generalize rs[j] = y at *
          obtain ⟨yt, yn, yk, yo, yA, yc, yp⟩ := y
          simp only [Ev.em, Em.mk.injEq] at hrd
          obtain ⟨rfl, rfl, rfl, rfl, rfl⟩ := hrd
          have hrr' : Reads V6 V6.heap.size 1 yA yp.length (u8s yp) := hrr
          have HR := Lib.hid (And.intro hrc hrr')
          have hbr1 : br < wr.heap.size := by omega
          clear hrc hrr hrr' hcr hjr
          dsimp only at HR
          have y0 := (HB.out.cell (p := ⟨br, or_ + j * 5, none⟩) hbr).trans HR.out.1.1
          have y1 := (HB.out.cell (p := ⟨br, or_ + j * 5 + 1, none⟩) hbr).trans HR.out.1.2.1
          have y2 := (HB.out.cell (p := ⟨br, or_ + j * 5 + 2, none⟩) hbr).trans HR.out.1.2.2.1
          have y3 := (HB.out.cell (p := ⟨br, or_ + j * 5 + 3, none⟩) hbr).trans HR.out.1.2.2.2.1
          have y4 := (HB.out.cell (p := ⟨br, or_ + j * 5 + 4, none⟩) hbr).trans HR.out.1.2.2.2.2
          go_upto_region 17 with fail
          have kd : decide ((N : Int) ≤ (j : Int)) = false := decide_eq_false (by omega)
          have kd2 : decide (N ≤ j) = false := decide_eq_false (by omega)
          have lz : bd < wr.heap.size := hbd1
          have ly : br < wr.heap.size := hbr1
          have HXC := Lib.hid (And.intro z0 (And.intro z1 (And.intro z2 (And.intro z3 (And.intro z4 (And.intro y0 (And.intro y1 (And.intro y2 (And.intro y3 (And.intro y4 (And.intro lz ly)))))))))))
          clear z0 z1 z2 z3 z4 y0 y1 y2 y3 y4 lz ly
          have HIK : Hid (i ≠ k) := hik
          have HIJ : Hid ((i < k ∧ j = i) ∨ (k < i ∧ j + 1 = i)) := by show _ ∨ _; omega
          clear hij hik HRJ
          have HC1 : Hid (∀ W, Below wr.heap.size wr W → Calls Try.prog 21 #[.agg (evC yt yn yk yo xA yp.length xc), .agg (evC yt yn yk yo yA yp.length yc)] W fun e w' => e = .returned (.bool true) ∧ Below W.heap.size W w') := fun W hW => SameEvent_true yt yn yk yo xc yc xA yA yp W (HD.out.2.up (HB.out.trans (hW.mono HB.out.size))) (HR.out.2.up (HB.out.trans (hW.mono HB.out.size)))
          unfold evC at HC1
          have HB6 : Hid (Below V6.heap.size V6 wr) := HB.out
          go_region_held3 (fun W => W.cell? ⟨bd, od + i * 5, none⟩ = some (.int .i64 yt) ∧ W.cell? ⟨bd, od + i * 5 + 1, none⟩ = some (.int .i64 yn) ∧ W.cell? ⟨bd, od + i * 5 + 2, none⟩ = some (.int .i64 yk) ∧ W.cell? ⟨bd, od + i * 5 + 3, none⟩ = some (.int .i64 yo) ∧ W.cell? ⟨bd, od + i * 5 + 4, none⟩ = some (.slice xA yp.length xc) ∧ W.cell? ⟨br, or_ + j * 5, none⟩ = some (.int .i64 yt) ∧ W.cell? ⟨br, or_ + j * 5 + 1, none⟩ = some (.int .i64 yn) ∧ W.cell? ⟨br, or_ + j * 5 + 2, none⟩ = some (.int .i64 yk) ∧ W.cell? ⟨br, or_ + j * 5 + 3, none⟩ = some (.int .i64 yo) ∧ W.cell? ⟨br, or_ + j * 5 + 4, none⟩ = some (.slice yA yp.length yc) ∧ Below wr.heap.size wr W)
            (first
              | exact ex_cells2 ((Below.refl _ wr).drew) HXC.out
              | (go_split_ands; refine ex_cells2 (below_step ?_ hb') HXC.out; assumption)
              | (go_split_ands; refine ex_cells2 ?_ HXC.out; assumption))
            (first
              | (go_at_call 21; refine (HC1.out _ (by go_split_ands; first | assumption | exact Below.drew (by assumption))).mono ?_; rintro e w' ⟨rfl, hb'⟩))
          rename_i hS
          go_split_ands
          have hbf : Below wr.heap.size wr w' := by assumption
          have HBF := Lib.hid (HB6.out.trans (hbf.mono HB6.out.size))
          clear hbf
          go_wp2_with fail
          go_roundw
          case rel => exact ⟨i + 1, j + 1, by omega, by go_num, by go_num, by have := HIJ.out; omega, HBF.out⟩
          case measure => simp [intOf]; omega
      · have hi1 : ¬ (i : Int) < M := by omega
        have hiM2 : i = M := by omega
        have hjN : j = N := by have := HRL.out; omega
        subst hiM2 hjN
        clear hij
        go_wp2_with fail
        refine (awake_any _).mono ?_
        rintro e w7 ⟨rfl, hb7⟩
        have hNM := HNM.out
        go_wp2_with fail
        go_ret
        exact ⟨by simp, H6.out.1.trans ((HB.out.trans (hb7.mono HB.out.size)).mono H6.out.1.size)⟩
end Go.Proofs.Ytknedclejhiegaa
