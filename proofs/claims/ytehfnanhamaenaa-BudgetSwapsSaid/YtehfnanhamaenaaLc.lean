/- The walk of the law BudgetLimits. No condition. -/
import Derived.Test.YtehfnanhamaenaaLb
import Derived.Test.YtehfnanhamaenaaMathI
namespace Go.Proofs.Ytehfnanhamaenaa
open Go.RowKit
theorem below_step {X W w' : World} (h : Below X.heap.size X W) (hb : Below W.heap.size W w') : Below X.heap.size X w' := h.trans (hb.mono h.size)
theorem four_cells {B b0 o0 b1 o1 b2 o2 b3 o3 : Nat} {X w' : World} {v0 v1 v2 v3 : Value} (hB : Below B X w') (h0 : X.cell? ⟨b0, o0, none⟩ = some v0) (h1 : X.cell? ⟨b1, o1, none⟩ = some v1) (h2 : X.cell? ⟨b2, o2, none⟩ = some v2) (h3 : X.cell? ⟨b3, o3, none⟩ = some v3) (l0 : b0 < B) (l1 : b1 < B) (l2 : b2 < B) (l3 : b3 < B) :
    w'.cell? ⟨b0, o0, none⟩ = some v0 ∧ w'.cell? ⟨b1, o1, none⟩ = some v1 ∧ w'.cell? ⟨b2, o2, none⟩ = some v2 ∧ w'.cell? ⟨b3, o3, none⟩ = some v3 ∧ Below B X w' :=
  ⟨(hB.cell (p := ⟨b0, o0, none⟩) l0).trans h0, (hB.cell (p := ⟨b1, o1, none⟩) l1).trans h1, (hB.cell (p := ⟨b2, o2, none⟩) l2).trans h2, (hB.cell (p := ⟨b3, o3, none⟩) l3).trans h3, hB⟩
theorem mul_small {r d : Int} (h0 : 0 ≤ r) (h1 : r ≤ 19) (h2 : -105 ≤ d) (h3 : d ≤ 105) : -2000 ≤ r * d ∧ r * d ≤ 2000 := by
  obtain ⟨k, rfl⟩ : ∃ k : Nat, r = k := ⟨r.toNat, by omega⟩
  have hk : k ≤ 19 := by omega
  clear h0 h1
  have : k = 0 ∨ k = 1 ∨ k = 2 ∨ k = 3 ∨ k = 4 ∨ k = 5 ∨ k = 6 ∨ k = 7 ∨ k = 8 ∨ k = 9 ∨ k = 10 ∨ k = 11 ∨ k = 12 ∨ k = 13 ∨ k = 14 ∨ k = 15 ∨ k = 16 ∨ k = 17 ∨ k = 18 ∨ k = 19 := by omega
  rcases this with h | h | h | h | h | h | h | h | h | h | h | h | h | h | h | h | h | h | h | h <;> subst h <;> omega
theorem taken_cells {w : World} {A : Option Addr} {n : Nat} {l : List TK} (h : Reads w w.heap.size 3 A n (l.flatMap encT)) (hn : 0 < n) : ∃ b off, A = some ⟨b, off, none⟩ ∧ b < w.heap.size ∧
    ∀ k, k < n → w.cell? ⟨b, off + k * 3, none⟩ = some (.int .i64 (tAt l k).1) ∧ w.cell? ⟨b, off + k * 3 + 1, none⟩ = some (.int .i64 ((tAt l k).2.1 : Int)) ∧ w.cell? ⟨b, off + k * 3 + 2, none⟩ = some (.int .i64 (tAt l k).2.2) := by
  have hl := h.count encT_len (by omega)
  obtain ⟨b, off, e, hb, hc⟩ := h.elems3 encT_len hn
  refine ⟨b, off, e, hb, fun k hk => ?_⟩
  have e2 : tAt l k = l[k]'(by omega) := by unfold tAt; rw [List.getElem?_eq_getElem (by omega)]; rfl
  rw [e2]
  exact hc k (by omega) _ _ _ rfl
set_option maxRecDepth 100000 in
set_option maxHeartbeats 2000000 in
theorem walkBudgetLimits (w : World) (v0 v1 v2 : Value) (h0 : Arg47 w v0) (h1 : Arg48 w v1) (h2 : Arg49 w v2) : Calls Try.prog 7 #[v0, v1, v2] w fun e w' => e = .returned (.bool true) ∧ Below w.heap.size w w' := by
  obtain ⟨A, n, c, l, rfl, hR, hl, hnc, hcm⟩ := h0
  obtain ⟨B, m, d, us, rfl, hU, hu, hmd, hdm⟩ := h1
  obtain ⟨x0, x1, x2, rfl, hx0, hx1, hx2⟩ := h2
  have hB0 : Below w.heap.size w (w.alloc (.cells #[.int .u8 (x0 : Int), .int .u8 (x1 : Int), .int .u8 (x2 : Int)] 49)) := (Below.refl _ w).alloc (Nat.le_refl _) _
  have hn63 : n ≤ 9223372036854775807 := by unfold maxLen at hcm; omega
  have hm63 : m ≤ 9223372036854775807 := by unfold maxLen at hdm; omega
  have hlen : l.length = n := hR.count encP_len (by omega)
  have hlem : us.length = m := hU.count encU_len (by omega)
  by_cases c0 : n = 0 ∨ 8 < n ∨ m = 0 ∨ 20 < m
  · clear hlen hlem
    have C0 := Lib.hid c0
    have fin : ∀ (W1 : World), Below w.heap.size w W1 → True := fun _ _ => trivial
    clear fin
    rcases Nat.eq_zero_or_pos n with hn0 | hn0
    · subst hn0
      clear c0
      go_enter Try.func7, Try.ntmps7
      go_wp2_with fail
      refine (awake_any _).mono ?_
      rintro e w1 ⟨rfl, hb1⟩
      go_wp2_with fail
      go_ret
      exact ⟨rfl, hB0.trans (hb1.mono hB0.size)⟩
    · have k1 : ((n : Int) == 0) = false := by rw [beq_eq_false_iff_ne]; omega
      have k1' : ¬ (n : Int) = 0 := by omega
      by_cases hn8 : 8 < n
      · clear c0
        go_enter Try.func7, Try.ntmps7
        go_wp2_with fail
        refine (awake_any _).mono ?_
        rintro e w1 ⟨rfl, hb1⟩
        go_wp2_with fail
        go_ret
        exact ⟨rfl, hB0.trans (hb1.mono hB0.size)⟩
      · rcases Nat.eq_zero_or_pos m with hm0 | hm0
        · subst hm0
          clear c0
          go_enter Try.func7, Try.ntmps7
          go_wp2_with fail
          refine (awake_any _).mono ?_
          rintro e w1 ⟨rfl, hb1⟩
          go_wp2_with fail
          go_ret
          exact ⟨rfl, hB0.trans (hb1.mono hB0.size)⟩
        · have k2 : ((m : Int) == 0) = false := by rw [beq_eq_false_iff_ne]; omega
          have k2' : ¬ (m : Int) = 0 := by omega
          have hm20 : 20 < m := by omega
          clear c0
          go_enter Try.func7, Try.ntmps7
          go_wp2_with fail
          refine (awake_any _).mono ?_
          rintro e w1 ⟨rfl, hb1⟩
          go_wp2_with fail
          go_ret
          exact ⟨rfl, hB0.trans (hb1.mono hB0.size)⟩
  · have hn0 : 0 < n := by omega
    have hn8 : n ≤ 8 := by omega
    have hm0 : 0 < m := by omega
    have hm20 : m ≤ 20 := by omega
    have k1 : ((n : Int) == 0) = false := by rw [beq_eq_false_iff_ne]; omega
    have k1' : ¬ (n : Int) = 0 := by omega
    have k2 : ((m : Int) == 0) = false := by rw [beq_eq_false_iff_ne]; omega
    have k2' : ¬ (m : Int) = 0 := by omega
    clear c0
    have htk : us.take 20 = us := List.take_of_length_le (by omega)
    have HF := Lib.hid (fun A c B d w hR hU => used_fr l n A c B m d us w hlen hR hU hu hn8 hn0 hm63)
    rw [htk] at HF
    clear htk
    have HL := Lib.hid (And.intro hlen hlem)
    have HM := Lib.hid (fun q (hq : q < m) => takn_bd (l := l) (us := us) (q := q) (by omega) (by omega) (by omega) (by omega))
    have HT := Lib.hid (fun i k a (hik : i ≤ k) (hk : k < m) (ha : a < l.length) => lim_top (l := l) (us := us) (i := i) (k := k) (a := a) (by omega) (by omega) (by omega) hik (by omega) ha)
    have HSB := Lib.hid (fun i a q (ha : a < l.length) (hq : i + q ≤ m) => lim_sum_bd (l := l) (us := us) (i := i) (a := a) (by omega) (by omega) (by omega) ha q (by omega))
    clear hlen hlem
    go_enter Try.func7, Try.ntmps7
    go_wp2_with fail
    refine (built_fr _ _ _ l _ (hR.up hB0) hl (by omega)).mono ?_
    rintro e w1 ⟨⟨A1, c1, rfl, hR1⟩, hb1⟩
    have kx := (Blk.new w 49 #[.int .u8 (x0 : Int), .int .u8 (x1 : Int), .int .u8 (x2 : Int)]).below hb1 (by simp)
    have hz1 := kx.lt
    have hB1 := hB0.trans (hb1.mono hB0.size)
    have hWa : Below w1.heap.size w1 (w1.alloc (.cells #[.int .i64 0, .slice A1 n c1] 24)) := (Below.refl _ _).alloc (Nat.le_refl _) _
    have hBa := hB1.trans (hWa.mono hB1.size)
    go_wp2_with fail
    refine (HF.out A1 c1 B d _ (hR1.up hWa) (hU.up hBa)).mono ?_
    rintro e w2 ⟨⟨A2, c2, A3, c3, n3, rfl, hR2, hn3, hT3⟩, hb2⟩
    have hn3' : n3 = m := by rw [hn3]; exact HL.out.2
    subst hn3'
    clear hn3
    have kx2 := (kx.alloc (.cells #[.int .i64 0, .slice A1 n c1] 24)).below hb2 (by simp; omega)
    have hBb := hBa.trans (hb2.mono hBa.size)
    obtain ⟨b3, o3, rfl, hb3, hc3⟩ := taken_cells hT3 (by omega)
    have q0 : w2.cell? ⟨w.heap.size, 0, none⟩ = some (.int .u8 (x0 : Int)) := kx2.cell 0
    have q1 : w2.cell? ⟨w.heap.size, 1, none⟩ = some (.int .u8 (x1 : Int)) := kx2.cell 1
    have q2 : w2.cell? ⟨w.heap.size, 2, none⟩ = some (.int .u8 (x2 : Int)) := kx2.cell 2
    have hz2 := kx2.lt
    have HC := Lib.hid (And.intro hc3 (And.intro hT3 kx2))
    have e0 : IntKind.i64.wrap (x0 : Int) = x0 := IntWalk.i64_in _ (by omega)
    have e1 : IntKind.i64.wrap (x1 : Int) = x1 := IntWalk.i64_in _ (by omega)
    have e2 : IntKind.i64.wrap (x2 : Int) = x2 := IntWalk.i64_in _ (by omega)
    obtain ⟨i, hi⟩ : ∃ i, x0 % n3 = i := ⟨_, rfl⟩
    obtain ⟨k, hk⟩ : ∃ k, x1 % n3 = k := ⟨_, rfl⟩
    obtain ⟨a, ha⟩ : ∃ a, x2 % n = a := ⟨_, rfl⟩
    have hil : i < n3 := by rw [← hi]; exact Nat.mod_lt _ (by omega)
    have hkl : k < n3 := by rw [← hk]; exact Nat.mod_lt _ (by omega)
    have hal : a < n := by rw [← ha]; exact Nat.mod_lt _ (by omega)
    have d0 : (x0 : Int).tmod (n3 : Int) = i := by rw [Int.tmod_eq_emod_of_nonneg (by omega), ← hi]; rfl
    have d1 : (x1 : Int).tmod (n3 : Int) = k := by rw [Int.tmod_eq_emod_of_nonneg (by omega), ← hk]; rfl
    have d2 : (x2 : Int).tmod (n : Int) = a := by rw [Int.tmod_eq_emod_of_nonneg (by omega), ← ha]; rfl
    clear hi hk ha hc3 hT3 kx kx2
    by_cases hki : k < i
    · go_wp2_with fail
      go_quiet (fail)
      go_wp2_with fail
      have hX : Below w2.heap.size w2 ((w2.alloc (.cells #[.int .i64 (runS (0, startL l) us).1, .slice A2 n c2] 24)).drewN nq) := below_drewN ((Below.refl _ _).alloc (Nat.le_refl _) _) _
      have hBX := hBb.trans (hX.mono hBb.size)
      have hRX := hR.up hBX
      have hcX : ∀ k, k < n3 → ((w2.alloc (.cells #[.int .i64 (runS (0, startL l) us).1, .slice A2 n c2] 24)).drewN nq).cell? ⟨b3, o3 + k * 3, none⟩ = some (.int .i64 (takn l us k).1) ∧ ((w2.alloc (.cells #[.int .i64 (runS (0, startL l) us).1, .slice A2 n c2] 24)).drewN nq).cell? ⟨b3, o3 + k * 3 + 1, none⟩ = some (.int .i64 ((takn l us k).2.1 : Int)) ∧ ((w2.alloc (.cells #[.int .i64 (runS (0, startL l) us).1, .slice A2 n c2] 24)).drewN nq).cell? ⟨b3, o3 + k * 3 + 2, none⟩ = some (.int .i64 (takn l us k).2.2) := fun k hk => ⟨(hX.cell (p := ⟨b3, o3 + k * 3, none⟩) hb3).trans (HC.out.1 k hk).1, (hX.cell (p := ⟨b3, o3 + k * 3 + 1, none⟩) hb3).trans (HC.out.1 k hk).2.1, (hX.cell (p := ⟨b3, o3 + k * 3 + 2, none⟩) hb3).trans (HC.out.1 k hk).2.2⟩
      have hb3X : b3 < ((w2.alloc (.cells #[.int .i64 (runS (0, startL l) us).1, .slice A2 n c2] 24)).drewN nq).heap.size := Nat.lt_of_lt_of_le hb3 hX.size
      generalize ((w2.alloc (.cells #[.int .i64 (runS (0, startL l) us).1, .slice A2 n c2] 24)).drewN nq) = X at *
      have HCX := Lib.hid (And.intro hcX hRX)
      clear hcX hRX q0 q1 q2 hX
      go_loop [14, 15] (fun t j => ∃ q : Nat, k + q ≤ i + 1 ∧ j = .int .i64 ((k + q : Nat) : Int) ∧ t = .int .i64 (sumF (limF l us a) k q)) (fun _ j => i + 1 - (intOf j).toNat)
      case atStart => exact ⟨0, by omega, rfl, rfl⟩
      case round =>
        obtain ⟨q, hq, rfl, rfl⟩ := hrel
        by_cases hlt : k + q ≤ i
        · obtain ⟨y0, y1, y2⟩ := HCX.out.1 (k + q) (by omega)
          have hbd := HM.out (k + q) (by omega)
          have hsb := HSB.out k a q (by have := HL.out.1; omega) (by omega)
          have hsb2 := HSB.out k a (q + 1) (by have := HL.out.1; omega) (by omega)
          have hsum : sumF (limF l us a) k (q + 1) = sumF (limF l us a) k q + limF l us a (k + q) := rfl
          have hlim : limF l us a (k + q) = if a ∈ pathL (startL l) (takn l us (k + q)).2.1 then (takn l us (k + q)).2.2 else 0 := rfl
          have hbe := below_any A n c (takn l us (k + q)).2.1 a l X HCX.out.2 hl hn8 (by have := HL.out.1; omega) hal
          have hon : onP l (takn l us (k + q)).2.1 a = decide (a ∈ pathL (startL l) (takn l us (k + q)).2.1) := rfl
          have hjl : ((k + q : Nat) : Int) < n3 := by omega
          have hjh : ((k + q : Nat) : Int) ≤ i := by omega
          rw [hsum, hlim] at hsb2
          have HSUM := Lib.hid (hsum.trans (by rw [hlim]))
          clear hsum hlim
          generalize sumF (limF l us a) k q = tot at *
          generalize (takn l us (k + q)) = x at *
          obtain ⟨xt, xk, xn⟩ := x
          dsimp only at y0 y1 y2 hbd hbe hon hsb2 HSUM
          by_cases hmem : a ∈ pathL (startL l) xk
          · rw [hon, decide_eq_true hmem] at hbe
            rw [if_pos hmem] at hsb2 HSUM
            have HB := Lib.hid hbe
            clear hbe hon hmem
            generalize hj : k + q = j at *
            go_wp2_with fail
            refine HB.out.mono ?_
            rintro e w9 ⟨rfl, rfl⟩
            go_wp2_with fail
            go_round
            case rel => exact ⟨q + 1, by omega, by rw [← hj]; go_num, by rw [HSUM.out]⟩
            case measure => simp [intOf]; omega
          · rw [hon, decide_eq_false hmem] at hbe
            rw [if_neg hmem, Int.add_zero] at hsb2 HSUM
            have HB := Lib.hid hbe
            clear hbe hon hmem
            generalize hj : k + q = j at *
            go_wp2_with fail
            refine HB.out.mono ?_
            rintro e w9 ⟨rfl, rfl⟩
            go_wp2_with fail
            go_round
            case rel => exact ⟨q + 1, by omega, by rw [← hj]; go_num, by rw [HSUM.out]⟩
            case measure => simp [intOf]; omega
        · have hq1 : q = i - k + 1 := by omega
          have htop := HT.out k i a (by omega) (by omega) (by have := HL.out.1; omega)
          rw [← hq1] at htop
          have hsb := HSB.out k a q (by have := HL.out.1; omega) (by omega)
          obtain ⟨y0, _, _⟩ := HCX.out.1 k (by omega)
          obtain ⟨z0, _, _⟩ := HCX.out.1 i (by omega)
          have bd1 := HM.out k (by omega)
          have bd2 := HM.out i (by omega)
          obtain ⟨bp, op, rfl, hbp, hcp⟩ := HCX.out.2.elems3 encP_len (by omega)
          have hal' : a < l.length := by have := HL.out.1; omega
          obtain ⟨_, r1, r2⟩ := hcp a hal' _ _ _ rfl
          obtain ⟨_, p1, p2⟩ := hl l[a] (List.getElem_mem hal')
          clear hcp
          generalize l[a] = pa at *
          obtain ⟨pa0, pa1, pa2⟩ := pa
          dsimp only at p1 p2 r1 r2 htop
          generalize sumF (limF l us a) k q = tot at *
          have hx1 : (takn l us i).1 - (takn l us k).1 ≤ 105 ∧ -105 ≤ (takn l us i).1 - (takn l us k).1 := by omega
          have bd3 := And.intro bd1.2.2.2.1 (And.intro bd1.2.2.2.2 (And.intro bd2.2.2.2.1 bd2.2.2.2.2))
          clear bd1 bd2
          generalize (takn l us k).1 = tl at *
          generalize (takn l us i).1 = th at *
          have m1 : (pa1 : Int).tmod 20 = (pa1 : Int) % 20 := Int.tmod_eq_emod_of_nonneg (by omega)
          have m2 : (pa2 : Int).tmod 60 = (pa2 : Int) % 60 := Int.tmod_eq_emod_of_nonneg (by omega)
          have m3 : IntKind.i64.wrap ((pa1 : Int) % 20) = (pa1 : Int) % 20 := IntWalk.i64_in _ (by omega)
          have m4 : IntKind.i64.wrap ((pa2 : Int) % 60) = (pa2 : Int) % 60 := IntWalk.i64_in _ (by omega)
          have m5 : IntKind.i64.wrap (th - tl) = th - tl := IntWalk.i64_in _ (by omega)
          have hprod : -2000 ≤ (pa1 : Int) % 20 * (th - tl) ∧ (pa1 : Int) % 20 * (th - tl) ≤ 2000 := mul_small (by omega) (by omega) (by omega) (by omega)
          have m6 : IntKind.i64.wrap ((pa1 : Int) % 20 * (th - tl)) = (pa1 : Int) % 20 * (th - tl) := IntWalk.i64_in _ (by omega)
          have m7 : IntKind.i64.wrap ((pa2 : Int) % 60 + (pa1 : Int) % 20 * (th - tl)) = (pa2 : Int) % 60 + (pa1 : Int) % 20 * (th - tl) := IntWalk.i64_in _ (by omega)
          have htop2 : decide (tot ≤ (pa2 : Int) % 60 + (pa1 : Int) % 20 * (th - tl)) = true := decide_eq_true htop
          have hjn : ¬ ((k + q : Nat) : Int) ≤ i := by omega
          have i1 : (k : Int) < n3 := by omega
          have i2 : (i : Int) < n3 := by omega
          have i3 : (a : Int) < n := by omega
          generalize hj : k + q = j at *
          go_wp2_with fail
          go_region_held3 (fun w' => w'.cell? ⟨bp, op + a * 3 + 2, none⟩ = some (.int .u8 (pa2 : Int)) ∧ w'.cell? ⟨bp, op + a * 3 + 1, none⟩ = some (.int .u8 (pa1 : Int)) ∧ w'.cell? ⟨b3, o3 + i * 3, none⟩ = some (.int .i64 th) ∧ w'.cell? ⟨b3, o3 + k * 3, none⟩ = some (.int .i64 tl) ∧ Below X.heap.size X w')
            (first
              | exact four_cells ((Below.refl _ X).drew) r2 r1 z0 y0 hbp hbp hb3X hb3X
              | exact four_cells (below_step ((Below.refl _ X).drew) hb') r2 r1 z0 y0 hbp hbp hb3X hb3X)
            (first
              | (go_at_call 11; refine (awake_any _).mono ?_; rintro e w' ⟨rfl, hb'⟩))
          rename_i hS
          have HS := Lib.hid hS
          clear hS
          go_wp2_with fail
          go_ret
          exact ⟨by simp, hBX.trans (HS.out.2.2.2.2.mono hBX.size)⟩
    · go_wp2_with fail
      go_quiet (fail)
      go_wp2_with fail
      have hX : Below w2.heap.size w2 ((w2.alloc (.cells #[.int .i64 (runS (0, startL l) us).1, .slice A2 n c2] 24)).drewN nq) := below_drewN ((Below.refl _ _).alloc (Nat.le_refl _) _) _
      have hBX := hBb.trans (hX.mono hBb.size)
      have hRX := hR.up hBX
      have hcX : ∀ k, k < n3 → ((w2.alloc (.cells #[.int .i64 (runS (0, startL l) us).1, .slice A2 n c2] 24)).drewN nq).cell? ⟨b3, o3 + k * 3, none⟩ = some (.int .i64 (takn l us k).1) ∧ ((w2.alloc (.cells #[.int .i64 (runS (0, startL l) us).1, .slice A2 n c2] 24)).drewN nq).cell? ⟨b3, o3 + k * 3 + 1, none⟩ = some (.int .i64 ((takn l us k).2.1 : Int)) ∧ ((w2.alloc (.cells #[.int .i64 (runS (0, startL l) us).1, .slice A2 n c2] 24)).drewN nq).cell? ⟨b3, o3 + k * 3 + 2, none⟩ = some (.int .i64 (takn l us k).2.2) := fun k hk => ⟨(hX.cell (p := ⟨b3, o3 + k * 3, none⟩) hb3).trans (HC.out.1 k hk).1, (hX.cell (p := ⟨b3, o3 + k * 3 + 1, none⟩) hb3).trans (HC.out.1 k hk).2.1, (hX.cell (p := ⟨b3, o3 + k * 3 + 2, none⟩) hb3).trans (HC.out.1 k hk).2.2⟩
      have hb3X : b3 < ((w2.alloc (.cells #[.int .i64 (runS (0, startL l) us).1, .slice A2 n c2] 24)).drewN nq).heap.size := Nat.lt_of_lt_of_le hb3 hX.size
      generalize ((w2.alloc (.cells #[.int .i64 (runS (0, startL l) us).1, .slice A2 n c2] 24)).drewN nq) = X at *
      have HCX := Lib.hid (And.intro hcX hRX)
      clear hcX hRX q0 q1 q2 hX
      go_loop [14, 15] (fun t j => ∃ q : Nat, i + q ≤ k + 1 ∧ j = .int .i64 ((i + q : Nat) : Int) ∧ t = .int .i64 (sumF (limF l us a) i q)) (fun _ j => k + 1 - (intOf j).toNat)
      case atStart => exact ⟨0, by omega, rfl, rfl⟩
      case round =>
        obtain ⟨q, hq, rfl, rfl⟩ := hrel
        by_cases hlt : i + q ≤ k
        · obtain ⟨y0, y1, y2⟩ := HCX.out.1 (i + q) (by omega)
          have hbd := HM.out (i + q) (by omega)
          have hsb := HSB.out i a q (by have := HL.out.1; omega) (by omega)
          have hsb2 := HSB.out i a (q + 1) (by have := HL.out.1; omega) (by omega)
          have hsum : sumF (limF l us a) i (q + 1) = sumF (limF l us a) i q + limF l us a (i + q) := rfl
          have hlim : limF l us a (i + q) = if a ∈ pathL (startL l) (takn l us (i + q)).2.1 then (takn l us (i + q)).2.2 else 0 := rfl
          have hbe := below_any A n c (takn l us (i + q)).2.1 a l X HCX.out.2 hl hn8 (by have := HL.out.1; omega) hal
          have hon : onP l (takn l us (i + q)).2.1 a = decide (a ∈ pathL (startL l) (takn l us (i + q)).2.1) := rfl
          have hjl : ((i + q : Nat) : Int) < n3 := by omega
          have hjh : ((i + q : Nat) : Int) ≤ k := by omega
          rw [hsum, hlim] at hsb2
          have HSUM := Lib.hid (hsum.trans (by rw [hlim]))
          clear hsum hlim
          generalize sumF (limF l us a) i q = tot at *
          generalize (takn l us (i + q)) = x at *
          obtain ⟨xt, xk, xn⟩ := x
          dsimp only at y0 y1 y2 hbd hbe hon hsb2 HSUM
          by_cases hmem : a ∈ pathL (startL l) xk
          · rw [hon, decide_eq_true hmem] at hbe
            rw [if_pos hmem] at hsb2 HSUM
            have HB := Lib.hid hbe
            clear hbe hon hmem
            generalize hj : i + q = j at *
            go_wp2_with fail
            refine HB.out.mono ?_
            rintro e w9 ⟨rfl, rfl⟩
            go_wp2_with fail
            go_round
            case rel => exact ⟨q + 1, by omega, by rw [← hj]; go_num, by rw [HSUM.out]⟩
            case measure => simp [intOf]; omega
          · rw [hon, decide_eq_false hmem] at hbe
            rw [if_neg hmem, Int.add_zero] at hsb2 HSUM
            have HB := Lib.hid hbe
            clear hbe hon hmem
            generalize hj : i + q = j at *
            go_wp2_with fail
            refine HB.out.mono ?_
            rintro e w9 ⟨rfl, rfl⟩
            go_wp2_with fail
            go_round
            case rel => exact ⟨q + 1, by omega, by rw [← hj]; go_num, by rw [HSUM.out]⟩
            case measure => simp [intOf]; omega
        · have hq1 : q = k - i + 1 := by omega
          have htop := HT.out i k a (by omega) (by omega) (by have := HL.out.1; omega)
          rw [← hq1] at htop
          have hsb := HSB.out i a q (by have := HL.out.1; omega) (by omega)
          obtain ⟨y0, _, _⟩ := HCX.out.1 i (by omega)
          obtain ⟨z0, _, _⟩ := HCX.out.1 k (by omega)
          have bd1 := HM.out i (by omega)
          have bd2 := HM.out k (by omega)
          obtain ⟨bp, op, rfl, hbp, hcp⟩ := HCX.out.2.elems3 encP_len (by omega)
          have hal' : a < l.length := by have := HL.out.1; omega
          obtain ⟨_, r1, r2⟩ := hcp a hal' _ _ _ rfl
          obtain ⟨_, p1, p2⟩ := hl l[a] (List.getElem_mem hal')
          clear hcp
          generalize l[a] = pa at *
          obtain ⟨pa0, pa1, pa2⟩ := pa
          dsimp only at p1 p2 r1 r2 htop
          generalize sumF (limF l us a) i q = tot at *
          have hx1 : (takn l us k).1 - (takn l us i).1 ≤ 105 ∧ -105 ≤ (takn l us k).1 - (takn l us i).1 := by omega
          have bd3 := And.intro bd1.2.2.2.1 (And.intro bd1.2.2.2.2 (And.intro bd2.2.2.2.1 bd2.2.2.2.2))
          clear bd1 bd2
          generalize (takn l us i).1 = tl at *
          generalize (takn l us k).1 = th at *
          have m1 : (pa1 : Int).tmod 20 = (pa1 : Int) % 20 := Int.tmod_eq_emod_of_nonneg (by omega)
          have m2 : (pa2 : Int).tmod 60 = (pa2 : Int) % 60 := Int.tmod_eq_emod_of_nonneg (by omega)
          have m3 : IntKind.i64.wrap ((pa1 : Int) % 20) = (pa1 : Int) % 20 := IntWalk.i64_in _ (by omega)
          have m4 : IntKind.i64.wrap ((pa2 : Int) % 60) = (pa2 : Int) % 60 := IntWalk.i64_in _ (by omega)
          have m5 : IntKind.i64.wrap (th - tl) = th - tl := IntWalk.i64_in _ (by omega)
          have hprod : -2000 ≤ (pa1 : Int) % 20 * (th - tl) ∧ (pa1 : Int) % 20 * (th - tl) ≤ 2000 := mul_small (by omega) (by omega) (by omega) (by omega)
          have m6 : IntKind.i64.wrap ((pa1 : Int) % 20 * (th - tl)) = (pa1 : Int) % 20 * (th - tl) := IntWalk.i64_in _ (by omega)
          have m7 : IntKind.i64.wrap ((pa2 : Int) % 60 + (pa1 : Int) % 20 * (th - tl)) = (pa2 : Int) % 60 + (pa1 : Int) % 20 * (th - tl) := IntWalk.i64_in _ (by omega)
          have htop2 : decide (tot ≤ (pa2 : Int) % 60 + (pa1 : Int) % 20 * (th - tl)) = true := decide_eq_true htop
          have hjn : ¬ ((i + q : Nat) : Int) ≤ k := by omega
          have i1 : (i : Int) < n3 := by omega
          have i2 : (k : Int) < n3 := by omega
          have i3 : (a : Int) < n := by omega
          generalize hj : i + q = j at *
          go_wp2_with fail
          go_region_held3 (fun w' => w'.cell? ⟨bp, op + a * 3 + 2, none⟩ = some (.int .u8 (pa2 : Int)) ∧ w'.cell? ⟨bp, op + a * 3 + 1, none⟩ = some (.int .u8 (pa1 : Int)) ∧ w'.cell? ⟨b3, o3 + k * 3, none⟩ = some (.int .i64 th) ∧ w'.cell? ⟨b3, o3 + i * 3, none⟩ = some (.int .i64 tl) ∧ Below X.heap.size X w')
            (first
              | exact four_cells ((Below.refl _ X).drew) r2 r1 z0 y0 hbp hbp hb3X hb3X
              | exact four_cells (below_step ((Below.refl _ X).drew) hb') r2 r1 z0 y0 hbp hbp hb3X hb3X)
            (first
              | (go_at_call 11; refine (awake_any _).mono ?_; rintro e w' ⟨rfl, hb'⟩))
          rename_i hS
          have HS := Lib.hid hS
          clear hS
          go_wp2_with fail
          go_ret
          exact ⟨by simp, hBX.trans (HS.out.2.2.2.2.mono hBX.size)⟩
end Go.Proofs.Ytehfnanhamaenaa
