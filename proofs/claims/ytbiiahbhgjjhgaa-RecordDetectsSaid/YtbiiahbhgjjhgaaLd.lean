/- The walk of the law RecordDetects. No condition. -/
import Derived.Test.YtbiiahbhgjjhgaaLc
import Derived.Test.YtbiiahbhgjjhgaaMathS
namespace Go.Proofs.Ytbiiahbhgjjhgaa
open Go.RowKit
theorem setS_cells (l : List Sec) (i v : Nat) (hi : i < 4 * l.length) : (setS l i v).flatMap encS = (l.flatMap encS).set (8 * (i / 4) + 4 + i % 4) (.int .u8 (v : Int)) := by
  induction l generalizing i with
  | nil => simp at hi
  | cons s l ih =>
    rw [setS, List.flatMap_cons, List.set_append, show (encS s).length = 8 from rfl]
    split
    · rename_i h
      rw [if_pos (by omega), List.flatMap_cons]
      congr 1
      rcases four h with rfl | rfl | rfl | rfl <;> rfl
    · rename_i h
      rw [if_neg (by omega), List.flatMap_cons, ih _ (by simp at hi; omega)]
      congr 2
      omega
theorem st_cell (l : List Sec) (i : Nat) (hi : i < 4 * l.length) : (l.flatMap encS)[8 * (i / 4) + 4 + i % 4]? = some (.int .u8 ((stOf l).getD i 0 : Nat)) := by
  induction l generalizing i with
  | nil => simp at hi
  | cons s l ih =>
    rw [List.flatMap_cons, stOf_cons]
    by_cases h : i < 4
    · rw [List.getElem?_append_left (by rw [show (encS s).length = 8 from rfl]; omega)]
      rcases four h with rfl | rfl | rfl | rfl <;> rfl
    · have h2 : (s.dat ++ stOf l).getD i 0 = (stOf l).getD (i - 4) 0 := by
        rw [List.getD_eq_getElem?_getD, List.getD_eq_getElem?_getD, List.getElem?_append_right (by simp [Sec.dat]; omega)]
        rfl
      rw [h2, List.getElem?_append_right (by rw [show (encS s).length = 8 from rfl]; omega), ← ih (i - 4) (by simp at hi; omega), show (encS s).length = 8 from rfl]
      congr 1
      omega
set_option maxRecDepth 100000 in
set_option maxHeartbeats 2000000 in
theorem walkRecordDetects (w : World) (v0 v1 v2 : Value) (h0 : Arg27 w v0) (h1 : Arg42 w v1) (h2 : Arg5 w v2) : Calls Try.prog 8 #[v0, v1, v2] w fun e w' => e = .returned (.bool true) ∧ Below w.heap.size w w' := by
  obtain ⟨k, q, A, n, c, p, rfl, hR, hnc, hcm, hp, _, _⟩ := h0
  obtain ⟨cut, rfl, hcut⟩ := h1
  obtain ⟨by_, rfl, hby⟩ := h2
  unfold recV
  have hb0 : Below w.heap.size w (w.alloc (.cells #[.int .i64 k, .int .i64 q, .slice A n c] 27)) := (Below.refl _ _).alloc (Nat.le_refl _) _
  by_cases c1 : 300 < n
  · have c1' : (300 : Int) < n := by omega
    go_enter Try.func8, Try.ntmps8
    go_wp2_with fail
    refine (awake_any _).mono ?_
    rintro e w1 ⟨rfl, hb1⟩
    go_wp2_with fail
    go_ret
    exact ⟨rfl, hb0.trans (hb1.mono hb0.size)⟩
  have c1' : ¬ (300 : Int) < n := by omega
  by_cases c2 : by_ = 0
  · subst c2
    go_enter Try.func8, Try.ntmps8
    go_wp2_with fail
    refine (awake_any _).mono ?_
    rintro e w1 ⟨rfl, hb1⟩
    go_wp2_with fail
    go_ret
    exact ⟨rfl, hb0.trans (hb1.mono hb0.size)⟩
  have c2' : ((by_ : Int) == 0) = false := by rw [beq_eq_false_iff_ne]; omega
  have hlen : p.length = n := by have := hR.1; rw [u8s_len] at this; omega
  have hbk := badK_fit k q
  have k0 := fitN_pos k 255
  have q0 := fitN_pos q 1000000
  have k1 := (fit_one k 255 (by omega)).2
  have q1 := (fit_one q 1000000 (by omega)).2
  have HX := Lib.hid (And.intro hR (And.intro c2 (And.intro hlen (And.intro hp hb0))))
  clear hR c2 hlen hp hb0
  go_enter Try.func8, Try.ntmps8
  go_wp2_with fail
  refine (fit_any k q n c A _).mono ?_
  rintro e w1 ⟨rfl, hb1⟩
  generalize fitN k 255 = kk at *
  generalize fitN q 1000000 = qq at *
  unfold recV
  have hbW := HX.out.2.2.2.2.trans (hb1.mono HX.out.2.2.2.2.size)
  go_wp2_with fail
  refine (Encode_any (kk : Nat) (qq : Nat) n c A p w1 (HX.out.1.up hbW) HX.out.2.2.2.1).mono ?_
  rintro e w2 ⟨hb2, A2, c2, he, hR2, hc2, hm2⟩
  rw [encE_fit hbk (by rw [HX.out.2.2.1]; omega)] at he hR2 hc2
  dsimp only at he hR2 hc2
  have hel : (encR kk qq p).length = szN n := by rw [enc_len, HX.out.2.2.1]
  rw [hel] at he hR2 hc2
  subst he
  have hs2 := hb2.size
  have hbw2 : Below w.heap.size w w2 := hbW.trans (hb2.mono hbW.size)
  have H2 := Lib.hid (And.intro hR2 (And.intro hc2 hbw2))
  have hsz := szN_pos n
  have hsz2 : szN n ≤ 100 := by unfold szN; omega
  clear hR2 hc2 hbw2 hb2 hbW
  have HN : Hid (szN n = szN n) := rfl
  obtain ⟨N, hN⟩ : ∃ N, szN n = N := ⟨_, rfl⟩
  rw [hN] at H2 hsz hsz2 hel ⊢
  have hN0 : ¬ N = 0 := by omega
  have HNN := Lib.hid hN
  clear hN HN
  have n0 : ¬ (4 * (N : Int)) = 0 := by omega
  have m0 : (0 : Int) ≤ (cut : Int) % (4 * N) := Int.emod_nonneg _ n0
  have m1 : (cut : Int) % (4 * N) < 4 * N := Int.emod_lt_of_pos _ (by omega)
  obtain ⟨i, hi⟩ := Int.eq_ofNat_of_zero_le m0
  rw [hi] at m0 m1
  by_cases hx1 : i = 1
  · subst hx1
    go_wp2_with fail
    refine (awake_any _).mono ?_
    rintro e w3 ⟨rfl, hb3⟩
    go_wp2_with fail
    go_ret
    exact ⟨rfl, H2.out.2.2.trans (hb3.mono H2.out.2.2.size)⟩
  by_cases hx2 : i = 2
  · subst hx2
    go_wp2_with fail
    refine (awake_any _).mono ?_
    rintro e w3 ⟨rfl, hb3⟩
    go_wp2_with fail
    go_ret
    exact ⟨rfl, H2.out.2.2.trans (hb3.mono H2.out.2.2.size)⟩
  have HI12 := Lib.hid (And.intro hx1 hx2)
  have hx1' : ((i : Int) == 1) = false := by rw [beq_eq_false_iff_ne]; omega
  have hx2' : ((i : Int) == 2) = false := by rw [beq_eq_false_iff_ne]; omega
  clear hx1 hx2
  obtain ⟨i7, hi7, hy0, hy1, hy2⟩ := info_parts info47b
  have HI := Lib.hid (And.intro hi7 (And.intro hy0 (And.intro hy1 hy2)))
  clear hi7 hy0 hy1 hy2
  have hbe : Below w2.heap.size w2 (w2.alloc (.cells #[] 47)) := (Below.refl _ _).alloc (Nat.le_refl _) _
  have HBE := Lib.hid hbe
  clear hbe
  obtain ⟨aa, haa⟩ : ∃ aa : Nat, i / 4 = aa := ⟨_, rfl⟩
  obtain ⟨jj, hjj⟩ : ∃ jj : Nat, i % 4 = jj := ⟨_, rfl⟩
  have hda : (i : Int) / 4 = (aa : Nat) := by omega
  have hdj : (i : Int) % 4 = (jj : Nat) := by omega
  have hai : aa < N := by omega
  have hjb : jj < 4 := by omega
  have HAJ := Lib.hid (And.intro haa hjj)
  clear haa hjj
  have hok := enc_ok qq (p := p) (k := kk) (by omega) HX.out.2.2.2.1
  generalize hL : encR kk qq p = L at *
  have hLi : i < 4 * L.length := by omega
  have hsb : (stOf L).getD i 0 < 256 := by
    apply getD_lt
    intro x hx
    obtain ⟨s, hs, hxs⟩ := List.mem_flatMap.1 hx
    obtain ⟨_, _, _, _, o1, o2, o3, o4⟩ := hok s hs
    simp [Sec.dat] at hxs
    rcases hxs with rfl | rfl | rfl | rfl <;> assumption
  obtain ⟨z, hz⟩ : ∃ z, (stOf L).getD i 0 = z := ⟨_, rfl⟩
  rw [hz] at hsb
  have hxor : bits .xor .u8 (z : Int) (by_ : Int) = ((z ^^^ by_ : Nat) : Int) := u8_xor_nat z by_ hsb hby
  have HZ := Lib.hid hz
  have HL := Lib.hid hL
  clear hz hL
  go_wp2_with (at_builtin; (refine wpList_append_any (w2.alloc (.cells #[] 47)) rfl (.tmp 49) (.tmp 50) _ rfl w2.heap.size 47 i7 _ 8 8 Try.underlying28 HI.out.1 HI.out.2.1 HI.out.2.2.1 HI.out.2.2.2 rfl (by omega) (.slice (some ⟨w2.heap.size, 0, none⟩) 0 0) 0 [] rfl (own_empty w2 47 8) w2.heap.size A2 N c2 (L.flatMap encS) rfl (Reads.below H2.out.1 HBE.out) (encS_one _) (by simp only [maxLen]; omega) (by omega) (by simp) ?_; intro v3 w3 ho3 hg3 _; have hb3 : Below w2.heap.size w2 w3 := HBE.out.grown hg3 (by simp) (by intro j hj; simp [Value.ownBlock] at hj; omega); simp only [Nat.zero_add, List.nil_append] at ho3; obtain ⟨g, cap, cur, hv3, hbg, hB3, hnc3, hcm3, hcs3, hct3⟩ := own_blk ho3 (by omega); subst hv3; have hs3 := hb3.size; have H3 := Lib.hid (And.intro hb3 (And.intro hB3 (And.intro hcs3 (And.intro hct3 hcm3)))); have hg1 : g < w3.heap.size := hB3.lt; have hzc : w3.cell? ⟨g, aa * 8 + (4 + jj), none⟩ = some (.int .u8 (z : Int)) := (by rw [hB3.cell]; have e := st_cell L i hLi; rw [HZ.out, ← hct3, List.getElem?_take_of_lt (by omega)] at e; rw [← HAJ.out.1, ← HAJ.out.2]; simpa [Nat.mul_comm, Nat.add_assoc] using e); have hzf : w3.frozen? ⟨g, aa * 8 + (4 + jj), none⟩ = false := hB3.frozen _; clear ho3 hb3 hg3 hB3 hcs3 hct3))
  go_region
  all_goals go_wp2_with fail
  have hzx : z ^^^ by_ < 256 := Nat.xor_lt_two_pow (n := 8) hsb hby
  have hbS : Below w2.heap.size w2 (w3.setCell ⟨g, aa * 8 + (4 + jj), none⟩ (.int .u8 (z ^^^ by_ : Nat))).drew := (H3.out.1.setCell (p := ⟨g, _, none⟩) hbg _).drew
  have hBS := ((H3.out.2.1).set_ (aa * 8 + (4 + jj)) (.int .u8 (z ^^^ by_ : Nat))).drew
  have hRS := hBS.reads_take (size := 8) (n := N) (by rw [Array.size_setIfInBounds, H3.out.2.2.1]; omega)
  rw [take_set H3.out.2.2.2.1] at hRS
  have hcl := setS_cells L i (z ^^^ by_) hLi
  rw [show 8 * (i / 4) + 4 + i % 4 = aa * 8 + (4 + jj) by rw [HAJ.out.1, HAJ.out.2]; omega] at hcl
  rw [← hcl] at hRS
  have hdec := dec_flip (k := kk) (q := qq) (p := p) i by_ (by omega) q0 (by omega) HX.out.2.2.2.1 (by rw [HX.out.2.2.1]; omega) hby HX.out.2.1 HI12.out.1 HI12.out.2 (by rw [HX.out.2.2.1, HNN.out]; omega)
  rw [HL.out, HZ.out] at hdec
  have hok' := setS_ok i (v := z ^^^ by_) hok hzx
  have hbw4 : Below w.heap.size w (w3.setCell ⟨g, aa * 8 + (4 + jj), none⟩ (.int .u8 (z ^^^ by_ : Nat))).drew := H2.out.2.2.trans (hbS.mono H2.out.2.2.size)
  generalize (w3.setCell ⟨g, aa * 8 + (4 + jj), none⟩ (.int .u8 (z ^^^ by_ : Nat))).drew = w4 at *
  generalize setS L i (z ^^^ by_) = L' at *
  have HB4 := Lib.hid hbw4
  clear hbS hBS hcl hbw4 hzc hzf
  refine (Decode_any N cap (some ⟨g, 0, none⟩) L' w4 hRS (by omega) (by omega) hok').mono ?_
  rintro e w5 ⟨hb5, A5, c5, he, _, _, _, _⟩
  subst he
  have hb5' := HB4.out.trans (hb5.mono HB4.out.size)
  have hbx : Below w.heap.size w (w5.alloc (.cells #[.int .i64 (decM L').k, .int .i64 (decM L').q, .slice A5 (decM L').p.length c5] 27)) := hb5'.alloc hb5'.size _
  have HB5 := Lib.hid hbx
  clear hbx hb5' hRS
  rcases hdec with hdec | hdec
  all_goals
    rw [hdec]
    have HD := Lib.hid hdec
    clear hdec
    go_wp2_with fail
    refine (awake_any _).mono ?_
    rintro e w6 ⟨rfl, hb6⟩
    go_wp2_with fail
    go_ret
    exact ⟨rfl, HB5.out.trans (hb6.mono HB5.out.size)⟩
end Go.Proofs.Ytbiiahbhgjjhgaa
