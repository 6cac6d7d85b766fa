/- The walk of the law RecordReturns. No condition. -/
import Derived.Test.YtbiiahbhgjjhgaaWp
import Derived.Test.YtbiiahbhgjjhgaaArgs
namespace Go.Proofs.Ytbiiahbhgjjhgaa
open Go.RowKit
theorem fitN_pos (x m : Int) : 0 < fitN x m := by unfold fitN; omega
theorem badK_fit (k q : Int) : badK (fitN k 255 : Nat) (fitN q 1000000 : Nat) = false := by
  have h1 := (fit_one k 255 (by omega)).2
  have h2 := (fit_one q 1000000 (by omega)).2
  have h3 := fitN_pos k 255
  have h4 := fitN_pos q 1000000
  unfold badK
  rw [decide_eq_false]
  omega
theorem encE_fit {k q : Nat} {p : List Nat} (hb : badK (k : Nat) (q : Nat) = false) (hp : p.length ≤ 4096) : encE (k : Nat) (q : Nat) p = (0, encR k q p) := by
  unfold encE
  rw [if_neg (by rw [hb]; simp), if_neg (by omega)]
  rfl
theorem flat_take (l : List Sec) (k : Nat) : (l.flatMap encS).take (k * 8) = (l.take k).flatMap encS := by
  induction l generalizing k with
  | nil => simp
  | cons s l ih =>
    cases k with
    | zero => simp
    | succ k =>
      rw [List.take_succ_cons, List.flatMap_cons, List.flatMap_cons, ← ih, List.take_append, show (encS s).length = 8 from rfl]
      rw [List.take_of_length_le (by rw [show (encS s).length = 8 from rfl]; omega), show (k + 1) * 8 - 8 = k * 8 by omega]
set_option maxRecDepth 100000 in
set_option maxHeartbeats 2000000 in
theorem walkRecordReturns (w : World) (v0 v1 v2 : Value) (h0 : Arg27 w v0) (h1 : Arg28 w v1) (h2 : Arg42 w v2) : Calls Try.prog 6 #[v0, v1, v2] w fun e w' => e = .returned (.bool true) ∧ Below w.heap.size w w' := by
  obtain ⟨k, q, A, n, c, p, rfl, hR, hnc, hcm, hp, _, _⟩ := h0
  obtain ⟨B, m, d, more, rfl, hRm, hmd, _, hml⟩ := h1
  obtain ⟨cut, rfl, hcut⟩ := h2
  unfold recV
  have hb0 : Below w.heap.size w (w.alloc (.cells #[.int .i64 k, .int .i64 q, .slice A n c] 27)) := (Below.refl _ _).alloc (Nat.le_refl _) _
  by_cases c1 : 300 < n
  · have c1' : (300 : Int) < n := by omega
    go_enter Try.func6, Try.ntmps6
    go_wp2_with fail
    refine (awake_any _).mono ?_
    rintro e w1 ⟨rfl, hb1⟩
    go_wp2_with fail
    go_ret
    exact ⟨rfl, hb0.trans (hb1.mono hb0.size)⟩
  by_cases c2 : 100 < m
  · have c1' : ¬ (300 : Int) < n := by omega
    have c2' : (100 : Int) < m := by omega
    go_enter Try.func6, Try.ntmps6
    go_wp2_with fail
    refine (awake_any _).mono ?_
    rintro e w1 ⟨rfl, hb1⟩
    go_wp2_with fail
    go_ret
    exact ⟨rfl, hb0.trans (hb1.mono hb0.size)⟩
  have c1' : ¬ (300 : Int) < n := by omega
  have c2' : ¬ (100 : Int) < m := by omega
  have hlen : p.length = n := by have := hR.1; rw [u8s_len] at this; omega
  have hbk := badK_fit k q
  have k0 := fitN_pos k 255
  have q0 := fitN_pos q 1000000
  have k1 := (fit_one k 255 (by omega)).2
  have q1 := (fit_one q 1000000 (by omega)).2
  have HX := Lib.hid (And.intro hR (And.intro hRm (And.intro hlen (And.intro hp (And.intro hml (And.intro hmd hb0))))))
  clear hR hRm hlen hp hml hmd hb0
  go_enter Try.func6, Try.ntmps6
  go_wp2_with fail
  refine (fit_any k q n c A _).mono ?_
  rintro e w1 ⟨rfl, hb1⟩
  generalize fitN k 255 = kk at *
  generalize fitN q 1000000 = qq at *
  unfold recV
  have hb1' := HX.out.2.2.2.2.2.2.trans (hb1.mono HX.out.2.2.2.2.2.2.size)
  go_wp2_with fail
  have hbx : Below w1.heap.size w1 (w1.alloc (.cells #[.int .i64 (kk : Nat), .int .i64 (qq : Nat), .slice A n c] 27)) := (Below.refl _ _).alloc (Nat.le_refl _) _
  have g1 := Blk.new w1 27 #[.int .i64 (kk : Nat), .int .i64 (qq : Nat), .slice A n c]
  have hsx : (w1.alloc (.cells #[.int .i64 (kk : Nat), .int .i64 (qq : Nat), .slice A n c] 27)).heap.size = w1.heap.size + 1 := by simp
  have hbW : Below w.heap.size w (w1.alloc (.cells #[.int .i64 (kk : Nat), .int .i64 (qq : Nat), .slice A n c] 27)) := hb1'.trans (hbx.mono hb1'.size)
  generalize (w1.alloc (.cells #[.int .i64 (kk : Nat), .int .i64 (qq : Nat), .slice A n c] 27)) = W at *
  refine (Encode_any (kk : Nat) (qq : Nat) n c A p W (HX.out.1.up hbW) HX.out.2.2.2.1).mono ?_
  rintro e w2 ⟨hb2, A2, c2, he, hR2, hc2, hm2⟩
  rw [encE_fit hbk (by rw [HX.out.2.2.1]; omega)] at he hR2 hc2
  dsimp only at he hR2 hc2
  have hel : (encR kk qq p).length = szN n := by rw [enc_len, HX.out.2.2.1]
  rw [hel] at he hR2 hc2
  subst he
  have g2 := g1.below hb2 g1.lt
  have hs2 := hb2.size
  have a0 : w2.cell? ⟨w1.heap.size, 0, none⟩ = some (.int .i64 (kk : Nat)) := g2.cell 0
  have a1 : w2.cell? ⟨w1.heap.size, 1, none⟩ = some (.int .i64 (qq : Nat)) := g2.cell 1
  have a2 : w2.cell? ⟨w1.heap.size, 2, none⟩ = some (.slice A n c) := g2.cell 2
  have hbw2 : Below w.heap.size w w2 := hbW.trans (hb2.mono hbW.size)
  have H2 := Lib.hid (And.intro hR2 (And.intro hc2 (And.intro g2 hbw2)))
  have hsz := szN_pos n
  have hsz2 : szN n ≤ 100 := by unfold szN; omega
  clear hR2 hc2 g2 hbw2 hb2 g1 hbW hbx hb1'
  go_wp2_with fail
  refine (Size_in n w2 (by omega)).mono ?_
  rintro e w3 ⟨rfl, rfl⟩
  have HN : Hid (szN n = szN n) := rfl
  obtain ⟨N, hN⟩ : ∃ N, szN n = N := ⟨_, rfl⟩
  rw [hN] at H2 hsz hsz2 hel ⊢
  have hN0 : ¬ N = 0 := by omega
  have HNN := Lib.hid hN
  clear hN HN
  --A
  obtain ⟨i7, hi7, hy0, hy1, hy2⟩ := info_parts info47b
  have HI := Lib.hid (And.intro hi7 (And.intro hy0 (And.intro hy1 hy2)))
  clear hi7 hy0 hy1 hy2
  have hmore : Reads w2 w2.heap.size 8 B m (more.flatMap encS) := HX.out.2.1.up H2.out.2.2.2
  have HM := Lib.hid hmore
  clear hmore
  have hbe : Below w2.heap.size w2 (w2.alloc (.cells #[] 47)) := (Below.refl _ _).alloc (Nat.le_refl _) _
  have HBE := Lib.hid hbe
  clear hbe
  go_wp2_with (at_builtin; first
    | (refine wpList_append_any (w2.alloc (.cells #[] 47)) rfl (.tmp 50) (.tmp 51) _ rfl w2.heap.size 47 i7 _ 8 8 Try.underlying28 HI.out.1 HI.out.2.1 HI.out.2.2.1 HI.out.2.2.2 rfl (by omega) (.slice (some ⟨w2.heap.size, 0, none⟩) 0 0) 0 [] rfl (own_empty w2 47 8) w2.heap.size A2 N c2 ((encR kk qq p).flatMap encS) rfl (Reads.below H2.out.1 HBE.out) (encS_one _) (by simp only [maxLen]; omega) (by omega) (by simp) ?_; intro v3 w3 ho3 hg3 _; have hb3 : Below w2.heap.size w2 w3 := HBE.out.grown hg3 (by simp) (by intro j hj; simp [Value.ownBlock] at hj; omega); simp only [Nat.zero_add, List.nil_append] at ho3; have hs3 := hb3.size; have H3 := Lib.hid (And.intro ho3 hb3); clear ho3 hb3 hg3)
    | (refine wpList_append_any w3 rfl (.tmp 52) (.tmp 53) _ rfl w2.heap.size 47 i7 _ 8 8 Try.underlying28 HI.out.1 HI.out.2.1 HI.out.2.2.1 HI.out.2.2.2 rfl (by omega) v3 N _ rfl H3.out.1 w2.heap.size B m d (more.flatMap encS) rfl (Reads.below HM.out H3.out.2) (encS_one _) (by simp only [maxLen]; omega) (by omega) (by omega) ?_; intro v4 w4 ho4 hg4 _; obtain ⟨A4, c4, hv4, hc4, hm4, hR4⟩ := own_slice ho4; subst hv4; have hb4 : Below w2.heap.size w2 w4 := H3.out.2.grown hg4 (by omega) (own_block_ge H3.out.1); have hs4 := hb4.size; have H4 := Lib.hid (And.intro hb4 (And.intro hR4 hc4)); clear ho4 hR4 hc4 hm4 hg4 hb4))
  have hok := enc_ok qq (p := p) (k := kk) (by omega) HX.out.2.2.2.1
  have hR4 : Reads w4 w4.heap.size 8 A4 (N + m) ((encR kk qq p ++ more).flatMap encS) := by rw [List.flatMap_append]; exact H4.out.2.1
  have hdec := dec_enc (k := kk) (q := qq) (p := p) more k0 (by omega) q0 (by omega) HX.out.2.2.2.1 (by rw [HX.out.2.2.1]; omega)
  have hNp : szN p.length = N := by rw [HX.out.2.2.1, HNN.out]
  rw [hNp] at hdec
  refine (Decode_any (N + m) c4 A4 (encR kk qq p ++ more) w4 hR4 (by omega) H4.out.2.2 (fun s hs => by rcases List.mem_append.1 hs with h | h; exact hok s h; exact HX.out.2.2.2.2.1 s h)).mono ?_
  rintro e w5 ⟨hb5, A5, c5, he, hR5, _, _, _⟩
  rw [hdec] at he hR5
  dsimp only at he hR5
  rw [HX.out.2.2.1] at he hR5
  subst he
  have hs5 := hb5.size
  have H5 := Lib.hid (And.intro hb5 hR5)
  clear hb5 hR5 hR4 hdec
  have hr0 : (0 : Int) ≤ (cut : Int) % N := Int.emod_nonneg _ (by omega)
  have hrN : (cut : Int) % N < N := Int.emod_lt_of_pos _ (by omega)
  have hr1 : (cut : Int) % N ≤ c2 := by have := H2.out.2.1; omega
  go_wp2_with fail
  obtain ⟨C, hC⟩ : ∃ C, cut % N = C := ⟨_, rfl⟩
  have hCN : C < N := by rw [← hC]; exact Nat.mod_lt _ (by omega)
  rw [hC]
  have hb45 : Below w2.heap.size w2 w5 := H4.out.1.trans (H5.out.1.mono H4.out.1.size)
  have hb5x : Below w5.heap.size w5 (w5.alloc (.cells #[.int .i64 (kk : Nat), .int .i64 (qq : Nat), .slice A5 n c5] 27)) := (Below.refl _ _).alloc (Nat.le_refl _) _
  have g5 := Blk.new w5 27 #[.int .i64 (kk : Nat), .int .i64 (qq : Nat), .slice A5 n c5]
  have hsy : (w5.alloc (.cells #[.int .i64 (kk : Nat), .int .i64 (qq : Nat), .slice A5 n c5] 27)).heap.size = w5.heap.size + 1 := by simp
  generalize (w5.alloc (.cells #[.int .i64 (kk : Nat), .int .i64 (qq : Nat), .slice A5 n c5] 27)) = W5 at *
  have hb2W : Below w2.heap.size w2 W5 := hb45.trans (hb5x.mono hb45.size)
  have hR2t : Reads W5 W5.heap.size 8 A2 C (((encR kk qq p).take C).flatMap encS) := by
    have h := (H2.out.1.up hb2W).take (k := C) (by omega)
    rw [flat_take] at h
    exact h
  have htorn := dec_torn (k := kk) (q := qq) (p := p) C q0 (by omega) (by rw [HX.out.2.2.1]; omega) (by rw [hNp]; exact hCN)
  refine (Decode_any C c2 A2 ((encR kk qq p).take C) W5 hR2t (by omega) (by have := H2.out.2.1; omega) (fun s hs => hok s (List.mem_of_mem_take hs))).mono ?_
  rintro e w6 ⟨hb6, A6, c6, he, _, _, _, _⟩
  rw [htorn] at he
  dsimp only [Dec.err, List.length_nil] at he
  subst he
  have hs6 := hb6.size
  have g6 := g5.below hb6 g5.lt
  have H6 := Lib.hid (And.intro (hb2W.trans (hb6.mono hb2W.size)) (And.intro (hb5x.trans (hb6.mono hb5x.size)) g6))
  clear hb6 g6 g5 hb45 hb5x hR2t htorn hb2W hok hC hr0 hrN hr1
  go_wp2_with fail
  refine (awake_any _).mono ?_
  rintro e w7 ⟨rfl, hb7⟩
  have hb6x : Below w6.heap.size w6 (w6.alloc (.cells #[.int .i64 0, .int .i64 0, .slice A6 0 c6] 27)) := (Below.refl _ _).alloc (Nat.le_refl _) _
  have hb67 := hb6x.trans (hb7.mono hb6x.size)
  have hb27 : Below w2.heap.size w2 w7 := H6.out.1.trans (hb67.mono H6.out.1.size)
  have hb57 : Below w5.heap.size w5 w7 := H6.out.2.1.trans (hb67.mono H6.out.2.1.size)
  have g7 := H6.out.2.2.below hb67 H6.out.2.2.lt
  have g2' := H2.out.2.2.1.below hb27 H2.out.2.2.1.lt
  have hs7 := hb27.size
  have hs57 := hb57.size
  have b0 : w7.cell? ⟨w1.heap.size, 0, none⟩ = some (.int .i64 (kk : Nat)) := g2'.cell 0
  have b1 : w7.cell? ⟨w1.heap.size, 1, none⟩ = some (.int .i64 (qq : Nat)) := g2'.cell 1
  have b2 : w7.cell? ⟨w1.heap.size, 2, none⟩ = some (.slice A n c) := g2'.cell 2
  have b3 : w7.cell? ⟨w5.heap.size, 0, none⟩ = some (.int .i64 (kk : Nat)) := g7.cell 0
  have b4 : w7.cell? ⟨w5.heap.size, 1, none⟩ = some (.int .i64 (qq : Nat)) := g7.cell 1
  have b5 : w7.cell? ⟨w5.heap.size, 2, none⟩ = some (.slice A5 n c5) := g7.cell 2
  have hbw7 : Below w.heap.size w w7 := H2.out.2.2.2.trans (hb27.mono H2.out.2.2.2.size)
  have hRA : Reads w7 w7.heap.size 1 A n (u8s p) := HX.out.1.up hbw7
  have hRB : Reads w7 w7.heap.size 1 A5 n (u8s p) := H5.out.2.up hb57
  have H7 := Lib.hid (And.intro hRA (And.intro hRB hbw7))
  clear hRA hRB hbw7 hb27 hb57 hb67 hb6x hb7 g7 g2'
  go_wp2_with fail
  refine (Same_any (kk : Nat) (qq : Nat) (kk : Nat) (qq : Nat) n c n c5 A A5 p p w7 H7.out.1 H7.out.2.1).mono ?_
  rintro e w8 ⟨rfl, hb8⟩
  rw [sameB_refl]
  go_wp2_with fail
  go_ret
  exact ⟨rfl, H7.out.2.2.trans (hb8.mono H7.out.2.2.size)⟩
end Go.Proofs.Ytbiiahbhgjjhgaa
