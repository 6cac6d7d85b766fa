/- The walk of awake. No condition. -/
import Derived.Test.YtbiiahbhgjjhgaaWn
import Derived.Test.YtbiiahbhgjjhgaaWo
import Derived.Test.YtbiiahbhgjjhgaaWk
import Derived.Laws.StructEq
namespace Go.Proofs.Ytbiiahbhgjjhgaa
open Go.RowKit
theorem eq5 (x z : Int) (w : World) : (Op.equalIn 9999 5 (.int .u8 x) (.int .u8 z)).run Try.prog w = .ok (x == z) w := by
  exact run_equalIn_int w 9998 5 .u8 .u8 x z Try.underlying5
theorem part5 (cs : Array Value) (i : Nat) (v : Value) (w : World) (h : cs[i]? = some v) : (part 5 cs i).run Try.prog w = .ok v w := by
  simp [part, isAgg, run_underlying Try.underlying5, h]
theorem size5 (w : World) : (sizeOf 5).run Try.prog w = .ok 1 w := by kernel_rfl
theorem neq47 (s : Sec) (w : World) : (binOp .neq 47 (.agg (encS s).toArray) (.agg (encS s).toArray)).run Try.prog w = .ok (.bool false) w := by
  unfold encS
  simp only [binOp]
  simp [Op.equal, Op.maxDepth]
  rw [Op.equalIn]
  simp [run_underlying Try.underlying47, Sem.run_bind]
  rw [show List.range' 0 8 = [0, 1, 2, 3, 4, 5, 6, 7] from rfl]
  simp [Sem.run_bind, part5, eq5]
theorem neqV (a b c d e f g h : Int) (w : World) : (binOp .neq 47 (.agg #[.int .u8 a, .int .u8 b, .int .u8 c, .int .u8 d, .int .u8 e, .int .u8 f, .int .u8 g, .int .u8 h]) (.agg #[.int .u8 a, .int .u8 b, .int .u8 c, .int .u8 d, .int .u8 e, .int .u8 f, .int .u8 g, .int .u8 h])).run Try.prog w = .ok (.bool false) w := by
  simp only [binOp]
  simp [Op.equal, Op.maxDepth]
  rw [Op.equalIn]
  simp [run_underlying Try.underlying47, Sem.run_bind]
  rw [show List.range' 0 8 = [0, 1, 2, 3, 4, 5, 6, 7] from rfl]
  simp [Sem.run_bind, part5, eq5]
theorem bcell {W w1 : World} (hb : Below W.heap.size W w1) : (∀ b o, b < W.heap.size → w1.cell? ⟨b, o, none⟩ = W.cell? ⟨b, o, none⟩) ∧ (∀ b o, b < W.heap.size → w1.frozen? ⟨b, o, none⟩ = W.frozen? ⟨b, o, none⟩) :=
  ⟨fun b o h => hb.cell (p := ⟨b, o, none⟩) h, fun b o h => hb.frozen (p := ⟨b, o, none⟩) h⟩
theorem enc_ex : ∃ S, S < 4294967296 ∧ updS 0 [7, 2, 0, 1, 2] = S ∧ encR 7 258 [1, 2] = [⟨2, 1, 0, 0, 7, 2, 0, 1⟩, ⟨2, 1, 0, 0, 2, S % 256, S / 256 % 256, S / 65536 % 256⟩, ⟨2, 1, 0, 0, S / 16777216, 0, 0, 0⟩] := by
  have hlt := updS_bd [7, 2, 0, 1, 2] (by intro x hx; simp at hx; omega)
  refine ⟨_, hlt, rfl, ?_⟩
  have hb : bodyR 7 [1, 2] = [7, 2, 0, 1, 2] := rfl
  unfold encR strmR
  rw [hb]
  generalize updS 0 [7, 2, 0, 1, 2] = S at *
  rw [show S / 65536 = S / 256 / 256 by omega, show S / 16777216 = S / 256 / 256 / 256 % 256 by omega]
  rfl
theorem dec_ex : decM (encR 7 258 [1, 2]) = ⟨0, 7, 258, [1, 2], 3⟩ := by
  have h := dec_enc (k := 7) (q := 258) (p := [1, 2]) [] (by omega) (by omega) (by omega) (by omega) (by intro x hx; simp at hx; omega) (by simp)
  rw [List.append_nil] at h
  exact h
set_option maxRecDepth 100000 in
set_option maxHeartbeats 2000000 in
theorem awake_any (w : World) : Calls Try.prog 11 #[] w fun e w' => e = .returned (.bool true) ∧ Below w.heap.size w w' := by
  have hneq := neqV
  obtain ⟨S, hS, hsum, henc⟩ := enc_ex
  have HE := Lib.hid (And.intro hsum henc)
  clear hsum henc
  have k0 : Blk ((w.alloc (.cells #[.int .u8 1, .int .u8 2] 5)).alloc (.cells #[.int .i64 7, .int .i64 258, .slice (some ⟨w.heap.size, 0, none⟩) 2 2] 27)) w.heap.size 5 (u8s [1, 2]).toArray := (Blk.new w 5 _).alloc _
  have k1 : Blk ((w.alloc (.cells #[.int .u8 1, .int .u8 2] 5)).alloc (.cells #[.int .i64 7, .int .i64 258, .slice (some ⟨w.heap.size, 0, none⟩) 2 2] 27)) (w.heap.size + 1) 27 #[.int .i64 7, .int .i64 258, .slice (some ⟨w.heap.size, 0, none⟩) 2 2] := by
    have h := Blk.new (w.alloc (.cells #[.int .u8 1, .int .u8 2] 5)) 27 #[.int .i64 7, .int .i64 258, .slice (some ⟨w.heap.size, 0, none⟩) 2 2]
    simp only [World.size_alloc] at h
    exact h
  have hb0 : Below w.heap.size w ((w.alloc (.cells #[.int .u8 1, .int .u8 2] 5)).alloc (.cells #[.int .i64 7, .int .i64 258, .slice (some ⟨w.heap.size, 0, none⟩) 2 2] 27)) := ((Below.refl _ w).alloc (Nat.le_refl _) _).alloc (by simp) _
  have H0 := Lib.hid (And.intro k0 (And.intro k1 hb0))
  clear k0 k1 hb0
  go_enter Try.func11, Try.ntmps11
  go_wp2_with fail
  generalize ((w.alloc (.cells #[.int .u8 1, .int .u8 2] 5)).alloc (.cells #[.int .i64 7, .int .i64 258, .slice (some ⟨w.heap.size, 0, none⟩) 2 2] 27)) = W at *
  have hR0 : Reads W W.heap.size 1 (some ⟨w.heap.size, 0, none⟩) 2 (u8s [1, 2]) := H0.out.1.reads (size := 1) (n := 2) (by rfl)
  refine (Encode_any 7 258 2 2 _ [1, 2] W hR0 (by intro x hx; simp at hx; omega)).mono ?_
  rintro e w1 ⟨hb1, A1, c1, he, hR1, hc1, hm1⟩
  have e1 : encE 7 258 [1, 2] = (0, encR 7 258 [1, 2]) := rfl
  rw [e1] at he hR1 hc1
  dsimp only at he hR1 hc1
  have hl3 : (encR 7 258 [1, 2]).length = 3 := by rw [enc_len]; rfl
  rw [hl3] at he hR1 hc1
  subst he
  obtain ⟨b1, o1, rfl, hbl1, hcl1⟩ := hR1.sec (by omega)
  rw [HE.out.2] at hcl1
  have H1 := Lib.hid (And.intro hR1 (And.intro hb1 (And.intro hcl1 (And.intro hc1 hm1))))
  have hs1 := hb1.size
  clear hR1 hb1 hcl1 hR0 e1 hl3
  go_wp2_with fail
  have hbs : Blk (w1.alloc (.cells #[.int .u8 7, .int .u8 2, .int .u8 0, .int .u8 1, .int .u8 2] 5)) w1.heap.size 5 (u8s [7, 2, 0, 1, 2]).toArray := Blk.new w1 5 _
  have hbz : Below w1.heap.size w1 (w1.alloc (.cells #[.int .u8 7, .int .u8 2, .int .u8 0, .int .u8 1, .int .u8 2] 5)) := (Below.refl _ _).alloc (Nat.le_refl _) _
  refine (sum_any 5 5 _ [7, 2, 0, 1, 2] _ (by omega) (hbs.reads (size := 1) (n := 5) (by rfl)) (by intro x hx; simp at hx; omega)).mono ?_
  rintro e W2 ⟨rfl, hb2⟩
  rw [HE.out.1]
  have hbb2 : Below w1.heap.size w1 W2 := hbz.trans (hb2.mono (by simp))
  obtain ⟨y00, y01, y02, y03, y04, y05, y06, y07, y10, y11, y12, y13, y14, y15, y16, y17, y20, y21, y22, y23, y24, y25, y26, y27⟩ : W2.cell? ⟨b1, o1, none⟩ = some (.int .u8 (2)) ∧ W2.cell? ⟨b1, o1 + 1, none⟩ = some (.int .u8 (1)) ∧ W2.cell? ⟨b1, o1 + 2, none⟩ = some (.int .u8 (0)) ∧ W2.cell? ⟨b1, o1 + 3, none⟩ = some (.int .u8 (0)) ∧ W2.cell? ⟨b1, o1 + 4, none⟩ = some (.int .u8 (7)) ∧ W2.cell? ⟨b1, o1 + 5, none⟩ = some (.int .u8 (2)) ∧ W2.cell? ⟨b1, o1 + 6, none⟩ = some (.int .u8 (0)) ∧ W2.cell? ⟨b1, o1 + 7, none⟩ = some (.int .u8 (1)) ∧ W2.cell? ⟨b1, o1 + 8, none⟩ = some (.int .u8 (2)) ∧ W2.cell? ⟨b1, o1 + 9, none⟩ = some (.int .u8 (1)) ∧ W2.cell? ⟨b1, o1 + 10, none⟩ = some (.int .u8 (0)) ∧ W2.cell? ⟨b1, o1 + 11, none⟩ = some (.int .u8 (0)) ∧ W2.cell? ⟨b1, o1 + 12, none⟩ = some (.int .u8 (2)) ∧ W2.cell? ⟨b1, o1 + 13, none⟩ = some (.int .u8 ((S : Int) % 256)) ∧ W2.cell? ⟨b1, o1 + 14, none⟩ = some (.int .u8 ((S : Int) / 256 % 256)) ∧ W2.cell? ⟨b1, o1 + 15, none⟩ = some (.int .u8 ((S : Int) / 65536 % 256)) ∧ W2.cell? ⟨b1, o1 + 16, none⟩ = some (.int .u8 (2)) ∧ W2.cell? ⟨b1, o1 + 17, none⟩ = some (.int .u8 (1)) ∧ W2.cell? ⟨b1, o1 + 18, none⟩ = some (.int .u8 (0)) ∧ W2.cell? ⟨b1, o1 + 19, none⟩ = some (.int .u8 (0)) ∧ W2.cell? ⟨b1, o1 + 20, none⟩ = some (.int .u8 ((S : Int) / 16777216)) ∧ W2.cell? ⟨b1, o1 + 21, none⟩ = some (.int .u8 (0)) ∧ W2.cell? ⟨b1, o1 + 22, none⟩ = some (.int .u8 (0)) ∧ W2.cell? ⟨b1, o1 + 23, none⟩ = some (.int .u8 (0)) := by
    have g9 : ∀ i (hi : i < 3), ∀ j u, (encS (([⟨2, 1, 0, 0, 7, 2, 0, 1⟩, ⟨2, 1, 0, 0, 2, S % 256, S / 256 % 256, S / 65536 % 256⟩, ⟨2, 1, 0, 0, S / 16777216, 0, 0, 0⟩] : List Sec)[i]'(by simpa using hi)))[j]? = some u → W2.cell? ⟨b1, o1 + (8 * i + j), none⟩ = some u := fun i hi j u hu =>
      (hbb2.cell (p := ⟨b1, o1 + (8 * i + j), none⟩) hbl1).trans (H1.out.2.2.1 i (by simpa using hi) j u hu)
    exact ⟨g9 0 (by simp) 0 _ rfl, g9 0 (by simp) 1 _ rfl, g9 0 (by simp) 2 _ rfl, g9 0 (by simp) 3 _ rfl, g9 0 (by simp) 4 _ rfl, g9 0 (by simp) 5 _ rfl, g9 0 (by simp) 6 _ rfl, g9 0 (by simp) 7 _ rfl, g9 1 (by simp) 0 _ rfl, g9 1 (by simp) 1 _ rfl, g9 1 (by simp) 2 _ rfl, g9 1 (by simp) 3 _ rfl, g9 1 (by simp) 4 _ rfl, g9 1 (by simp) 5 _ rfl, g9 1 (by simp) 6 _ rfl, g9 1 (by simp) 7 _ rfl, g9 2 (by simp) 0 _ rfl, g9 2 (by simp) 1 _ rfl, g9 2 (by simp) 2 _ rfl, g9 2 (by simp) 3 _ rfl, g9 2 (by simp) 4 _ rfl, g9 2 (by simp) 5 _ rfl, g9 2 (by simp) 6 _ rfl, g9 2 (by simp) 7 _ rfl⟩
  have H2 := Lib.hid (And.intro hbb2 (And.intro hbs hb2))
  clear hbb2 hbs hb2 hbz
  go_wp2_with fail
  have hs2 := H2.out.1.size
  have hRd : Reads W2 W2.heap.size 8 (some ⟨b1, o1, none⟩) 3 ((encR 7 258 [1, 2]).flatMap encS) := H1.out.1.up H2.out.1
  refine (Decode_any 3 c1 (some ⟨b1, o1, none⟩) (encR 7 258 [1, 2]) W2 hRd (by omega) H1.out.2.2.2.1 (enc_ok 258 (by omega) (by intro x hx; simp at hx; omega))).mono ?_
  rintro e W3 ⟨hb3, A3, c3, he, hR3, hc3, hm3, hn3⟩
  rw [dec_ex] at he hR3 hc3 hn3
  dsimp only [List.length_cons, List.length_nil] at he hR3 hc3 hn3
  subst he
  clear y00 y01 y02 y03 y04 y05 y06 y07 y10 y11 y12 y13 y14 y15 y16 y17 y20 y21 y22 y23 y24 y25 y26 y27
  have H3 := Lib.hid (And.intro hb3 (And.intro hR3 hc3))
  have hs3 := hb3.size
  clear hRd hb3 hR3 hc3 hm3 hn3
  have q1 := (H0.out.2.1.below H1.out.2.1 H0.out.2.1.lt).below (H2.out.1.trans (H3.out.1.mono hs2)) (Nat.lt_of_lt_of_le H0.out.2.1.lt hs1)
  have q10 : W3.cell? ⟨w.heap.size + 1, 0, none⟩ = some (.int .i64 7) := q1.cell 0
  have q11 : W3.cell? ⟨w.heap.size + 1, 1, none⟩ = some (.int .i64 258) := q1.cell 1
  have q12 : W3.cell? ⟨w.heap.size + 1, 2, none⟩ = some (.slice (some ⟨w.heap.size, 0, none⟩) 2 2) := q1.cell 2
  have ql := q1.lt
  clear q1
  go_wp2_with fail
  have r0 : Reads W W.heap.size 1 (some ⟨w.heap.size, 0, none⟩) 2 (u8s [1, 2]) := H0.out.1.reads (size := 1) (n := 2) (by rfl)
  have hbx : Below W3.heap.size W3 (W3.alloc (.cells #[.int .i64 7, .int .i64 258, .slice A3 2 c3] 27)) := (Below.refl _ _).alloc (Nat.le_refl _) _
  have r1 := ((r0.up H1.out.2.1).up (H2.out.1.trans (H3.out.1.mono hs2))).up hbx
  have r2 := H3.out.2.1.up hbx
  refine (Same_any 7 258 7 258 2 2 2 c3 _ A3 [1, 2] [1, 2] _ r1 r2).mono ?_
  rintro e w4 ⟨rfl, hb4⟩
  rw [sameB_refl]
  have H4 := Lib.hid (hbx.trans (hb4.mono hbx.size))
  clear r0 r1 r2 hbx hb4
  go_wp2_with fail
  refine (Size_in 0 w4 (by omega)).mono ?_
  rintro e w5 ⟨rfl, rfl⟩
  go_wp2_with fail
  refine (Size_in 1 w4 (by omega)).mono ?_
  rintro e w5 ⟨rfl, rfl⟩
  go_wp2_with fail
  refine (Size_in 2 w4 (by omega)).mono ?_
  rintro e w5 ⟨rfl, rfl⟩
  go_wp2_with fail
  refine (Size_in 5 w4 (by omega)).mono ?_
  rintro e w5 ⟨rfl, rfl⟩
  go_wp2_with fail
  refine (Size_in 4096 w4 (by omega)).mono ?_
  rintro e w5 ⟨rfl, rfl⟩
  go_wp2_with fail
  go_ret
  exact ⟨rfl, H0.out.2.2.trans (((H1.out.2.1.trans ((H2.out.1.trans (H3.out.1.mono hs2)).mono hs1)).trans (H4.out.mono (by omega))).mono H0.out.2.2.size)⟩
end Go.Proofs.Ytbiiahbhgjjhgaa
