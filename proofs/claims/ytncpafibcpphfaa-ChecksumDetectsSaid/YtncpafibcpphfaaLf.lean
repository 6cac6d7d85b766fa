/- The walk of the law ChecksumDetects. No condition. -/
import Derived.Test.YtncpafibcpphfaaLc
import Derived.Test.YtncpafibcpphfaaArgsB
import Derived.Test.YtncpafibcpphfaaMathD
import Derived.RegionTactic
import Derived.BigRegion
namespace Go.Proofs.Ytncpafibcpphfaa
open Go.RowKit
theorem u8s_set (l : List Nat) (i v : Nat) : u8s (l.set i v) = (u8s l).set i (.int .u8 (v : Int)) := by simp [u8s]
theorem eq5 (d : Nat) (x z : Int) (w : World) : (Op.equalIn (d + 1) 5 (.int .u8 x) (.int .u8 z)).run Try.prog w = .ok (x == z) w := by
  simp [Op.equalIn, run_underlying Try.underlying5]
theorem part5 (cs : Array Value) (i : Nat) (v : Value) (w : World) (h : cs[i]? = some v) : (part 5 cs i).run Try.prog w = .ok v w := by
  simp [part, isAgg, run_underlying Try.underlying5, h]
theorem eql31 (x0 x1 x2 x3 z0 z1 z2 z3 : Int) (w : World) : (binOp .eql 31 (.agg #[.int .u8 x0, .int .u8 x1, .int .u8 x2, .int .u8 x3]) (.agg #[.int .u8 z0, .int .u8 z1, .int .u8 z2, .int .u8 z3])).run Try.prog w = .ok (.bool (x0 == z0 && (x1 == z1 && (x2 == z2 && x3 == z3)))) w := by
  have hs : ∀ w, (sizeOf 5).run Try.prog w = .ok 1 w := fun w => by kernel_rfl
  have e : ∀ w, (Op.equalIn (9998 + 1 + 1) 31 (.agg #[.int .u8 x0, .int .u8 x1, .int .u8 x2, .int .u8 x3]) (.agg #[.int .u8 z0, .int .u8 z1, .int .u8 z2, .int .u8 z3])).run Try.prog w = .ok (x0 == z0 && (x1 == z1 && (x2 == z2 && x3 == z3))) w := by
    intro w
    rw [Op.equalIn]
    simp only [Sem.run_bind, run_underlying Try.underlying31, Result.andThen_ok, hs]
    simp [Std.Legacy.Range.forIn_eq_forIn_range', List.range', Sem.run_bind, part5, eq5]
    by_cases h0 : x0 = z0 <;> by_cases h1 : x1 = z1 <;> by_cases h2 : x2 = z2 <;> by_cases h3 : x3 = z3 <;> simp [h0, h1, h2, h3]
  simp only [binOp]
  simp [Op.equal, Op.maxDepth, e]
set_option maxHeartbeats 1000000 in
theorem detects_near (w : World) (A : Option Addr) (n c a y0 y1 y2 y3 : Nat) (l : List Nat) (hx : Reads w w.heap.size 1 A n (u8s l)) (bl : ∀ x ∈ l, x < 256) (ha : a < 65536) (h0 : y0 < 256) (h1 : y1 < 256) (h2 : y2 < 256) (h3 : y3 < 256) (hne : ¬ (y0 = 0 ∧ y1 = 0 ∧ y2 = 0 ∧ y3 = 0)) (hn4 : 4 ≤ n) (hn : n ≤ 2000) :
    Calls Try.prog 5 #[.slice A n c, .int .u16 a, .agg #[.int .u8 y0, .int .u8 y1, .int .u8 y2, .int .u8 y3]] w fun e w' => e = .returned (.bool true) ∧ Below w.heap.size w w' := by
  obtain ⟨i0, hi0, hz0, hz1, hz2⟩ := info_parts info5
  have HI := Lib.hid (And.intro hi0 (And.intro hz0 (And.intro hz1 hz2)))
  clear hi0 hz0 hz1 hz2
  have heq : ∀ w, (binOp .eql 31 (.agg #[.int .u8 y0, .int .u8 y1, .int .u8 y2, .int .u8 y3]) (.agg #[.int .u8 0, .int .u8 0, .int .u8 0, .int .u8 0])).run Try.prog w = .ok (.bool false) w := by
    intro w
    rw [eql31]
    congr 2
    rw [Bool.eq_false_iff]
    intro h
    simp at h
    omega
  have HNE := Lib.hid hne
  clear hne
  have hlen : l.length = n := by have := hx.1; rw [u8s_len] at this; omega
  have HLEN := Lib.hid hlen
  clear hlen
  have hb00 : Below w.heap.size w (w.alloc (.cells #[.int .u8 y0, .int .u8 y1, .int .u8 y2, .int .u8 y3] 31)) := (Below.refl _ w).alloc (Nat.le_refl _) _
  have hb0 := hb00.alloc (by simp) (.cells #[] 5)
  have ho := own_empty (w.alloc (.cells #[.int .u8 y0, .int .u8 y1, .int .u8 y2, .int .u8 y3] 31)) 5 1
  rw [World.size_alloc] at ho
  have hbl := (Blk.new w 31 #[.int .u8 y0, .int .u8 y1, .int .u8 y2, .int .u8 y3]).alloc (.cells #[] 5)
  have HO := Lib.hid ho
  have HBL := Lib.hid hbl
  clear ho hbl
  have k2 : ((n : Int) - 3) ≠ 0 := by omega
  have m0 : 0 ≤ (a : Int) % (n - 3) := Int.emod_nonneg _ k2
  have m1 : (a : Int) % (n - 3) < n - 3 := Int.emod_lt_of_pos _ (by omega)
  go_enter Try.func5, Try.ntmps5
  go_wp2_with (at_builtin; refine wpList_append_any _ rfl (.tmp 24) (.tmp 25) _ rfl (w.heap.size + 1) 5 i0 _ 1 1 Try.underlying26 HI.out.1 HI.out.2.1 HI.out.2.2.1 HI.out.2.2.2 rfl (by omega) (.slice (some ⟨w.heap.size + 1, 0, none⟩) 0 0) 0 [] rfl HO.out w.heap.size A n c (u8s l) rfl (hx.below hb0) (u8s_one _) (by simp only [maxLen]; omega) (by omega) (by simp) ?_; intro v1 w1 hown1 hg1 _; simp only [Nat.zero_add, List.nil_append] at hown1; obtain ⟨g, cap, cur, hv1, hbg, hB1, hnc, hcm, hcs, hct⟩ := own_blk hown1 (by omega); rw [hv1])
  have hb1 : Below w.heap.size w w1 := hb0.grown hg1 (by simp; omega) (by intro k hk; simp [Value.ownBlock] at hk; omega)
  have hby : Blk w1 w.heap.size 31 #[.int .u8 y0, .int .u8 y1, .int .u8 y2, .int .u8 y3] := HBL.out.grown hg1 (by simp [Value.ownBlock])
  have hgw : g < w1.heap.size := hB1.lt
  obtain ⟨idx, hidx⟩ := Int.eq_ofNat_of_zero_le m0
  rw [hidx]
  rw [hidx] at m0 m1
  clear hg1 hown1 hv1 HO HBL hidx
  have HCS := Lib.hid hcs
  have HCT := Lib.hid hct
  clear hcs hct
  go_loopw [9] (fun i wr => ∃ k : Nat, k ≤ 4 ∧ i = .int .i64 k ∧ (∃ cur, Blk wr g 5 cur ∧ cur.size = cap * 1 ∧ cur.toList.take (n * 1) = u8s (pat l idx [y0, y1, y2, y3] k)) ∧ Below (w.heap.size + 1) w1 wr) (fun i _ => 4 - (intOf i).toNat)
  case atStart => exact ⟨0, by omega, rfl, ⟨cur, hB1, HCS.out, by rw [HCT.out, pat_zero]⟩, Below.refl _ _⟩
  case round =>
    obtain ⟨k, hk, rfl, ⟨cu, hBk, hck, htk⟩, hbk⟩ := hrel
    by_cases hlt : k < 4
    · have hidk : idx + k < l.length := by rw [HLEN.out]; omega
      have hidn : idx + k < n := by omega
      have hy : ∃ y : Nat, y < 256 ∧ [y0, y1, y2, y3].getD k 0 = y ∧ wr.cell? ⟨w.heap.size, k, none⟩ = some (.int .u8 (y : Int)) := by
        have : k = 0 ∨ k = 1 ∨ k = 2 ∨ k = 3 := by omega
        rcases this with rfl | rfl | rfl | rfl
        · exact ⟨y0, h0, rfl, (hby.below hbk (by omega)).cell 0⟩
        · exact ⟨y1, h1, rfl, (hby.below hbk (by omega)).cell 1⟩
        · exact ⟨y2, h2, rfl, (hby.below hbk (by omega)).cell 2⟩
        · exact ⟨y3, h3, rfl, (hby.below hbk (by omega)).cell 3⟩
      obtain ⟨y, hyb, hye, hyc⟩ := hy
      obtain ⟨z, hz⟩ : ∃ z, z = l.getD (idx + k) 0 := ⟨_, rfl⟩
      have hzb : z < 256 := by
        rw [hz, List.getD_eq_getElem?_getD, List.getElem?_eq_getElem hidk]
        exact bl _ (List.getElem_mem _)
      have hzc : wr.cell? ⟨g, idx + k, none⟩ = some (.int .u8 (z : Int)) := by
        rw [hBk.cell]
        have e : (cu.toList.take (n * 1))[idx + k]? = some (.int .u8 (z : Int)) := by
          rw [htk]
          unfold u8s
          rw [List.getElem?_map, pat_get _ _ _ _ hidk, hz]
          rfl
        rw [List.getElem?_take_of_lt (by omega)] at e
        simpa using e
      have hzf : wr.frozen? ⟨g, idx + k, none⟩ = false := hBk.frozen _
      have hxor : bits .xor .u8 (z : Int) (y : Int) = ((z ^^^ y : Nat) : Int) := u8_xor_nat z y hzb hyb
      have hnx : (pat l idx [y0, y1, y2, y3] k).set (idx + k) (z ^^^ y) = pat l idx [y0, y1, y2, y3] (k + 1) := by rw [← pat_set, hye, hz]
      have HN := Lib.hid hnx
      have HK := Lib.hid (And.intro hBk (And.intro hck htk))
      clear hnx hye hz hBk hck htk
      go_wp2
      go_region
      all_goals go_wp2
      go_roundw
      case rel => exact ⟨k + 1, by omega, by go_num, ⟨_, (HK.out.1.set_ _ _).drew, by rw [Array.size_setIfInBounds]; exact HK.out.2.1, by rw [take_set HK.out.2.2, ← HN.out, u8s_set]⟩, (hbk.setCell (p := ⟨g, idx + k, none⟩) hbg _).drew⟩
      case measure => simp [intOf]; omega
    · obtain rfl : k = 4 := by omega
      have hr := hBk.reads_take (size := 1) (n := n) (by rw [hck]; omega)
      rw [htk] at hr
      have hne2 := detects l idx y0 y1 y2 y3 (by rw [HLEN.out]; omega) h0 h1 h2 h3 HNE.out _ (pat_four l idx y0 y1 y2 y3 (by rw [HLEN.out]; omega))
      have bm : ∀ x ∈ pat l idx [y0, y1, y2, y3] 4, x < 256 := by
        intro x hx
        obtain ⟨j, hj, rfl⟩ := List.getElem_of_mem hx
        have hjl : j < l.length := by rw [pat_len] at hj; exact hj
        have hlj : l.getD j 0 < 256 := by
          rw [List.getD_eq_getElem?_getD, List.getElem?_eq_getElem hjl]
          exact bl _ (List.getElem_mem _)
        rw [pat_at]
        split
        · refine Nat.xor_lt_two_pow (n := 8) hlj ?_
          have : j - idx = 0 ∨ j - idx = 1 ∨ j - idx = 2 ∨ j - idx = 3 := by omega
          rcases this with e | e | e | e <;> rw [e] <;> assumption
        · exact hlj
      have HNEB : Hid (((updS 0 l : Nat) : Int) ≠ ((updS 0 (pat l idx [y0, y1, y2, y3] 4) : Nat) : Int)) := by
        intro e
        exact hne2 (by omega)
      have HR := Lib.hid hr
      generalize pat l idx [y0, y1, y2, y3] 4 = m at *
      clear hne2 hr hBk hck htk
      have hb2 := hb1.trans (hbk.mono (by omega))
      go_wp2_with fail
      refine (awake_any _).mono ?_
      rintro e w4 ⟨rfl, hb4⟩
      have hb4' := hb2.trans (hb4.mono hb2.size)
      go_wp2_with fail
      refine (sum_any _ _ _ l _ (by omega) (hx.up hb4') bl).mono ?_
      rintro e w5 ⟨rfl, hb5⟩
      have hb5' := hb4'.trans (hb5.mono hb4'.size)
      go_wp2_with fail
      refine (sum_any _ _ _ m _ (by omega) (HR.out.up (hb4.trans (hb5.mono hb4.size))) bm).mono ?_
      rintro e w6 ⟨rfl, hb6⟩
      have hb6' := hb5'.trans (hb6.mono hb5'.size)
      have hbne : (((updS 0 l : Nat) : Int) != ((updS 0 m : Nat) : Int)) = true := by rw [bne_iff_ne]; exact HNEB.out
      generalize ((updS 0 l : Nat) : Int) = d1 at *
      generalize ((updS 0 m : Nat) : Int) = d2 at *
      go_wp2_with fail
      go_ret
      exact ⟨rfl, hb6'⟩
set_option maxHeartbeats 400000 in
theorem detects_far (w : World) (A : Option Addr) (n c a y0 y1 y2 y3 : Nat) (hn : n ≤ maxLen) (hf : n < 4 ∨ 2000 < n ∨ (y0 = 0 ∧ y1 = 0 ∧ y2 = 0 ∧ y3 = 0)) :
    Calls Try.prog 5 #[.slice A n c, .int .u16 a, .agg #[.int .u8 y0, .int .u8 y1, .int .u8 y2, .int .u8 y3]] w fun e w' => e = .returned (.bool true) ∧ Below w.heap.size w w' := by
  unfold maxLen at hn
  have hb0 : Below w.heap.size w (w.alloc (.cells #[.int .u8 y0, .int .u8 y1, .int .u8 y2, .int .u8 y3] 31)) := (Below.refl _ w).alloc (Nat.le_refl _) _
  by_cases c1 : n < 4
  · go_enter Try.func5, Try.ntmps5
    go_wp2_with fail
    refine (awake_any _).mono ?_
    rintro e w1 ⟨rfl, hb1⟩
    go_wp2_with fail
    go_ret
    exact ⟨rfl, hb0.trans (hb1.mono hb0.size)⟩
  · by_cases c2 : 2000 < n
    · have c3 : ¬ (n : Int) < 4 := by omega
      go_enter Try.func5, Try.ntmps5
      go_wp2_with fail
      refine (awake_any _).mono ?_
      rintro e w1 ⟨rfl, hb1⟩
      go_wp2_with fail
      go_ret
      exact ⟨rfl, hb0.trans (hb1.mono hb0.size)⟩
    · obtain ⟨rfl, rfl, rfl, rfl⟩ : y0 = 0 ∧ y1 = 0 ∧ y2 = 0 ∧ y3 = 0 := by omega
      have c3 : ¬ (n : Int) < 4 := by omega
      have heq : ∀ w, (binOp .eql 31 (.agg #[.int .u8 0, .int .u8 0, .int .u8 0, .int .u8 0]) (.agg #[.int .u8 0, .int .u8 0, .int .u8 0, .int .u8 0])).run Try.prog w = .ok (.bool true) w := by
        intro w
        rw [eql31]
        rfl
      go_enter Try.func5, Try.ntmps5
      go_wp2_with fail
      refine (awake_any _).mono ?_
      rintro e w1 ⟨rfl, hb1⟩
      go_wp2_with fail
      go_ret
      exact ⟨rfl, hb0.trans (hb1.mono hb0.size)⟩
theorem walkChecksumDetects (w : World) (v0 v1 v2 : Value) (h0 : Arg26 w v0) (h1 : Arg30 w v1) (h2 : Arg31 w v2) :
    Calls Try.prog 5 #[v0, v1, v2] w fun e w' => e = .returned (.bool true) ∧ Below w.heap.size w w' := by
  obtain ⟨A, n, c, l, rfl, hx, bx, hnc, hcm⟩ := h0
  obtain ⟨a, rfl, ha⟩ := h1
  obtain ⟨⟨y0, k0⟩, ⟨y1, k1⟩, ⟨y2, k2⟩, ⟨y3, k3⟩, rfl⟩ := h2
  by_cases hf : n < 4 ∨ 2000 < n ∨ (y0 = 0 ∧ y1 = 0 ∧ y2 = 0 ∧ y3 = 0)
  · exact detects_far w A n c a y0 y1 y2 y3 (by omega) hf
  · exact detects_near w A n c a y0 y1 y2 y3 l hx bx ha k0 k1 k2 k3 (by omega) (by omega) (by omega)
end Go.Proofs.Ytncpafibcpphfaa
