/- The walk of the law ChecksumDiffers. No condition. -/
import Derived.Test.YtncpafibcpphfaaLb
import Derived.Test.YtncpafibcpphfaaMathC
namespace Go.Proofs.Ytncpafibcpphfaa
open Go.RowKit
def b8of (l : List Nat) : List B8 := l.map fun x => ⟨x % 256, Nat.mod_lt _ (by omega)⟩
theorem b8of_u8s {l : List Nat} (h : ∀ x ∈ l, x < 256) : b8s (b8of l) = u8s l := by
  unfold b8s b8of u8s
  rw [List.map_map]
  apply List.map_congr_left
  intro x hx
  have := h x hx
  simp [Nat.mod_eq_of_lt this]
theorem b8of_len (l : List Nat) : (b8of l).length = l.length := by simp [b8of]
theorem b8s_set (l : List B8) (i : Nat) (y : B8) : b8s (l.set i y) = (b8s l).set i (.int .u8 (y.1 : Int)) := by simp [b8s]
set_option maxHeartbeats 400000 in
theorem differs_awake (w : World) (A : Option Addr) (n c at_ by_ : Nat) (hn : n ≤ maxLen) (hf : n = 0 ∨ 2000 < n ∨ by_ = 0) :
    Calls Try.prog 7 #[.slice A n c, .int .u16 at_, .int .u8 by_] w fun e w' => e = .returned (.bool true) ∧ Below w.heap.size w w' := by
  unfold maxLen at hn
  by_cases h0 : n = 0
  · subst h0
    go_enter Try.func7, Try.ntmps7
    go_wp2_with fail
    refine (awake_any _).mono ?_
    rintro e w1 ⟨rfl, hb1⟩
    go_wp2_with fail
    go_ret
    exact ⟨rfl, hb1⟩
  · have k0 : ((n : Int) == 0) = false := by simpa using h0
    by_cases h1 : 2000 < n
    · go_enter Try.func7, Try.ntmps7
      go_wp2_with fail
      refine (awake_any _).mono ?_
      rintro e w1 ⟨rfl, hb1⟩
      go_wp2_with fail
      go_ret
      exact ⟨rfl, hb1⟩
    · have h2 : by_ = 0 := by omega
      subst h2
      go_enter Try.func7, Try.ntmps7
      go_wp2_with fail
      refine (awake_any _).mono ?_
      rintro e w1 ⟨rfl, hb1⟩
      go_wp2_with fail
      go_ret
      exact ⟨rfl, hb1⟩
set_option maxHeartbeats 1000000 in
theorem differs_go (w : World) (A : Option Addr) (n c a y : Nat) (l : List B8) (hx : Reads w w.heap.size 1 A n (b8s l)) (h1 : ∀ u ∈ b8s l, u.oneCell' = true) (ha : a < 65536) (hy : y < 256) (hn0 : 0 < n) (hn : n ≤ 2000) (hy0 : y ≠ 0) :
    Calls Try.prog 7 #[.slice A n c, .int .u16 a, .int .u8 y] w fun e w' => e = .returned (.bool true) ∧ Below w.heap.size w w' := by
  have hlen : l.length = n := by have := hx.1; rw [b8s_len] at this; omega
  have hi : a % n < l.length := by rw [hlen]; exact Nat.mod_lt _ hn0
  obtain ⟨z, hz⟩ : ∃ z : B8, z = l[a % n] := ⟨_, rfl⟩
  have hzb := z.2
  have hxy : z.1 ^^^ y < 256 := Nat.xor_lt_two_pow (n := 8) hzb hy
  have hne : dig l ≠ dig (l.set (a % n) ⟨z.1 ^^^ y, hxy⟩) := by
    refine dig_set_ne l (a % n) hi _ ?_
    rw [← hz]
    intro e
    have e1 : z.1 ^^^ y = z.1 := congrArg Subtype.val e
    have e2 : z.1 ^^^ y = z.1 ^^^ 0 := by rw [e1, Nat.xor_zero]
    exact hy0 (xor_inj_left e2)
  have hget : (b8s l)[a % n]? = some (.int .u8 (z.1 : Int)) := by rw [b8s_get l _ hi, hz]
  have hbits : bits .xor .u8 (z.1 : Int) (y : Int) = ((z.1 ^^^ y : Nat) : Int) := u8_xor_nat z.1 y hzb hy
  have HLEN := Lib.hid hlen
  have HNE := Lib.hid hne
  have HGET := Lib.hid hget
  clear hlen hne hz hget
  obtain ⟨z, hz8⟩ := z
  dsimp only at *
  have k0 : ((n : Int) == 0) = false := by simp; omega
  have k1 : ((y : Int) == 0) = false := by simp; omega
  have k2 : (n : Int) ≠ 0 := by omega
  have m0 : 0 ≤ (a : Int) % n := Int.emod_nonneg _ k2
  have m1 : (a : Int) % n < n := Int.emod_lt_of_pos _ (by omega)
  obtain ⟨i0, hi0, hz0, hz1, hz2⟩ := info_parts info5
  have HI := Lib.hid (And.intro hi0 (And.intro hz0 (And.intro hz1 hz2)))
  clear hi0 hz0 hz1 hz2
  have hb0 : Below w.heap.size w (w.alloc (.cells #[] 5)) := (Below.refl _ w).alloc (Nat.le_refl _) _
  go_enter Try.func7, Try.ntmps7
  go_wp2_with (first
    | (at_builtin
       refine wpList_append_any _ rfl (.tmp 22) (.tmp 23) _ rfl w.heap.size 5 i0 _ 1 1 Try.underlying26 HI.out.1 HI.out.2.1 HI.out.2.2.1 HI.out.2.2.2 rfl (by omega) (.slice (some ⟨w.heap.size, 0, none⟩) 0 0) 0 [] rfl
         (own_empty _ _ _) w.heap.size A n c (b8s l) rfl (hx.below hb0) h1 (by simp only [maxLen]; omega) (by omega) (by simp) ?_
       intro v1 w1 hown1 hg1 hat1
       have hb1 : Below w.heap.size w w1 := hb0.grown hg1 (by simp) (by simp [Value.ownBlock])
       simp only [Nat.zero_add, List.nil_append] at hown1
       obtain ⟨g, cap, cur, hv1, hbg, hB1, hnc, hcm, hcs, hct⟩ := own_blk hown1 hn0
       rw [hv1]
       clear hat1 hg1 hown1 hv1
       have HCS := Lib.hid hcs
       have HCT := Lib.hid hct
       clear hcs hct
       unfold maxLen at hcm
       have hcell : w1.cell? ⟨g, a % n, none⟩ = some (.int .u8 (z : Int)) := by
         rw [hB1.cell]
         have e := HGET.out
         rw [← HCT.out, Nat.mul_one, List.getElem?_take_of_lt (Nat.mod_lt _ hn0)] at e
         simpa using e
       have hfro : w1.frozen? ⟨g, a % n, none⟩ = false := hB1.frozen _))
  have hb2 : Below w.heap.size w (w1.setCell ⟨g, a % n, none⟩ (.int .u8 ((z ^^^ y : Nat) : Int))) := hb1.setCell hbg _
  have hB2 := hB1.set_ (a % n) (.int .u8 ((z ^^^ y : Nat) : Int))
  have hr2 := hB2.reads_take (size := 1) (n := n) (by rw [Array.size_setIfInBounds, HCS.out]; omega)
  rw [take_set HCT.out, ← b8s_set l (a % n) ⟨z ^^^ y, hxy⟩] at hr2
  generalize (w1.setCell ⟨g, a % n, none⟩ (.int .u8 ((z ^^^ y : Nat) : Int))) = w2 at *
  have HNEB : Hid (((dig l : Nat) : Int) ≠ ((dig (l.set (a % n) ⟨z ^^^ y, hxy⟩) : Nat) : Int)) := by
    intro e
    exact HNE.out (by omega)
  generalize l.set (a % n) ⟨z ^^^ y, hxy⟩ = l2 at *
  clear hB1 hB2 hcell hfro hbits
  refine (awake_any _).mono ?_
  rintro e w4 ⟨rfl, hb4⟩
  have hb4' := hb2.trans (hb4.mono hb2.size)
  go_wp2_with fail
  refine (Digest_any _ _ _ l _ (by omega) ((hx.below hb4').more hb4'.size)).mono ?_
  rintro e w5 ⟨rfl, hb5⟩
  have hb5' := hb4'.trans (hb5.mono hb4'.size)
  have hr5 := (hr2.below hb4).more hb4.size |>.below hb5
  go_wp2_with fail
  refine (Digest_any _ _ _ l2 _ (by omega) (hr5.more hb5.size)).mono ?_
  rintro e w6 ⟨rfl, hb6⟩
  have hb6' := hb5'.trans (hb6.mono hb5'.size)
  have hbne : (((dig l : Nat) : Int) != ((dig l2 : Nat) : Int)) = true := by rw [bne_iff_ne]; exact HNEB.out
  generalize ((dig l : Nat) : Int) = d1 at *
  generalize ((dig l2 : Nat) : Int) = d2 at *
  go_wp2_with fail
  go_ret
  exact ⟨rfl, hb6'⟩
theorem walkChecksumDiffers (w : World) (v0 v1 v2 : Value) (h0 : Arg26 w v0) (h1 : Arg30 w v1) (h2 : Arg5 w v2) :
    Calls Try.prog 7 #[v0, v1, v2] w fun e w' => e = .returned (.bool true) ∧ Below w.heap.size w w' := by
  obtain ⟨A, n, c, l, rfl, hx, bx, hnc, hcm⟩ := h0
  obtain ⟨a, rfl, ha⟩ := h1
  obtain ⟨y, rfl, hy⟩ := h2
  by_cases hf : n = 0 ∨ 2000 < n ∨ y = 0
  · exact differs_awake w A n c a y (by omega) hf
  · rw [← b8of_u8s bx] at hx
    exact differs_go w A n c a y _ hx (by rw [b8of_u8s bx]; exact u8s_one _) ha hy (by omega) (by omega) (by omega)
end Go.Proofs.Ytncpafibcpphfaa
