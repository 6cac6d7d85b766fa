/- The walk of the law ChecksumJoins. No condition. -/
import Derived.Test.YtncpafibcpphfaaWg
import Derived.Test.YtncpafibcpphfaaArgs
import Derived.Test.YtncpafibcpphfaaMathB
import Derived.Test.YtncpafibcpphfaaLibB
namespace Go.Proofs.Ytncpafibcpphfaa
open Go.RowKit
theorem info5 : (Try.prog.info? 5).map (fun i => (i.zero, i.size, i.bytes)) = some (some (.int .u8 0), 1, 1) := by kernel_rfl
theorem u8s_one (l : List Nat) : ∀ u ∈ u8s l, u.oneCell' = true := by
  intro u hu
  obtain ⟨x, _, rfl⟩ := List.mem_map.1 hu
  rfl
theorem u8s_append (l m : List Nat) : u8s l ++ u8s m = u8s (l ++ m) := by simp [u8s]
theorem u8s_len (l : List Nat) : (u8s l).length = l.length := by simp [u8s]
set_option maxHeartbeats 400000 in
theorem joins_far (w : World) (A B : Option Addr) (n m c d : Nat) (hn : n ≤ maxLen) (hm : m ≤ maxLen) (hf : 2000 < n ∨ 2000 < m) :
    Calls Try.prog 4 #[.slice A n c, .slice B m d] w fun e w' => e = .returned (.bool true) ∧ Below w.heap.size w w' := by
  unfold maxLen at hn hm
  by_cases h1 : 2000 < n
  · go_enter Try.func4, Try.ntmps4
    go_wp2_with fail
    refine (awake_any _).mono ?_
    rintro e w1 ⟨rfl, hb1⟩
    go_wp2_with fail
    go_ret
    exact ⟨rfl, hb1⟩
  · have h2 : 2000 < m := by omega
    go_enter Try.func4, Try.ntmps4
    go_wp2_with fail
    refine (awake_any _).mono ?_
    rintro e w1 ⟨rfl, hb1⟩
    go_wp2_with fail
    go_ret
    exact ⟨rfl, hb1⟩
set_option maxHeartbeats 1000000 in
theorem joins_near (w : World) (A B : Option Addr) (n m c d : Nat) (lx ly : List Nat) (hx : Reads w w.heap.size 1 A n (u8s lx)) (hy : Reads w w.heap.size 1 B m (u8s ly))
    (bx : ∀ x ∈ lx, x < 256) (by' : ∀ x ∈ ly, x < 256) (hn : n ≤ 2000) (hm : m ≤ 2000) :
    Calls Try.prog 4 #[.slice A n c, .slice B m d] w fun e w' => e = .returned (.bool true) ∧ Below w.heap.size w w' := by
  obtain ⟨i0, hi0, hz0, hz1, hz2⟩ := info_parts info5
  have HI := Lib.hid (And.intro hi0 (And.intro hz0 (And.intro hz1 hz2)))
  clear hi0 hz0 hz1 hz2
  have hb0 : Below w.heap.size w (w.alloc (.cells #[] 5)) := (Below.refl _ w).alloc (Nat.le_refl _) _
  go_enter Try.func4, Try.ntmps4
  go_wp2_with (first
    | (at_builtin
       refine wpList_append_any _ rfl (.tmp 15) (.tmp 16) _ rfl w.heap.size 5 i0 _ 1 1 Try.underlying26 HI.out.1 HI.out.2.1 HI.out.2.2.1 HI.out.2.2.2 rfl (by omega) (.slice (some ⟨w.heap.size, 0, none⟩) 0 0) 0 [] rfl
         (own_empty _ _ _) w.heap.size A n c (u8s lx) rfl (hx.below hb0) (u8s_one _) (by simp only [maxLen]; omega) (by omega) (by simp) ?_
       intro v1 w1 hown1 hg1 hat1
       have hb1 : Below w.heap.size w w1 := hb0.grown hg1 (by simp) (by simp [Value.ownBlock])
       simp only [Nat.zero_add, List.nil_append] at hown1)
    | (at_builtin
       refine wpList_append_any _ rfl (.tmp 17) (.tmp 18) _ rfl w.heap.size 5 i0 _ 1 1 Try.underlying26 HI.out.1 HI.out.2.1 HI.out.2.2.1 HI.out.2.2.2 rfl (by omega) v1 n (u8s lx) rfl
         hown1 w.heap.size B m d (u8s ly) rfl (hy.below hb1) (u8s_one _) (by simp only [maxLen]; omega) (by omega) hb1.size ?_
       intro v2 w2 hown2 hg2 hat2
       have hb2 : Below w.heap.size w w2 := hb1.grown hg2 hb1.size (by intro k hk; rcases hat1 with e | e <;> rw [e] at hk <;> simp [Value.ownBlock] at hk <;> omega)))
  obtain ⟨A2, c2, hv2, _, _, hr2⟩ := own_slice hown2
  rw [hv2]
  rw [u8s_append] at hr2
  have bxy : ∀ x ∈ lx ++ ly, x < 256 := fun x hx => (List.mem_append.1 hx).elim (bx x) (by' x)
  clear hown1 hown2 hg1 hg2 hat1 hat2 hv2
  refine (sum_any _ _ _ _ _ (by omega) hr2 bxy).mono ?_
  rintro e w3 ⟨rfl, hb3⟩
  have hb3' := hb2.trans (hb3.mono hb2.size)
  have hs : updS (updS 0 lx) ly = updS 0 (lx ++ ly) := joins_update lx ly
  have hc' : updZ ly.length (updS 0 lx) ^^^ updS 0 ly = updS 0 (lx ++ ly) := joins_combine lx ly
  have lx0 : updS 0 lx < 4294967296 := updS_lt (by omega) bx
  have ly0 : updS 0 ly < 4294967296 := updS_lt (by omega) by'
  have hml : ly.length = m := by have := hy.1; rw [u8s_len] at this; omega
  rw [hml] at hc'
  have HC := Lib.hid hc'
  have HS := Lib.hid hs
  clear hc' hs hml
  go_wp2_with fail
  refine (awake_any _).mono ?_
  rintro e w4 ⟨rfl, hb4⟩
  have hb4' := hb3'.trans (hb4.mono hb3'.size)
  clear hb3 hb4
  go_wp2_with fail
  refine (sum_any _ _ _ lx _ (by omega) ((hx.below hb4').more hb4'.size) bx).mono ?_
  rintro e w5 ⟨rfl, hb5⟩
  have hb5' := hb4'.trans (hb5.mono hb4'.size)
  clear hb5
  go_wp2_with fail
  refine (update_any _ _ _ _ ly _ lx0 (by omega) ((hy.below hb5').more hb5'.size) by').mono ?_
  rintro e w6 ⟨rfl, hb6⟩
  have hb6' := hb5'.trans (hb6.mono hb5'.size)
  clear hb6
  rw [HS.out]
  go_wp2_with fail
  refine (sum_any _ _ _ lx _ (by omega) ((hx.below hb6').more hb6'.size) bx).mono ?_
  rintro e w7 ⟨rfl, hb7⟩
  have hb7' := hb6'.trans (hb7.mono hb6'.size)
  clear hb7
  go_wp2_with fail
  refine (sum_any _ _ _ ly _ (by omega) ((hy.below hb7').more hb7'.size) by').mono ?_
  rintro e w8 ⟨rfl, hb8⟩
  have hb8' := hb7'.trans (hb8.mono hb7'.size)
  clear hb8
  go_wp2_with fail
  refine (combine_in _ _ _ _ lx0 ly0 (by omega)).mono ?_
  rintro e w9 ⟨rfl, hb9⟩
  have hb9' := hb8'.trans (hb9.mono hb8'.size)
  clear hb9
  rw [HC.out]
  go_wp2_with fail
  go_ret
  exact ⟨rfl, hb9'⟩
theorem walkChecksumJoins (w : World) (v0 v1 : Value) (h0 : Arg26 w v0) (h1 : Arg26 w v1) :
    Calls Try.prog 4 #[v0, v1] w fun e w' => e = .returned (.bool true) ∧ Below w.heap.size w w' := by
  obtain ⟨A, n, c, lx, rfl, hx, bx, hnc, hcm⟩ := h0
  obtain ⟨B, m, d, ly, rfl, hy, by', hmd, hdm⟩ := h1
  by_cases hf : 2000 < n ∨ 2000 < m
  · exact joins_far w A B n m c d (by omega) (by omega) hf
  · exact joins_near w A B n m c d lx ly hx hy bx by' (by omega) (by omega)
end Go.Proofs.Ytncpafibcpphfaa
