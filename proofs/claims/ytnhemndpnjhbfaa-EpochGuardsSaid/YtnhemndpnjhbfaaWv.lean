/- The walk of awake: the examples of the chapter. No condition. -/
import Derived.Test.YtnhemndpnjhbfaaWu
namespace Go.Proofs.Ytnhemndpnjhbfaa
open Go.RowKit Go.Shelf
def LA : List Span := [⟨1, 1, 5⟩, ⟨3, 6, 9⟩]
def LQ : List (Int × Int) := [(1, 5), (3, 6), (3, 9)]
theorem eRun : runX LQ [] = some LA := by kernel_rfl
set_option maxRecDepth 100000 in
set_option maxHeartbeats 10000000 in
theorem awake_any (w : World) : Calls Try.prog 12 #[] w fun e w' => e = .returned (.bool true) ∧ Below w.heap.size w w' := by
  go_enter Try.func12, Try.ntmps12
  go_wp2_with fail
  refine (New_any 2 1 w).mono ?_
  rintro e w1 ⟨rfl, hb1⟩
  rw [show checkF 2 1 = 0 by kernel_rfl, show fenceB 2 1 = true by kernel_rfl, if_pos rfl]
  go_wp2_with fail
  refine (Admit_any 2 1 2 1 false _).mono ?_
  rintro e w2 ⟨rfl, hb2⟩
  rw [show admitV 2 1 false 2 1 = 0 by kernel_rfl]
  obtain ⟨hc2, _⟩ := bcell hb2
  have hz2_0 : w1.heap.size < w2.heap.size := by have := hb2.size; (try simp only [World.size_alloc] at this); omega
  have hB2 : Below w1.heap.size w1 w2 := ((Below.refl _ _).alloc (Nat.le_refl _) _).trans (hb2.mono (by simp))
  go_wp2_with fail
  refine (Admit_any 2 1 1 1 false _).mono ?_
  rintro e w3 ⟨rfl, hb3⟩
  rw [show admitV 2 1 false 1 1 = 13 by kernel_rfl]
  obtain ⟨hc3, _⟩ := bcell hb3
  have hz3_0 : w1.heap.size < w3.heap.size := by have := hb3.size; (try simp only [World.size_alloc] at this); omega
  have hB3 : Below w2.heap.size w2 w3 := hb3
  go_wp2_with fail
  refine (Admit_any 2 1 3 1 false _).mono ?_
  rintro e w4 ⟨rfl, hb4⟩
  rw [show admitV 2 1 false 3 1 = 1 by kernel_rfl]
  obtain ⟨hc4, _⟩ := bcell hb4
  have hz4_0 : w1.heap.size < w4.heap.size := by have := hb4.size; (try simp only [World.size_alloc] at this); omega
  have hB4 : Below w3.heap.size w3 w4 := hb4
  go_wp2_with fail
  refine (Admit_any 2 1 2 0 false _).mono ?_
  rintro e w5 ⟨rfl, hb5⟩
  rw [show admitV 2 1 false 2 0 = 14 by kernel_rfl]
  obtain ⟨hc5, _⟩ := bcell hb5
  have hz5_0 : w1.heap.size < w5.heap.size := by have := hb5.size; (try simp only [World.size_alloc] at this); omega
  have hB5 : Below w4.heap.size w4 w5 := hb5
  go_wp2_with fail
  refine (Shut_any 2 1 3 false _).mono ?_
  rintro e w6 ⟨rfl, hb6⟩
  rw [show shutV 2 1 3 = 0 by kernel_rfl, show fenceR 0 3 1 true = .agg #[.int .i64 3, .int .i64 1, .bool true] by kernel_rfl]
  obtain ⟨hc6, _⟩ := bcell hb6
  have hz6_0 : w1.heap.size < w6.heap.size := by have := hb6.size; (try simp only [World.size_alloc] at this); omega
  have hB6 : Below w5.heap.size w5 w6 := hb6
  go_wp2_with fail
  refine (Raise_any 3 1 4 0 true _).mono ?_
  rintro e w7 ⟨rfl, hb7⟩
  rw [show raiseV 3 1 4 0 = 0 by kernel_rfl, show fenceR 0 4 0 false = .agg #[.int .i64 4, .int .i64 0, .bool false] by kernel_rfl]
  obtain ⟨hc7, _⟩ := bcell hb7
  have hz7_0 : w6.heap.size < w7.heap.size := by have := hb7.size; (try simp only [World.size_alloc] at this); omega
  have hB7 : Below w6.heap.size w6 w7 := ((Below.refl _ _).alloc (Nat.le_refl _) _).trans (hb7.mono (by simp))
  go_wp2_with fail
  refine (Admit_any 3 1 3 1 true _).mono ?_
  rintro e w8 ⟨rfl, hb8⟩
  rw [show admitV 3 1 true 3 1 = 14 by kernel_rfl]
  obtain ⟨hc8, _⟩ := bcell hb8
  have hz8_0 : w7.heap.size < w8.heap.size := by have := hb8.size; (try simp only [World.size_alloc] at this); omega
  have hB8 : Below w7.heap.size w7 w8 := ((Below.refl _ _).alloc (Nat.le_refl _) _).trans (hb8.mono (by simp))
  go_wp2_with fail
  refine (Admit_any 4 0 4 0 false _).mono ?_
  rintro e w9 ⟨rfl, hb9⟩
  rw [show admitV 4 0 false 4 0 = 0 by kernel_rfl]
  obtain ⟨hc9, _⟩ := bcell hb9
  have hz9_0 : w7.heap.size < w9.heap.size := by have := hb9.size; (try simp only [World.size_alloc] at this); omega
  have hB9 : Below w8.heap.size w8 w9 := hb9
  have hBw9 : Below w.heap.size w w9 := hb1.trans ((hB2.trans ((hB3.trans ((hB4.trans ((hB5.trans ((hB6.trans ((hB7.trans ((hB8.trans (hB9.mono hB8.size)).mono hB7.size)).mono hB6.size)).mono hB5.size)).mono hB4.size)).mono hB3.size)).mono hB2.size)).mono hb1.size)
  clear hc2 hc3 hc4 hc5 hc6 hc7 hc8 hc9
  clear hB2 hB3 hB4 hB5 hB6 hB7 hB8 hB9
  clear hb1 hb2 hb3 hb4 hb5 hb6 hb7 hb8 hb9
  clear hz2_0 hz3_0 hz4_0 hz5_0 hz6_0 hz7_0 hz8_0 hz9_0
  go_wp2_with fail
  have hcs : ∀ i (h : i < LQ.length), (w9.alloc (.cells #[.int .i64 1, .int .i64 5, .int .i64 3, .int .i64 6, .int .i64 3, .int .i64 9] 66)).cell? ⟨w9.heap.size, i * 2, none⟩ = some (.int .i64 LQ[i].1) ∧ (w9.alloc (.cells #[.int .i64 1, .int .i64 5, .int .i64 3, .int .i64 6, .int .i64 3, .int .i64 9] 66)).cell? ⟨w9.heap.size, i * 2 + 1, none⟩ = some (.int .i64 LQ[i].2) := by
    intro i hi
    have h3 : i < 3 := hi
    have : i = 0 ∨ i = 1 ∨ i = 2 := by omega
    rcases this with rfl | rfl | rfl <;> exact ⟨(World.cell?_alloc_new _ _ _ _).trans rfl, (World.cell?_alloc_new _ _ _ _).trans rfl⟩
  refine (extended_any w9.heap.size _ LQ LA _ (by simp) (by decide) hcs eRun).mono ?_
  rintro e wA ⟨⟨A, n, c, rfl, hR, hnc, hcm⟩, hbA⟩
  have hBA : Below w.heap.size w wA := (hBw9.alloc hBw9.size _).trans (hbA.mono (by simp; have := hBw9.size; omega))
  obtain rfl : 2 = n := hR.len
  have HR := Lib.hid hR
  clear hR hcs hbA hBw9
  go_wp2_with fail
  refine (EpochOf_any A 2 c 6 LA wA HR.out (by omega)).mono ?_
  rintro e X ⟨rfl, hbX⟩
  rw [show epochV LA 6 = (3, true) by kernel_rfl]
  have HRX := Lib.hid (HR.out.up hbX)
  have hBX : Below w.heap.size w X := hBA.trans (hbX.mono hBA.size)
  clear hBA hbX HR
  have c1 : (1 : Int) ≤ c := by omega
  go_wp2_with fail
  have HL1 : Hid (RdS (X.alloc (.cells #[.int .i64 1, .int .i64 1, .int .i64 5, .int .i64 3, .int .i64 6, .int .i64 9] 68)).drew (some ⟨X.heap.size, 0, none⟩) 2 LA) := Blk.reads (Blk.new X 68 _) rfl
  have hX1 : Below X.heap.size X (X.alloc (.cells #[.int .i64 1, .int .i64 1, .int .i64 5, .int .i64 3, .int .i64 6, .int .i64 9] 68)).drew := ((Below.refl _ X).alloc (Nat.le_refl _) _).drew
  have HR1 : Hid (RdS X A 1 [⟨1, 1, 5⟩]) := Reads.take (k := 1) HRX.out (by decide)
  have hT5 : truncV LA 5 = [⟨1, 1, 5⟩] := by kernel_rfl
  have hT7 : truncV LA 7 = [⟨1, 1, 5⟩, ⟨3, 6, 7⟩] := by kernel_rfl
  have HT := Lib.hid (And.intro hT5 hT7)
  clear hT5 hT7
  go_region_held3 (fun w' => Below X.heap.size X w')
    (first
      | exact (Below.refl _ X).drew
      | exact ((Below.refl _ X).alloc (Nat.le_refl _) _).drew
      | (refine below_step ?_ hb'; assumption)
      | (refine below_step ?_ (Below.alloc (Below.refl _ _) (Nat.le_refl _) _); assumption))
    (first
      | (go_at_call 26; refine (Truncate_any _ _ _ _ LA _ (HRX.out.up ?_) (by omega)).mono ?_; assumption; rintro e w' ⟨⟨A', n', c', rfl, hR'⟩, hb'⟩)
      | (go_at_call 25; with_reducible show Calls Try.prog 25 #[.slice A 2 c, .slice _ 2 2] _ _; refine (Same_true A _ 2 2 c 2 LA _ (HRX.out.up hX1) HL1.out (by omega)).mono ?_; rintro e w' ⟨rfl, hb'⟩)
      | (go_at_call 25; with_reducible show Calls Try.prog 25 #[.slice A' n' c', .slice A 1 c] _ _; refine (Same_true A' A n' 1 c' c [⟨1, 1, 5⟩] _ (by have h9 := hR'; rw [HT.out.1] at h9; exact h9) (HR1.out.up ?_) (by have h9 := hR'.len; rw [HT.out.1] at h9; simp at h9; omega)).mono ?_; assumption; rintro e w' ⟨rfl, hb'⟩)
      | (go_at_call 25; with_reducible show Calls Try.prog 25 #[.slice A' n' c', .slice (some ⟨w'.heap.size, 0, none⟩) 2 2] _ _; (refine (Same_true A' _ n' 2 c' 2 [⟨1, 1, 5⟩, ⟨3, 6, 7⟩] _ (by have h9 := hR'; rw [HT.out.2] at h9; exact h9.up ((Below.refl _ _).alloc (Nat.le_refl _) _)) (RdS.lit w' [⟨1, 1, 5⟩, ⟨3, 6, 7⟩] #[.int .i64 1, .int .i64 1, .int .i64 5, .int .i64 3, .int .i64 6, .int .i64 7] rfl 2 rfl) (by have h9 := hR'.len; rw [HT.out.2] at h9; simp at h9; omega)).mono ?_; rintro e w' ⟨rfl, hb'⟩))
      | (go_at_call 25; refine (Same_true A' _ n' 2 c' 2 [⟨1, 1, 5⟩, ⟨3, 6, 7⟩] _ (by have h9 := hR'; rw [HT.out.2] at h9; exact h9) (RdS.up (RdS.lit _ [⟨1, 1, 5⟩, ⟨3, 6, 7⟩] #[.int .i64 1, .int .i64 1, .int .i64 5, .int .i64 3, .int .i64 6, .int .i64 7] rfl 2 rfl) hb') (by have h9 := hR'.len; rw [HT.out.2] at h9; simp at h9; omega)).mono ?_; rintro e w' ⟨rfl, hb'⟩)
      | (go_at_call 25; fail))
  all_goals
    go_wp2_with fail
    go_ret
    refine ⟨rfl, hBX.trans (Below.mono ?_ hBX.size)⟩
    assumption
end Go.Proofs.Ytnhemndpnjhbfaa
