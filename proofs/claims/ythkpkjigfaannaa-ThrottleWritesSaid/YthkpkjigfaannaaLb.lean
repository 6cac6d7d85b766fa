/- The walk of the law ThrottleWrites. No condition. -/
import Derived.Test.YthkpkjigfaannaaLa
import Derived.Test.YthkpkjigfaannaaWi
namespace Go.Proofs.Ythkpkjigfaannaa
open Go.RowKit
theorem writeR_len (T : Th) (now k : Int) : (writeR T now k).1.l.length ≤ T.l.length + 1 := by
  unfold writeR
  (repeat' split) <;> simp [Th.zero, admL]
  split <;> simp
set_option maxRecDepth 100000 in
set_option maxHeartbeats 4000000 in
theorem walkThrottleWrites (w : World) (v0 v1 v2 : Value) (h0 : Arg24 w v0) (h1 : Arg3 w v1) (h2 : Arg3 w v2) : Calls Try.prog 4 #[v0, v1, v2] w fun e w' => e = .returned (.bool true) ∧ Below w.heap.size w w' := by
  obtain ⟨⟨o, r, t, b, l⟩, A, n, c, rfl, hR, _, _⟩ := h0
  obtain ⟨now, rfl, _, _⟩ := h1
  obtain ⟨k, rfl, _, _⟩ := h2
  dsimp only at hR ⊢
  have hB0 : Below w.heap.size w (w.alloc (.cells #[.int .i64 o, .int .i64 r, .int .i64 t, .int .i64 b, .slice A n c] 24)) := (Below.refl _ w).alloc (Nat.le_refl _) _
  have hk0 : Blk (w.alloc (.cells #[.int .i64 o, .int .i64 r, .int .i64 t, .int .i64 b, .slice A n c] 24)) w.heap.size 24 #[.int .i64 o, .int .i64 r, .int .i64 t, .int .i64 b, .slice A n c] := Blk.new _ _ _
  have HB0 := Lib.hid hB0
  have HK0 := Lib.hid hk0
  have HRD := Lib.hid hR
  clear hB0 hk0 hR
  by_cases hf : n ≤ 100
  · have hn : n ≤ 900 := by omega
    have HFew := Lib.hid (few_any o r t b A n c (w.alloc (.cells #[.int .i64 o, .int .i64 r, .int .i64 t, .int .i64 b, .slice A n c] 24)))
    rw [decide_eq_true hf] at HFew
    obtain ⟨⟨⟨o', r', t', b', l'⟩, d', e'⟩, hW⟩ : ∃ R, writeR ⟨o, r, t, b, l⟩ now k = R := ⟨_, rfl⟩
    have hWr := fun w9 (h9 : Below w.heap.size w w9) => Write_any ⟨o, r, t, b, l⟩ now k A n c w9 (HRD.out.up h9) (by omega)
    have hRw := fun w9 (h9 : Below w.heap.size w w9) => refWrite_any ⟨o, r, t, b, l⟩ now k A n c w9 (HRD.out.up h9) hn
    rw [hW] at hWr hRw
    have hlen : l'.length ≤ 1000 := by
      have h9 := writeR_len ⟨o, r, t, b, l⟩ now k
      rw [hW] at h9
      have h8 := HRD.out.len
      dsimp only at h9
      omega
    have HWr := Lib.hid (And.intro hWr hRw)
    clear hWr hRw hW
    go_enter Try.func4, Try.ntmps4
    go_wp2_with fail
    refine HFew.out.mono ?_
    rintro e w1 ⟨rfl, hb1⟩
    have HK1 := Lib.hid (HK0.out.below hb1 HK0.out.lt)
    have HB1 := Lib.hid (HB0.out.trans (hb1.mono HB0.out.size))
    obtain ⟨f0, f1, f2, f3, f4, _⟩ := blk5 (Below.refl _ w1) HK1.out HK1.out.lt
    have l1 := HK1.out.lt
    clear hb1
    go_wp2_with fail
    refine (HWr.out.1 _ HB1.out).mono ?_
    rintro e w2 ⟨⟨_, rfl, A1, n1, c1, rfl, hR1, _, _⟩, hb2⟩
    have HK2 := Lib.hid (HK1.out.below hb2 HK1.out.lt)
    have HB2 := Lib.hid (HB1.out.trans (hb2.mono HB1.out.size))
    have HR1 := Lib.hid hR1
    clear f0 f1 f2 f3 f4 l1 hR1 hb2
    obtain ⟨f0, f1, f2, f3, f4, _⟩ := blk5 (Below.refl _ w2) HK2.out HK2.out.lt
    have l2 := HK2.out.lt
    dsimp only at HR1 ⊢
    go_wp2_with fail
    have hb3 : Below w2.heap.size w2 (w2.alloc (.cells #[.int .i64 o', .int .i64 r', .int .i64 t', .int .i64 b', .slice A1 n1 c1] 24)) := (Below.refl _ w2).alloc (Nat.le_refl _) _
    have hk3 : Blk (w2.alloc (.cells #[.int .i64 o', .int .i64 r', .int .i64 t', .int .i64 b', .slice A1 n1 c1] 24)) w2.heap.size 24 #[.int .i64 o', .int .i64 r', .int .i64 t', .int .i64 b', .slice A1 n1 c1] := Blk.new _ _ _
    obtain ⟨X3, hX3⟩ : ∃ X3, w2.alloc (.cells #[.int .i64 o', .int .i64 r', .int .i64 t', .int .i64 b', .slice A1 n1 c1] 24) = X3 := ⟨_, rfl⟩
    rw [hX3] at hb3 hk3 ⊢
    refine (HWr.out.2 _ (HB2.out.trans (hb3.mono HB2.out.size))).mono ?_
    rintro e w4 ⟨⟨_, rfl, A2, n2, c2, rfl, hR2, _, _⟩, hb4⟩
    have HK4 := Lib.hid (hk3.below hb4 hk3.lt)
    have HB4 := Lib.hid ((HB2.out.trans (hb3.mono HB2.out.size)).trans (hb4.mono (HB2.out.trans (hb3.mono HB2.out.size)).size))
    have HR4 := Lib.hid ((HR1.out.up hb3).up hb4)
    have HR2 := Lib.hid hR2
    clear f0 f1 f2 f3 f4 l2 hb3 hk3 hX3 hR2 hb4
    obtain ⟨f0, f1, f2, f3, f4, _⟩ := blk5 (Below.refl _ w4) HK4.out HK4.out.lt
    have l4 := HK4.out.lt
    dsimp only at HR2 ⊢
    go_wp2_with fail
    have hb5 : Below w4.heap.size w4 (w4.alloc (.cells #[.int .i64 o', .int .i64 r', .int .i64 t', .int .i64 b', .slice A2 n2 c2] 24)) := (Below.refl _ w4).alloc (Nat.le_refl _) _
    have HSM := Lib.hid (Same_true o' r' t' b' A1 A2 n1 n2 c1 c2 l' _ (HR4.out.up hb5) (HR2.out.up hb5) (by have := HR2.out.len; have := HR4.out.len; omega))
    refine HSM.out.mono ?_
    rintro e w6 ⟨rfl, hb6⟩
    have HB6 := Lib.hid ((HB4.out.trans (hb5.mono HB4.out.size)).trans (hb6.mono (HB4.out.trans (hb5.mono HB4.out.size)).size))
    clear hb5 hb6
    go_wp2_with fail
    refine (awake_any _).mono ?_
    rintro e w7 ⟨rfl, hb7⟩
    go_wp2_with fail
    go_ret
    exact ⟨by simp, HB6.out.trans (hb7.mono HB6.out.size)⟩
  · have HFew := Lib.hid (few_any o r t b A n c (w.alloc (.cells #[.int .i64 o, .int .i64 r, .int .i64 t, .int .i64 b, .slice A n c] 24)))
    rw [decide_eq_false hf] at HFew
    go_enter Try.func4, Try.ntmps4
    go_wp2_with fail
    refine HFew.out.mono ?_
    rintro e w1 ⟨rfl, hb1⟩
    go_wp2_with fail
    refine (awake_any _).mono ?_
    rintro e w2 ⟨rfl, hb2⟩
    go_wp2_with fail
    go_ret
    exact ⟨rfl, (HB0.out.trans (hb1.mono HB0.out.size)).trans (hb2.mono (Nat.le_trans HB0.out.size hb1.size))⟩
end Go.Proofs.Ythkpkjigfaannaa
