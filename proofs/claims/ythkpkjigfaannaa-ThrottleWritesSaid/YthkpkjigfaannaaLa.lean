/- The walks of the laws ThrottleMakes. No condition. -/
import Derived.Test.YthkpkjigfaannaaWn
import Derived.Test.YthkpkjigfaannaaArgs
namespace Go.Proofs.Ythkpkjigfaannaa
open Go.RowKit
theorem few_any (o r t b : Int) (A : Option Addr) (n c : Nat) (w : World) :
    Calls Try.prog 10 #[.agg #[.int .i64 o, .int .i64 r, .int .i64 t, .int .i64 b, .slice A n c]] w fun e w' => e = .returned (.bool (decide (n ≤ 100))) ∧ Below w.heap.size w w' := by
  by_cases hn : n ≤ 100
  · have hi : (n : Int) ≤ 100 := by omega
    rw [decide_eq_true hn]
    go_enter Try.func10, Try.ntmps10
    go_wp2_with fail
    go_ret
    exact ⟨rfl, (Below.refl _ _).alloc (Nat.le_refl _) _⟩
  · have hi : ¬ (n : Int) ≤ 100 := by omega
    rw [decide_eq_false hn]
    go_enter Try.func10, Try.ntmps10
    go_wp2_with fail
    go_ret
    exact ⟨rfl, (Below.refl _ _).alloc (Nat.le_refl _) _⟩
theorem blk555 {B g g' g'' : Nat} {X w' : World} {ty ty' ty'' : TypeId} {v0 v1 v2 v3 v4 u0 u1 u2 u3 u4 x0 x1 x2 x3 x4 : Value} (hB : Below B X w') (h : Blk X g ty #[v0, v1, v2, v3, v4]) (h' : Blk X g' ty' #[u0, u1, u2, u3, u4]) (h'' : Blk X g'' ty'' #[x0, x1, x2, x3, x4]) (l : g < B) (l' : g' < B) (l'' : g'' < B) :
    w'.cell? ⟨g, 0, none⟩ = some (v0) ∧ w'.cell? ⟨g, 1, none⟩ = some (v1) ∧ w'.cell? ⟨g, 2, none⟩ = some (v2) ∧ w'.cell? ⟨g, 3, none⟩ = some (v3) ∧ w'.cell? ⟨g, 4, none⟩ = some (v4) ∧ w'.cell? ⟨g', 0, none⟩ = some (u0) ∧ w'.cell? ⟨g', 1, none⟩ = some (u1) ∧ w'.cell? ⟨g', 2, none⟩ = some (u2) ∧ w'.cell? ⟨g', 3, none⟩ = some (u3) ∧ w'.cell? ⟨g', 4, none⟩ = some (u4) ∧ w'.cell? ⟨g'', 0, none⟩ = some (x0) ∧ w'.cell? ⟨g'', 1, none⟩ = some (x1) ∧ w'.cell? ⟨g'', 2, none⟩ = some (x2) ∧ w'.cell? ⟨g'', 3, none⟩ = some (x3) ∧ w'.cell? ⟨g'', 4, none⟩ = some (x4) ∧ Below B X w' :=
  have h := h.below hB l
  have h' := h'.below hB l'
  have h'' := h''.below hB l''
  ⟨h.cell 0, h.cell 1, h.cell 2, h.cell 3, h.cell 4, h'.cell 0, h'.cell 1, h'.cell 2, h'.cell 3, h'.cell 4, h''.cell 0, h''.cell 1, h''.cell 2, h''.cell 3, h''.cell 4, hB⟩
set_option maxRecDepth 100000 in
set_option maxHeartbeats 4000000 in
theorem walkThrottleMakes (w : World) (v0 v1 v2 : Value) (h0 : Arg24 w v0) (h1 : Arg3 w v1) (h2 : Arg3 w v2) : Calls Try.prog 3 #[v0, v1, v2] w fun e w' => e = .returned (.bool true) ∧ Below w.heap.size w w' := by
  obtain ⟨⟨o, r, t, b, l⟩, A, n, c, rfl, hR, _, _⟩ := h0
  obtain ⟨oo, rfl, _, _⟩ := h1
  obtain ⟨rr, rfl, _, _⟩ := h2
  dsimp only at hR ⊢
  have hB0 : Below w.heap.size w (w.alloc (.cells #[.int .i64 o, .int .i64 r, .int .i64 t, .int .i64 b, .slice A n c] 24)) := (Below.refl _ w).alloc (Nat.le_refl _) _
  have hk0 : Blk (w.alloc (.cells #[.int .i64 o, .int .i64 r, .int .i64 t, .int .i64 b, .slice A n c] 24)) w.heap.size 24 #[.int .i64 o, .int .i64 r, .int .i64 t, .int .i64 b, .slice A n c] := Blk.new _ _ _
  have HB0 := Lib.hid hB0
  have HK0 := Lib.hid hk0
  have HRD := Lib.hid hR
  clear hB0 hk0 hR
  by_cases hf : n ≤ 100
  · have hn : n ≤ 1000 := by omega
    have HFew := Lib.hid (few_any o r t b A n c (w.alloc (.cells #[.int .i64 o, .int .i64 r, .int .i64 t, .int .i64 b, .slice A n c] 24)))
    rw [decide_eq_true hf] at HFew
    obtain ⟨ce, hce⟩ : ∃ ce, chkTh o r t b l = ce := ⟨_, rfl⟩
    have hCk := fun w9 (h9 : Below w.heap.size w w9) => Check_any o r t b A n c l w9 (HRD.out.up h9) hn
    have hRk := fun w9 (h9 : Below w.heap.size w w9) => refCheck_any o r t b A n c l w9 (HRD.out.up h9) hn
    rw [hce] at hCk hRk
    have HCk := Lib.hid (And.intro hCk hRk)
    clear hCk hRk hce
    by_cases hok : okN oo rr = true
    · have HN : Hid ((∀ w9, Calls Try.prog 12 #[.int .i64 oo, .int .i64 rr] w9 fun e w' => e = .returned (.tuple #[.agg #[.int .i64 oo, .int .i64 rr, .int .i64 0, .int .i64 0, .slice none 0 0], .int .i64 0]) ∧ Below w9.heap.size w9 w') ∧ (∀ w9, Calls Try.prog 13 #[.int .i64 oo, .int .i64 rr] w9 fun e w' => e = .returned (.tuple #[.agg #[.int .i64 oo, .int .i64 rr, .int .i64 0, .int .i64 0, .slice none 0 0], .int .i64 0]) ∧ Below w9.heap.size w9 w')) := by
        have h9 := fun w9 => New_any oo rr w9
        have h8 := fun w9 => refNew_any oo rr w9
        rw [show newE oo rr = 0 by rw [newE, hok]; rfl, show newV oo rr = thV oo rr 0 0 none 0 0 by rw [newV, hok]; rfl] at h9 h8
        exact ⟨h9, h8⟩
      clear hok
      go_enter Try.func3, Try.ntmps3
      go_wp2_with fail
      refine HFew.out.mono ?_
      rintro e w1 ⟨rfl, hb1⟩
      have HK1 := Lib.hid (HK0.out.below hb1 HK0.out.lt)
      have HB1 := Lib.hid (HB0.out.trans (hb1.mono HB0.out.size))
      clear hb1
      go_wp2_with fail
      refine (HN.out.1 _).mono ?_
      rintro e w2 ⟨rfl, hb2⟩
      have HK2 := Lib.hid (HK1.out.below hb2 HK1.out.lt)
      have HB2 := Lib.hid (HB1.out.trans (hb2.mono HB1.out.size))
      clear hb2
      go_wp2_with fail
      have hb3 : Below w2.heap.size w2 (w2.alloc (.cells #[.int .i64 oo, .int .i64 rr, .int .i64 0, .int .i64 0, .slice none 0 0] 24)) := (Below.refl _ w2).alloc (Nat.le_refl _) _
      have hk3 : Blk (w2.alloc (.cells #[.int .i64 oo, .int .i64 rr, .int .i64 0, .int .i64 0, .slice none 0 0] 24)) w2.heap.size 24 #[.int .i64 oo, .int .i64 rr, .int .i64 0, .int .i64 0, .slice none 0 0] := Blk.new _ _ _
      obtain ⟨X3, hX3⟩ : ∃ X3, w2.alloc (.cells #[.int .i64 oo, .int .i64 rr, .int .i64 0, .int .i64 0, .slice none 0 0] 24) = X3 := ⟨_, rfl⟩
      rw [hX3] at hb3 hk3 ⊢
      refine (HN.out.2 _).mono ?_
      rintro e w4 ⟨rfl, hb4⟩
      have HK3 := Lib.hid (hk3.below hb4 hk3.lt)
      have hb34 := hb3.trans (hb4.mono hb3.size)
      have HK4 := Lib.hid (HK2.out.below hb34 HK2.out.lt)
      have HB4 := Lib.hid (HB2.out.trans (hb34.mono HB2.out.size))
      clear hb3 hk3 hX3 hb4 hb34
      go_wp2_with fail
      have hb5 : Below w4.heap.size w4 (w4.alloc (.cells #[.int .i64 oo, .int .i64 rr, .int .i64 0, .int .i64 0, .slice none 0 0] 24)) := (Below.refl _ w4).alloc (Nat.le_refl _) _
      have hk5 : Blk (w4.alloc (.cells #[.int .i64 oo, .int .i64 rr, .int .i64 0, .int .i64 0, .slice none 0 0] 24)) w4.heap.size 24 #[.int .i64 oo, .int .i64 rr, .int .i64 0, .int .i64 0, .slice none 0 0] := Blk.new _ _ _
      obtain ⟨X, hX⟩ : ∃ X, w4.alloc (.cells #[.int .i64 oo, .int .i64 rr, .int .i64 0, .int .i64 0, .slice none 0 0] 24) = X := ⟨_, rfl⟩
      rw [hX] at hb5 hk5 ⊢
      have HA := Lib.hid (HK3.out.below hb5 HK3.out.lt)
      have HT := Lib.hid (HK4.out.below hb5 HK4.out.lt)
      have HBX := Lib.hid (HB4.out.trans (hb5.mono HB4.out.size))
      have HC := Lib.hid hk5
      have lA := HA.out.lt
      have lT := HT.out.lt
      have lC := HC.out.lt
      obtain ⟨f0, f1, f2, f3, f4, _⟩ := blk5 (Below.refl _ X) HA.out lA
      obtain ⟨e0, e1, e2, e3, e4, _⟩ := blk5 (Below.refl _ X) HC.out lC
      obtain ⟨g0, g1, g2, g3, g4, _⟩ := blk5 (Below.refl _ X) HT.out lT
      clear hb5 hk5 hX
      go_region_held3 (fun w' => w'.cell? ⟨w2.heap.size, 0, none⟩ = some (.int .i64 oo) ∧ w'.cell? ⟨w2.heap.size, 1, none⟩ = some (.int .i64 rr) ∧ w'.cell? ⟨w2.heap.size, 2, none⟩ = some (.int .i64 0) ∧ w'.cell? ⟨w2.heap.size, 3, none⟩ = some (.int .i64 0) ∧ w'.cell? ⟨w2.heap.size, 4, none⟩ = some (.slice none 0 0) ∧ w'.cell? ⟨w4.heap.size, 0, none⟩ = some (.int .i64 oo) ∧ w'.cell? ⟨w4.heap.size, 1, none⟩ = some (.int .i64 rr) ∧ w'.cell? ⟨w4.heap.size, 2, none⟩ = some (.int .i64 0) ∧ w'.cell? ⟨w4.heap.size, 3, none⟩ = some (.int .i64 0) ∧ w'.cell? ⟨w4.heap.size, 4, none⟩ = some (.slice none 0 0) ∧ w'.cell? ⟨w.heap.size, 0, none⟩ = some (.int .i64 o) ∧ w'.cell? ⟨w.heap.size, 1, none⟩ = some (.int .i64 r) ∧ w'.cell? ⟨w.heap.size, 2, none⟩ = some (.int .i64 t) ∧ w'.cell? ⟨w.heap.size, 3, none⟩ = some (.int .i64 b) ∧ w'.cell? ⟨w.heap.size, 4, none⟩ = some (.slice A n c) ∧ Below X.heap.size X w')
        (first
          | exact blk555 ((Below.refl _ X).drew) HA.out HC.out HT.out lA lC lT
          | (go_split_ands; refine blk555 (below_step ?_ hb') HA.out HC.out HT.out lA lC lT; assumption))
        (first
          | (go_at_call 14; refine (Same_true _ _ _ _ none none 0 0 0 0 [] _ Reads.none_ Reads.none_ (by decide)).mono ?_; rintro e w' ⟨rfl, hb'⟩)
          | (go_at_call 15; refine (HCk.out.1 _ (HBX.out.trans (Below.mono ?_ HBX.out.size))).mono ?_; (go_split_ands; assumption); rintro e w' ⟨rfl, hb'⟩)
          | (go_at_call 16; refine (HCk.out.2 _ (HBX.out.trans (Below.mono ?_ HBX.out.size))).mono ?_; (go_split_ands; assumption); rintro e w' ⟨rfl, hb'⟩)
          | (go_at_call 11; refine (awake_any _).mono ?_; rintro e w' ⟨rfl, hb'⟩))
      all_goals
        rename_i hS
        have HS := Lib.hid hS
        clear hS
        go_wp2_with fail
        go_ret
        exact ⟨by simp, HBX.out.trans (HS.out.2.2.2.2.2.2.2.2.2.2.2.2.2.2.2.mono HBX.out.size)⟩
    · have HN : Hid ((∀ w9, Calls Try.prog 12 #[.int .i64 oo, .int .i64 rr] w9 fun e w' => e = .returned (.tuple #[.agg #[.int .i64 0, .int .i64 0, .int .i64 0, .int .i64 0, .slice none 0 0], .int .i64 2]) ∧ Below w9.heap.size w9 w') ∧ (∀ w9, Calls Try.prog 13 #[.int .i64 oo, .int .i64 rr] w9 fun e w' => e = .returned (.tuple #[.agg #[.int .i64 0, .int .i64 0, .int .i64 0, .int .i64 0, .slice none 0 0], .int .i64 2]) ∧ Below w9.heap.size w9 w')) := by
        have h9 := fun w9 => New_any oo rr w9
        have h8 := fun w9 => refNew_any oo rr w9
        have hok' : okN oo rr = false := by simpa using hok
        rw [show newE oo rr = 2 by rw [newE, hok']; rfl, show newV oo rr = thV 0 0 0 0 none 0 0 by rw [newV, hok']; rfl] at h9 h8
        exact ⟨h9, h8⟩
      clear hok
      go_enter Try.func3, Try.ntmps3
      go_wp2_with fail
      refine HFew.out.mono ?_
      rintro e w1 ⟨rfl, hb1⟩
      have HK1 := Lib.hid (HK0.out.below hb1 HK0.out.lt)
      have HB1 := Lib.hid (HB0.out.trans (hb1.mono HB0.out.size))
      clear hb1
      go_wp2_with fail
      refine (HN.out.1 _).mono ?_
      rintro e w2 ⟨rfl, hb2⟩
      have HK2 := Lib.hid (HK1.out.below hb2 HK1.out.lt)
      have HB2 := Lib.hid (HB1.out.trans (hb2.mono HB1.out.size))
      clear hb2
      go_wp2_with fail
      have hb3 : Below w2.heap.size w2 (w2.alloc (.cells #[.int .i64 0, .int .i64 0, .int .i64 0, .int .i64 0, .slice none 0 0] 24)) := (Below.refl _ w2).alloc (Nat.le_refl _) _
      have hk3 : Blk (w2.alloc (.cells #[.int .i64 0, .int .i64 0, .int .i64 0, .int .i64 0, .slice none 0 0] 24)) w2.heap.size 24 #[.int .i64 0, .int .i64 0, .int .i64 0, .int .i64 0, .slice none 0 0] := Blk.new _ _ _
      obtain ⟨X3, hX3⟩ : ∃ X3, w2.alloc (.cells #[.int .i64 0, .int .i64 0, .int .i64 0, .int .i64 0, .slice none 0 0] 24) = X3 := ⟨_, rfl⟩
      rw [hX3] at hb3 hk3 ⊢
      refine (HN.out.2 _).mono ?_
      rintro e w4 ⟨rfl, hb4⟩
      have HK3 := Lib.hid (hk3.below hb4 hk3.lt)
      have hb34 := hb3.trans (hb4.mono hb3.size)
      have HK4 := Lib.hid (HK2.out.below hb34 HK2.out.lt)
      have HB4 := Lib.hid (HB2.out.trans (hb34.mono HB2.out.size))
      clear hb3 hk3 hX3 hb4 hb34
      go_wp2_with fail
      have hb5 : Below w4.heap.size w4 (w4.alloc (.cells #[.int .i64 0, .int .i64 0, .int .i64 0, .int .i64 0, .slice none 0 0] 24)) := (Below.refl _ w4).alloc (Nat.le_refl _) _
      have hk5 : Blk (w4.alloc (.cells #[.int .i64 0, .int .i64 0, .int .i64 0, .int .i64 0, .slice none 0 0] 24)) w4.heap.size 24 #[.int .i64 0, .int .i64 0, .int .i64 0, .int .i64 0, .slice none 0 0] := Blk.new _ _ _
      obtain ⟨X, hX⟩ : ∃ X, w4.alloc (.cells #[.int .i64 0, .int .i64 0, .int .i64 0, .int .i64 0, .slice none 0 0] 24) = X := ⟨_, rfl⟩
      rw [hX] at hb5 hk5 ⊢
      have HA := Lib.hid (HK3.out.below hb5 HK3.out.lt)
      have HT := Lib.hid (HK4.out.below hb5 HK4.out.lt)
      have HBX := Lib.hid (HB4.out.trans (hb5.mono HB4.out.size))
      have HC := Lib.hid hk5
      have lA := HA.out.lt
      have lT := HT.out.lt
      have lC := HC.out.lt
      obtain ⟨f0, f1, f2, f3, f4, _⟩ := blk5 (Below.refl _ X) HA.out lA
      obtain ⟨e0, e1, e2, e3, e4, _⟩ := blk5 (Below.refl _ X) HC.out lC
      obtain ⟨g0, g1, g2, g3, g4, _⟩ := blk5 (Below.refl _ X) HT.out lT
      clear hb5 hk5 hX
      go_region_held3 (fun w' => w'.cell? ⟨w2.heap.size, 0, none⟩ = some (.int .i64 0) ∧ w'.cell? ⟨w2.heap.size, 1, none⟩ = some (.int .i64 0) ∧ w'.cell? ⟨w2.heap.size, 2, none⟩ = some (.int .i64 0) ∧ w'.cell? ⟨w2.heap.size, 3, none⟩ = some (.int .i64 0) ∧ w'.cell? ⟨w2.heap.size, 4, none⟩ = some (.slice none 0 0) ∧ w'.cell? ⟨w4.heap.size, 0, none⟩ = some (.int .i64 0) ∧ w'.cell? ⟨w4.heap.size, 1, none⟩ = some (.int .i64 0) ∧ w'.cell? ⟨w4.heap.size, 2, none⟩ = some (.int .i64 0) ∧ w'.cell? ⟨w4.heap.size, 3, none⟩ = some (.int .i64 0) ∧ w'.cell? ⟨w4.heap.size, 4, none⟩ = some (.slice none 0 0) ∧ w'.cell? ⟨w.heap.size, 0, none⟩ = some (.int .i64 o) ∧ w'.cell? ⟨w.heap.size, 1, none⟩ = some (.int .i64 r) ∧ w'.cell? ⟨w.heap.size, 2, none⟩ = some (.int .i64 t) ∧ w'.cell? ⟨w.heap.size, 3, none⟩ = some (.int .i64 b) ∧ w'.cell? ⟨w.heap.size, 4, none⟩ = some (.slice A n c) ∧ Below X.heap.size X w')
        (first
          | exact blk555 ((Below.refl _ X).drew) HA.out HC.out HT.out lA lC lT
          | (go_split_ands; refine blk555 (below_step ?_ hb') HA.out HC.out HT.out lA lC lT; assumption))
        (first
          | (go_at_call 14; refine (Same_true _ _ _ _ none none 0 0 0 0 [] _ Reads.none_ Reads.none_ (by decide)).mono ?_; rintro e w' ⟨rfl, hb'⟩)
          | (go_at_call 15; refine (HCk.out.1 _ (HBX.out.trans (Below.mono ?_ HBX.out.size))).mono ?_; (go_split_ands; assumption); rintro e w' ⟨rfl, hb'⟩)
          | (go_at_call 16; refine (HCk.out.2 _ (HBX.out.trans (Below.mono ?_ HBX.out.size))).mono ?_; (go_split_ands; assumption); rintro e w' ⟨rfl, hb'⟩)
          | (go_at_call 11; refine (awake_any _).mono ?_; rintro e w' ⟨rfl, hb'⟩))
      all_goals
        rename_i hS
        have HS := Lib.hid hS
        clear hS
        go_wp2_with fail
        go_ret
        exact ⟨by simp, HBX.out.trans (HS.out.2.2.2.2.2.2.2.2.2.2.2.2.2.2.2.mono HBX.out.size)⟩
  · have HFew := Lib.hid (few_any o r t b A n c (w.alloc (.cells #[.int .i64 o, .int .i64 r, .int .i64 t, .int .i64 b, .slice A n c] 24)))
    rw [decide_eq_false hf] at HFew
    go_enter Try.func3, Try.ntmps3
    go_wp2_with fail
    refine HFew.out.mono ?_
    rintro e w1 ⟨rfl, hb1⟩
    go_wp2_with fail
    refine (awake_any _).mono ?_
    rintro e w2 ⟨rfl, hb2⟩
    go_wp2_with fail
    go_ret
    exact ⟨rfl, (HB0.out.trans (hb1.mono HB0.out.size)).trans (hb2.mono (Nat.le_trans HB0.out.size hb1.size))⟩
end Go.Proofs.Ythkpkjigfaannaa
