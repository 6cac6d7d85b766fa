/- The walks of give and take. Conditions: the numbers do not overflow. -/
import Derived.Test.YtehfnanhamaenaaWg
namespace Go.Proofs.Ytehfnanhamaenaa
open Go.RowKit
def giveV (u q n : Int) : Int := if u < q + n then u else q + n
set_option maxHeartbeats 1000000 in
theorem give_any (g o : Nat) (u q n : Int) (w : World) (hu : w.cell? ⟨g, o + 2, none⟩ = some (.int .i64 u)) (hq : w.cell? ⟨g, o + 3, none⟩ = some (.int .i64 q)) (hf : w.frozen? ⟨g, o + 3, none⟩ = false)
    (h0 : 0 ≤ q) (h1 : q ≤ 1073741824) (h2 : 0 ≤ n) (h3 : n ≤ 1152921504606846976) :
    Calls Try.prog 30 #[.agg #[.pointer (some ⟨g, o, none⟩)], .int .i64 n] w fun e w' => (∃ v, e = .returned v) ∧ Below w.heap.size (w.setCell ⟨g, o + 3, none⟩ (.int .i64 (giveV u q n))) w' := by
  have hg : g < w.heap.size := block_lt_of_cell hq
  go_enter Try.func30, Try.ntmps30
  go_wp2
  go_region
  all_goals go_wp2
  · go_end0
    have hlt : u < q + n := by assumption
    have e : giveV u q n = u := by unfold giveV; rw [if_pos hlt]
    rw [e]
    exact ⟨⟨_, rfl⟩, ((Below.refl _ _).alloc (by simp) _).drew⟩
  · go_end0
    have hlt : q + n ≤ u := by assumption
    have e : giveV u q n = q + n := by unfold giveV; rw [if_neg (by omega)]
    rw [e]
    exact ⟨⟨_, rfl⟩, ((Below.refl _ _).alloc (by simp) _).drew⟩
set_option maxHeartbeats 1000000 in
theorem take_any (g o : Nat) (q n : Int) (w : World) (hq : w.cell? ⟨g, o + 3, none⟩ = some (.int .i64 q)) (hf : w.frozen? ⟨g, o + 3, none⟩ = false)
    (h0 : 0 ≤ q) (h1 : q ≤ 1073741824) (h2 : 0 ≤ n) (h3 : n ≤ 1073741824) :
    Calls Try.prog 37 #[.agg #[.pointer (some ⟨g, o, none⟩)], .int .i64 n] w fun e w' => (∃ v, e = .returned v) ∧ Below w.heap.size (w.setCell ⟨g, o + 3, none⟩ (.int .i64 (q - n))) w' := by
  have hg : g < w.heap.size := block_lt_of_cell hq
  go_enter Try.func37, Try.ntmps37
  go_wp2
  go_end0
  exact ⟨⟨_, rfl⟩, (Below.refl _ _).alloc (by simp) _⟩
def adv (d : Int) (b : Bk) : Bk := { b with tok := giveV b.burst b.tok (b.rate * d) }
def advP (t : Int) (l : List Bk) (now : Int) : BR := if checkL t l ≠ 0 then ⟨0, [], checkL t l⟩ else if now < t ∨ 1073741824 < now then ⟨0, [], 24⟩ else ⟨now, l.map (adv (now - t)), 0⟩
set_option maxHeartbeats 1000000 in
theorem Advance_err (t now : Int) (A : Option Addr) (n c : Nat) (l : List Bk) (w : World) (hR : RdB w A n l) (hn : n ≤ 9223372036854775807) (he : checkL t l ≠ 0 ∨ now < t ∨ 1073741824 < now) :
    Calls Try.prog 17 #[budV t A n c, .int .i64 now] w fun e w' => BudR (advP t l now).t (advP t l now).l (advP t l now).err e w' ∧ Below w.heap.size w w' := by
  have hb : Below w.heap.size w ((w.alloc (.cells #[.int .i64 t, .slice A n c] 24)).alloc (.cells #[.int .i64 0, .slice none 0 0] 24)) := ((Below.refl _ w).alloc (Nat.le_refl _) _).alloc (by simp) _
  have h1 := (Blk.new w 24 #[.int .i64 t, .slice A n c]).alloc (.cells #[.int .i64 0, .slice none 0 0] 24)
  have h2 := Blk.new (w.alloc (.cells #[.int .i64 t, .slice A n c] 24)) 24 #[.int .i64 0, .slice none 0 0]
  rw [World.size_alloc] at h2
  have H := Lib.hid (And.intro h1 h2)
  clear h1 h2
  have fin : ∀ (er : Int) (w2 W3 : World), Below w.heap.size w w2 → W3 = (w2.setCell ⟨w.heap.size + 1, 0, none⟩ (.int .i64 0)).setCell ⟨w.heap.size + 1, 1, none⟩ (.slice none 0 0) → Below w.heap.size w W3 := by
    intro er w2 W3 hb2 e
    rw [e]
    exact (hb2.setCell (p := ⟨w.heap.size + 1, 0, none⟩) (by simp) _).setCell (p := ⟨w.heap.size + 1, 1, none⟩) (by simp) _
  have HFIN := Lib.hid fin
  clear fin
  by_cases c0 : checkL t l = 0
  · have hnew : advP t l now = ⟨0, [], 24⟩ := by unfold advP; rw [if_neg (by omega), if_pos (by omega)]
    have HN := Lib.hid hnew
    have HC := Lib.hid c0
    rw [HN.out]
    have hor : now < t ∨ 1073741824 < now := by omega
    clear hnew c0 he
    go_enter Try.func17, Try.ntmps17
    go_wp2_with fail
    generalize ((w.alloc (.cells #[.int .i64 t, .slice A n c] 24)).alloc (.cells #[.int .i64 0, .slice none 0 0] 24)) = W0 at *
    refine (Check_any _ _ _ _ l _ (hR.up hb) hn).mono ?_
    rintro e w2 ⟨rfl, hb2⟩
    rw [HC.out]
    have hk1 := H.out.1.below hb2 H.out.1.lt
    have hk2 := H.out.2.below hb2 H.out.2.lt
    have a0 : w2.cell? ⟨w.heap.size, 0, none⟩ = some (.int .i64 t) := hk1.cell 0
    have b0 : w2.cell? ⟨w.heap.size + 1, 0, none⟩ = some (.int .i64 0) := hk2.cell 0
    have b1 : w2.cell? ⟨w.heap.size + 1, 1, none⟩ = some (.slice none 0 0) := hk2.cell 1
    have f0 : w2.frozen? ⟨w.heap.size + 1, 0, none⟩ = false := hk2.frozen 0
    have f1 : w2.frozen? ⟨w.heap.size + 1, 1, none⟩ = false := hk2.frozen 1
    have HK := Lib.hid (And.intro hk2 (hb.trans (hb2.mono hb.size)))
    clear hk1 hk2
    by_cases c1 : now < t
    all_goals
      go_wp2_with fail
      have hK3 := (HK.out.1.set_ 0 (.int .i64 0)).set_ 1 (.slice none 0 0)
      refine bodyPost_ret (results_cell_tmp rfl _ _ _ _ _ _ rfl hK3 Try.underlying24 rfl info24) rfl ?_
      exact ⟨⟨none, 0, rfl, Reads.none_, Nat.le_refl _, by unfold maxLen; omega⟩, HFIN.out 0 w2 _ HK.out.2 rfl⟩
  · have hnew : advP t l now = ⟨0, [], checkL t l⟩ := by unfold advP; rw [if_pos c0]
    have HN := Lib.hid hnew
    have hne : (checkL t l != 0) = true := by rw [bne_iff_ne]; exact c0
    clear hnew c0 he
    go_enter Try.func17, Try.ntmps17
    go_wp2_with fail
    generalize ((w.alloc (.cells #[.int .i64 t, .slice A n c] 24)).alloc (.cells #[.int .i64 0, .slice none 0 0] 24)) = W0 at *
    refine (Check_any _ _ _ _ l _ (hR.up hb) hn).mono ?_
    rintro e w2 ⟨rfl, hb2⟩
    have hk2 := H.out.2.below hb2 H.out.2.lt
    have b0 : w2.cell? ⟨w.heap.size + 1, 0, none⟩ = some (.int .i64 0) := hk2.cell 0
    have b1 : w2.cell? ⟨w.heap.size + 1, 1, none⟩ = some (.slice none 0 0) := hk2.cell 1
    have f0 : w2.frozen? ⟨w.heap.size + 1, 0, none⟩ = false := hk2.frozen 0
    have f1 : w2.frozen? ⟨w.heap.size + 1, 1, none⟩ = false := hk2.frozen 1
    have HK := Lib.hid (And.intro hk2 (hb.trans (hb2.mono hb.size)))
    generalize checkL t l = er at *
    clear hk2
    go_wp2_with fail
    have hK3 := (HK.out.1.set_ 0 (.int .i64 0)).set_ 1 (.slice none 0 0)
    refine bodyPost_ret (results_cell_tmp rfl _ _ _ _ _ _ rfl hK3 Try.underlying24 rfl info24) rfl ?_
    rw [HN.out]
    exact ⟨⟨none, 0, rfl, Reads.none_, Nat.le_refl _, by unfold maxLen; omega⟩, HFIN.out er w2 _ HK.out.2 rfl⟩
end Go.Proofs.Ytehfnanhamaenaa
