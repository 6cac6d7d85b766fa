/- The walk of New. Conditions: at most 1000 buckets. -/
import Derived.Test.YtehfnanhamaenaaWd
import Derived.Test.YtehfnanhamaenaaLibC
import Derived.Test.YtehfnanhamaenaaMathB
import Derived.RegionTactic
import Derived.BigRegion
namespace Go.Proofs.Ytehfnanhamaenaa
open Go.RowKit
/-- a budget and an error that are handed back -/
def BudR (t : Int) (l : List Bk) (err : Int) (e : Ending) (w' : World) : Prop := ∃ A c, e = .returned (.tuple #[budV t A l.length c, .int .i64 err]) ∧ RdB w' A l.length l ∧ l.length ≤ c ∧ c ≤ maxLen
/-- the same, in memory from block B on -/
def BudF (B : Nat) (t : Int) (l : List Bk) (err : Int) (e : Ending) (w' : World) : Prop := ∃ A c, e = .returned (.tuple #[budV t A l.length c, .int .i64 err]) ∧ RdB w' A l.length l ∧ l.length ≤ c ∧ c ≤ maxLen ∧ ∀ ad, A = some ad → B ≤ ad.block
theorem BudF.r {B : Nat} {t : Int} {l : List Bk} {err : Int} {e : Ending} {w' : World} (h : BudF B t l err e w') : BudR t l err e w' := by
  obtain ⟨A, c, h1, h2, h3, h4, _⟩ := h
  exact ⟨A, c, h1, h2, h3, h4⟩
theorem own_fresh {w : World} {base : Nat} {e : TypeId} {size : Nat} {A : Option Addr} {n c : Nat} {xs : List Value} (h : w.ownsRow base e size (.slice A n c) n xs) : ∀ ad, A = some ad → base ≤ ad.block := by
  intro ad had
  subst had
  rcases h.2 with ⟨h0, _⟩ | ⟨g, cap, cur, h1, h2, _⟩
  · cases h0
  · injection h1 with h1
    injection h1 with h1
    rw [h1]; exact h2
def fill (b : Bk) : Bk := { b with tok := max b.burst 0 }
structure BR where
  t : Int
  l : List Bk
  err : Int
def newP (l : List Bk) : BR := if checkL 0 (l.map fill) = 0 then ⟨0, l.map fill, 0⟩ else ⟨0, [], checkL 0 (l.map fill)⟩
theorem own_RdB {w : World} {base : Nat} {v : Value} {n : Nat} {l : List Bk} (h : w.ownsRow base 64 4 v n (encBs l)) : ∃ A c, v = .slice A n c ∧ n ≤ c ∧ c ≤ maxLen ∧ RdB w A n l := own_slice h
theorem own_RdB' {w : World} {base : Nat} {A : Option Addr} {n c : Nat} {l : List Bk} (h : w.ownsRow base 64 4 (.slice A n c) n (encBs l)) : RdB w A n l := by
  obtain ⟨A2, c2, hv, _, _, hr⟩ := own_RdB h
  injection hv with h1
  rw [h1]
  exact hr
theorem info24 : (Try.prog.info? 24).map (·.size) = some 2 := by kernel_rfl
set_option maxHeartbeats 1000000 in
theorem New_any (A : Option Addr) (n c : Nat) (l : List Bk) (w : World) (hR : RdB w A n l) (hn : n ≤ 1000) :
    Calls Try.prog 12 #[.slice A n c] w fun e w' => BudR (newP l).t (newP l).l (newP l).err e w' ∧ Below w.heap.size w w' := by
  have hlen := hR.len
  subst hlen
  have hbA : Below w.heap.size w (w.alloc (.cells #[.int .i64 0, .slice none 0 0] 24)) := (Below.refl _ w).alloc (Nat.le_refl _) _
  have hrA := hR.up hbA
  have hA1 := Blk.new w 24 #[.int .i64 0, .slice none 0 0]
  have hsA : (w.alloc (.cells #[.int .i64 0, .slice none 0 0] 24)).heap.size = w.heap.size + 1 := by simp
  have HA1 := Lib.hid hA1
  have HSA := Lib.hid hsA
  clear hA1 hsA
  go_enter Try.func12, Try.ntmps12
  go_wp2_with fail
  generalize (w.alloc (.cells #[.int .i64 0, .slice none 0 0] 24)) = WA at *
  refine (Clone_any A _ c l _ hrA hn).mono ?_
  rintro e w1 ⟨⟨v, rfl, hown⟩, hb1⟩
  obtain ⟨A1, c1, rfl, hc1, hm1, hr1⟩ := own_RdB hown
  have hK1 := HA1.out.below hb1 (by rw [HSA.out]; omega)
  go_wp2_with fail
  have hw1 : w.heap.size < w1.heap.size := Nat.lt_of_lt_of_le (by rw [HSA.out]; omega) hb1.size
  have hbw1 : Below w.heap.size w w1 := hbA.trans (hb1.mono hbA.size)
  have hst : w.heap.size < w1.heap.size ∧ ∀ g, (Value.slice A1 l.length c1).ownBlock = some g → WA.heap.size ≤ g ∧ g < w1.heap.size := ⟨hw1, fun g hg => ⟨own_block_ge hown g hg, own_lt hown g hg⟩⟩
  have HST := Lib.hid hst
  clear hst
  go_loopw [13] (fun i wr => ∃ k : Nat, k ≤ l.length ∧ i = .int .i64 k ∧ wr.ownsRow WA.heap.size 64 4 (.slice A1 l.length c1) l.length (encBs (mixL fill l k)) ∧ Blk wr w.heap.size 24 #[.int .i64 0, .slice none 0 0] ∧ Blk wr w1.heap.size 24 #[.int .i64 0, .slice A1 l.length c1] ∧ Below w.heap.size w wr) (fun i _ => l.length - (intOf i).toNat)
  case atStart => exact ⟨0, by omega, rfl, by rw [mixL_zero]; exact own_alloc hown _, hK1.alloc _, Blk.new _ _ _, hbw1.alloc hbw1.size _⟩
  case round =>
    obtain ⟨k, hk, rfl, ho, hKr, hKb, hbr⟩ := hrel
    by_cases hlt : k < l.length
    · obtain ⟨g, cap, cur, hv1, hbg, hB1, hnc, hcm, hcs, hct⟩ := own_blk ho (by omega)
      obtain ⟨rfl, rfl⟩ : A1 = some ⟨g, 0, none⟩ ∧ c1 = cap := by
        injection hv1 with h1 _ h2
        exact ⟨h1, h2⟩
      obtain ⟨hg1, hg2⟩ := HST.out.2 g rfl
      rw [HSA.out] at hg1
      have hm := mixL_len fill l k
      have hget := mixL_get fill l k hlt
      have hset := mixL_set fill l k hlt
      have hen : ∀ j, j < 4 → (encBs (mixL fill l k))[k * 4 + j]? = (encB l[k])[j]? := fun j hj => by rw [encBs_at _ _ _ (by rw [hm]; exact hlt) hj, hget]
      have hstore : ∀ u : Int, (encBs (mixL fill l k)).set (k * 4 + 3) (.int .i64 u) = encBs ((mixL fill l k).set k { l[k] with tok := u }) := fun u => encBs_set _ _ (by rw [hm]; exact hlt) _ 3 _ (by omega) (by rw [hget]; rfl)
      have kb1 : wr.cell? ⟨w1.heap.size, 1, none⟩ = some (.slice (some ⟨g, 0, none⟩) l.length c1) := hKb.cell 1
      obtain ⟨kc2, _⟩ := own_cell ho (k * 4 + 2) _ (hen 2 (by omega))
      obtain ⟨kc3, kf3⟩ := own_cell ho (k * 4 + 3) _ (hen 3 (by omega))
      have HS := Lib.hid (And.intro hset hstore)
      have HO := Lib.hid ho
      clear hset hstore hget hen hv1 hB1 hcs hct hm ho
      have hfill : fill l[k] = { l[k] with tok := max l[k].burst 0 } := rfl
      have HF := Lib.hid hfill
      clear hfill
      obtain ⟨⟨p, r, u, q⟩, hbk⟩ : ∃ bk, bk = l[k] := ⟨_, rfl⟩
      rw [← hbk] at HS HF kc2 kc3
      dsimp only at kc2 kc3
      clear hbk
      go_wp2
      go_region
      all_goals go_wp2
      have hmax : (if u < 0 then 0 else u) = max u 0 := by split <;> omega
      go_roundw
      case rel =>
        refine ⟨k + 1, by omega, by go_num, ?_, ?_, ?_, ?_⟩
        · rw [← HS.out.1, HF.out, ← HS.out.2, hmax]
          exact own_set HO.out _ _
        · exact (hKr.far (p := ⟨g, k * 4 + 3, none⟩) (by simp; omega) _).drew
        · exact (hKb.far (p := ⟨g, k * 4 + 3, none⟩) (by simp; omega) _).drew
        · exact (hbr.setCell (p := ⟨g, k * 4 + 3, none⟩) (by simp; omega) _).drew
      case measure => simp [intOf]; omega
    · obtain rfl : k = l.length := by omega
      rw [mixL_full] at ho
      have hrr : RdB wr A1 l.length (l.map fill) := by
        obtain ⟨A2, c2, hv, _, _, hr⟩ := own_RdB ho
        injection hv with h1
        rw [h1]
        exact hr
      have hlm : (l.map fill).length = l.length := by simp
      have kb0 : wr.cell? ⟨w1.heap.size, 0, none⟩ = some (.int .i64 0) := hKb.cell 0
      have kb1 : wr.cell? ⟨w1.heap.size, 1, none⟩ = some (.slice A1 l.length c1) := hKb.cell 1
      have hHR := Lib.hid hrr
      have hHK := Lib.hid (And.intro hKr (And.intro hKb ho))
      have hzz : w1.heap.size < wr.heap.size := hKb.lt
      clear hrr hKr hKb ho
      by_cases c0 : checkL 0 (l.map fill) = 0
      · have hnew : newP l = ⟨0, l.map fill, 0⟩ := by unfold newP; rw [if_pos c0]
        have HC := Lib.hid c0
        have HN := Lib.hid hnew
        clear c0 hnew
        go_wp2_with fail
        refine (Check_any _ _ _ _ (l.map fill) _ hHR.out (by omega)).mono ?_
        rintro e w2 ⟨rfl, hb2⟩
        rw [HC.out]
        have q0 := (hb2.cell (p := ⟨w1.heap.size, 0, none⟩) hzz).trans kb0
        have q1 := (hb2.cell (p := ⟨w1.heap.size, 1, none⟩) hzz).trans kb1
        have hK2 := hHK.out.1.below hb2 (by omega)
        have r0 : w2.cell? ⟨w.heap.size, 0, none⟩ = some (.int .i64 0) := hK2.cell 0
        have r1 : w2.cell? ⟨w.heap.size, 1, none⟩ = some (.slice none 0 0) := hK2.cell 1
        have f0 : w2.frozen? ⟨w.heap.size, 0, none⟩ = false := hK2.frozen 0
        have f1 : w2.frozen? ⟨w.heap.size, 1, none⟩ = false := hK2.frozen 1
        have HK2 := Lib.hid hK2
        have HR2 := Lib.hid (hHR.out.up hb2)
        have hb2' := hbr.trans (hb2.mono hbr.size)
        clear hK2 kb0 kb1
        go_wp2_with fail
        have hK3 : Blk ((w2.setCell ⟨w.heap.size, 0, none⟩ (.int .i64 0)).setCell ⟨w.heap.size, 1, none⟩ (.slice A1 l.length c1)) w.heap.size 24 #[.int .i64 0, .slice A1 l.length c1] := (HK2.out.set_ 0 _).set_ 1 _
        refine bodyPost_ret (results_cell_tmp rfl _ _ _ _ _ _ rfl hK3 Try.underlying24 rfl info24) rfl ?_
        have hbz : Below w.heap.size w2 ((w2.setCell ⟨w.heap.size, 0, none⟩ (.int .i64 0)).setCell ⟨w.heap.size, 1, none⟩ (.slice A1 l.length c1)) := ((Below.refl _ _).setCell (p := ⟨w.heap.size, 0, none⟩) (Nat.le_refl _) _).setCell (p := ⟨w.heap.size, 1, none⟩) (Nat.le_refl _) _
        rw [HN.out]
        refine ⟨⟨A1, c1, by rw [hlm]; rfl, ?_, by rw [hlm]; exact hc1, hm1⟩, hb2'.trans hbz⟩
        rw [hlm]
        refine own_RdB' (base := WA.heap.size) (c := c1) (own_far (own_far (own_below hHK.out.2.2 hb2) ?_ _) ?_ _)
        · intro e
          have h9 : w.heap.size + 1 ≤ w.heap.size := by rw [← HSA.out]; exact (HST.out.2 _ e).1
          omega
        · intro e
          have h9 : w.heap.size + 1 ≤ w.heap.size := by rw [← HSA.out]; exact (HST.out.2 _ e).1
          omega
      · have hnew : newP l = ⟨0, [], checkL 0 (l.map fill)⟩ := by unfold newP; rw [if_neg c0]
        have hne : (checkL 0 (l.map fill) != 0) = true := by rw [bne_iff_ne]; exact c0
        have HN := Lib.hid hnew
        clear c0 hnew
        go_wp2_with fail
        refine (Check_any _ _ _ _ (l.map fill) _ hHR.out (by omega)).mono ?_
        rintro e w2 ⟨rfl, hb2⟩
        have hK2 := hHK.out.1.below hb2 (by omega)
        have r0 : w2.cell? ⟨w.heap.size, 0, none⟩ = some (.int .i64 0) := hK2.cell 0
        have r1 : w2.cell? ⟨w.heap.size, 1, none⟩ = some (.slice none 0 0) := hK2.cell 1
        have f0 : w2.frozen? ⟨w.heap.size, 0, none⟩ = false := hK2.frozen 0
        have f1 : w2.frozen? ⟨w.heap.size, 1, none⟩ = false := hK2.frozen 1
        have HK2 := Lib.hid hK2
        have hb2' := hbr.trans (hb2.mono hbr.size)
        generalize checkL 0 (l.map fill) = er at *
        clear hK2 kb0 kb1
        go_wp2_with fail
        have hK3 : Blk ((w2.setCell ⟨w.heap.size, 0, none⟩ (.int .i64 0)).setCell ⟨w.heap.size, 1, none⟩ (.slice none 0 0)) w.heap.size 24 #[.int .i64 0, .slice none 0 0] := (HK2.out.set_ 0 _).set_ 1 _
        refine bodyPost_ret (results_cell_tmp rfl _ _ _ _ _ _ rfl hK3 Try.underlying24 rfl info24) rfl ?_
        have hbz : Below w.heap.size w2 ((w2.setCell ⟨w.heap.size, 0, none⟩ (.int .i64 0)).setCell ⟨w.heap.size, 1, none⟩ (.slice none 0 0)) := ((Below.refl _ _).setCell (p := ⟨w.heap.size, 0, none⟩) (Nat.le_refl _) _).setCell (p := ⟨w.heap.size, 1, none⟩) (Nat.le_refl _) _
        rw [HN.out]
        exact ⟨⟨none, 0, rfl, Reads.none_, Nat.le_refl _, by unfold maxLen; omega⟩, hb2'.trans hbz⟩
end Go.Proofs.Ytehfnanhamaenaa
