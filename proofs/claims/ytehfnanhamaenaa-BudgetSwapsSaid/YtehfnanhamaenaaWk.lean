/- Both Advances as one law each; the walks of find and exists. Conditions: at most 1000 buckets. -/
import Derived.Test.YtehfnanhamaenaaWj
namespace Go.Proofs.Ytehfnanhamaenaa
open Go.RowKit
theorem advP_any {t now : Int} {l : List Bk} (h : checkL t l = 0 ∧ t ≤ now ∧ now ≤ 1073741824) : advP t l now = ⟨now, l.map (adv (now - t)), 0⟩ := advP_ok h.1 h.2.1 h.2.2
theorem Advance_any (t now : Int) (A : Option Addr) (n c : Nat) (l : List Bk) (w : World) (hR : RdB w A n l) (hn : n ≤ 1000) :
    Calls Try.prog 17 #[budV t A n c, .int .i64 now] w fun e w' => BudR (advP t l now).t (advP t l now).l (advP t l now).err e w' ∧ Below w.heap.size w w' := by
  have hlen := hR.len
  subst hlen
  by_cases h : checkL t l = 0 ∧ t ≤ now ∧ now ≤ 1073741824
  · rw [advP_any h]
    exact (Advance_ok t now A c l w hR h.1 h.2.1 h.2.2).mono fun e w' hh => ⟨hh.1.r, hh.2⟩
  · exact Advance_err t now A _ c l w hR (by omega) (by omega)
theorem refAdvance_any (t now : Int) (A : Option Addr) (n c : Nat) (l : List Bk) (w : World) (hR : RdB w A n l) (hn : n ≤ 1000) :
    Calls Try.prog 18 #[budV t A n c, .int .i64 now] w fun e w' => BudR (advP t l now).t (advP t l now).l (advP t l now).err e w' ∧ Below w.heap.size w w' := by
  have hlen := hR.len
  subst hlen
  by_cases h : checkL t l = 0 ∧ t ≤ now ∧ now ≤ 1073741824
  · rw [advP_any h]
    exact refAdvance_ok t now A c l w hR h.1 h.2.1 h.2.2
  · exact refAdvance_err t now A _ c l w hR (by omega) (by omega)
def findV (t : Int) (l : List Bk) (k : Int) : Int := if checkL t l ≠ 0 then checkL t l else if k < 0 ∨ l.length ≤ k then 7 else 0
set_option maxHeartbeats 1000000 in
theorem find_any (t k : Int) (A : Option Addr) (n c : Nat) (l : List Bk) (w : World) (hR : RdB w A n l) (hn : n ≤ 1000) :
    Calls Try.prog 32 #[budV t A n c, .int .i64 k] w fun e w' => e = .returned (.int .i64 (findV t l k)) ∧ Below w.heap.size w w' := by
  have hlen := hR.len
  subst hlen
  have hB0 : Below w.heap.size w (w.alloc (.cells #[.int .i64 t, .slice A l.length c] 24)) := (Below.refl _ w).alloc (Nat.le_refl _) _
  have hK := Blk.new w 24 #[.int .i64 t, .slice A l.length c]
  go_enter Try.func32, Try.ntmps32
  go_wp2_with fail
  generalize w.alloc (.cells #[.int .i64 t, .slice A l.length c] 24) = W0 at *
  refine (Check_any _ _ _ _ l _ (hR.up hB0) (by omega)).mono ?_
  rintro e w2 ⟨rfl, hb2⟩
  have hbb := hB0.trans (hb2.mono hB0.size)
  have a1 : w2.cell? ⟨w.heap.size, 1, none⟩ = some (.slice A l.length c) := (hK.below hb2 hK.lt).cell 1
  have HV : Hid (findV t l k = if checkL t l ≠ 0 then checkL t l else if k < 0 ∨ l.length ≤ k then 7 else 0) := rfl
  generalize checkL t l = er at *
  by_cases c0 : er = 0
  · subst c0
    by_cases c1 : k < 0
    · go_wp2_with fail
      go_ret
      exact ⟨by rw [HV.out, if_neg (by omega), if_pos (by omega)]; rfl, hbb⟩
    · by_cases c2 : (l.length : Int) ≤ k
      · go_wp2_with fail
        go_ret
        exact ⟨by rw [HV.out, if_neg (by omega), if_pos (by omega)]; rfl, hbb⟩
      · go_wp2_with fail
        go_ret
        exact ⟨by rw [HV.out, if_neg (by omega), if_neg (by omega)]; rfl, hbb⟩
  · have hne : (er != 0) = true := by rw [bne_iff_ne]; exact c0
    go_wp2_with fail
    go_ret
    exact ⟨by rw [HV.out, if_pos c0]; rfl, hbb⟩
set_option maxHeartbeats 1000000 in
theorem exists_any (t k : Int) (A : Option Addr) (n c : Nat) (l : List Bk) (w : World) (hR : RdB w A n l) (hn : n ≤ 1000) :
    Calls Try.prog 34 #[budV t A n c, .int .i64 k] w fun e w' => e = .returned (.int .i64 (findV t l k)) ∧ Below w.heap.size w w' := by
  have hlen := hR.len
  subst hlen
  have hB0 : Below w.heap.size w (w.alloc (.cells #[.int .i64 t, .slice A l.length c] 24)) := (Below.refl _ w).alloc (Nat.le_refl _) _
  have hK := Blk.new w 24 #[.int .i64 t, .slice A l.length c]
  go_enter Try.func34, Try.ntmps34
  go_wp2_with fail
  generalize w.alloc (.cells #[.int .i64 t, .slice A l.length c] 24) = W0 at *
  refine (refCheck_any _ _ _ _ l _ (hR.up hB0) (by omega)).mono ?_
  rintro e w2 ⟨rfl, hb2⟩
  have hbb := hB0.trans (hb2.mono hB0.size)
  have a1 : w2.cell? ⟨w.heap.size, 1, none⟩ = some (.slice A l.length c) := (hK.below hb2 hK.lt).cell 1
  have HV : Hid (findV t l k = if checkL t l ≠ 0 then checkL t l else if k < 0 ∨ l.length ≤ k then 7 else 0) := rfl
  generalize checkL t l = er at *
  by_cases c0 : er = 0
  · subst c0
    by_cases c1 : k < 0
    · go_wp2_with fail
      go_ret
      exact ⟨by rw [HV.out, if_neg (by omega), if_pos (by omega)]; rfl, hbb⟩
    · by_cases c2 : (l.length : Int) ≤ k
      · go_wp2_with fail
        go_ret
        exact ⟨by rw [HV.out, if_neg (by omega), if_pos (by omega)]; rfl, hbb⟩
      · go_wp2_with fail
        go_ret
        exact ⟨by rw [HV.out, if_neg (by omega), if_neg (by omega)]; rfl, hbb⟩
  · have hne : (er != 0) = true := by rw [bne_iff_ne]; exact c0
    go_wp2_with fail
    go_ret
    exact ⟨by rw [HV.out, if_pos c0]; rfl, hbb⟩
end Go.Proofs.Ytehfnanhamaenaa
