/- Take as one law; the walk of When, the arms with an error. Conditions: at most 1000 buckets. -/
import Derived.Test.YtehfnanhamaenaaWu
namespace Go.Proofs.Ytehfnanhamaenaa
open Go.RowKit Go.Shelf
theorem Take_any (t k n : Int) (A : Option Addr) (m c : Nat) (l : List Bk) (w : World) (hR : RdB w A m l) (hn : m ≤ 1000) :
    Calls Try.prog 21 #[budV t A m c, .int .i64 k, .int .i64 n] w fun e w' => BudR (takV t l k n).t (takV t l k n).l (takV t l k n).err e w' ∧ Below w.heap.size w w' := by
  have hlen := hR.len
  subst hlen
  by_cases h : findV t l k ≠ 0 ∨ n < 0 ∨ availL l k.toNat < n
  · exact Take_err t k n A c l w hR hn h
  · have h1 : findV t l k = 0 := by omega
    obtain ⟨_, h2, _⟩ := findV_zero h1
    obtain ⟨j, rfl⟩ : ∃ i : Nat, k = i := ⟨k.toNat, by omega⟩
    rw [Int.toNat_natCast] at h
    rw [takV_ok h1 (by omega) (by omega)]
    have := callsIn_wide.1 (Take_ok t n j A c l w hR hn h1 (by omega) (by omega))
    exact this.mono fun e w' hh => ⟨by simpa only [BudR, takeP_len] using hh.1.r, hh.2⟩
set_option maxHeartbeats 1000000 in
theorem When_err (t k n : Int) (A : Option Addr) (m c : Nat) (l : List Bk) (w : World) (hR : RdB w A m l) (hn : m ≤ 1000) (he : findV t l k ≠ 0 ∨ n < 0) :
    Calls Try.prog 23 #[budV t A m c, .int .i64 k, .int .i64 n] w fun e w' => e = .returned (.tuple #[.int .i64 (whenV t l k n).1, .int .i64 (whenV t l k n).2]) ∧ Below w.heap.size w w' := by
  have hb : Below w.heap.size w ((((w.alloc (.cells #[.int .i64 t, .slice A m c] 24)).alloc (.cells #[.int .i64 n] 3)).alloc (.cells #[.int .i64 0] 3)).alloc (.cells #[.int .i64 0] 26)) := ((((Below.refl _ w).alloc (Nat.le_refl _) _).alloc (by simp) _).alloc (by simp; omega) _).alloc (by simp; omega) _
  have HV : Hid (whenV t l k n = if findV t l k ≠ 0 then (0, findV t l k) else if n < 0 then (0, 1) else match waitP n l (pathL l k) 0 with | none => (0, 21) | some m => if 1073741824 - t < m then (0, 21) else (t + m, 0)) := rfl
  go_enter Try.func23, Try.ntmps23
  go_wp2_with fail
  refine (find_any _ _ _ _ _ l _ (hR.up hb) (by omega)).mono ?_
  rintro e w2 ⟨rfl, hb2⟩
  obtain ⟨hc, _⟩ := bcell hb2
  have hz : w.heap.size + 1 + 1 + 1 + 1 ≤ w2.heap.size := by have := hb2.size; simp at this; omega
  obtain ⟨fv, hfv⟩ : ∃ fv, findV t l k = fv := ⟨_, rfl⟩
  rw [hfv] at he ⊢
  have HFV := Lib.hid hfv
  clear hfv
  have hz0 : w.heap.size < w2.heap.size := by omega
  have hz1 : w.heap.size + 1 < w2.heap.size := by omega
  have hz2 : w.heap.size + 1 + 1 < w2.heap.size := by omega
  have hz3 : w.heap.size + 1 + 1 + 1 < w2.heap.size := by omega
  have hbb := hb.trans (hb2.mono hb.size)
  by_cases c0 : fv = 0
  · subst c0
    have hn0 : n < 0 := by omega
    go_wp2_with fail
    refine bodyPost_ret (v := .tuple #[.int .i64 0, .int .i64 1]) (by simp [results, Try.results23, go_sem, hc]) rfl ⟨by rw [HV.out, if_neg (by rw [HFV.out]; simp), if_pos hn0], (hbb.setCell (p := ⟨w.heap.size + 1 + 1, 0, none⟩) (by dsimp only; omega) _).setCell (p := ⟨w.heap.size + 1 + 1 + 1, 0, none⟩) (by dsimp only; omega) _⟩
  · have hne : (fv != 0) = true := by rw [bne_iff_ne]; exact c0
    go_wp2_with fail
    refine bodyPost_ret (v := .tuple #[.int .i64 0, .int .i64 fv]) (by simp [results, Try.results23, go_sem, hc]) rfl ⟨by rw [HV.out, if_pos (by rw [HFV.out]; exact c0), HFV.out], (hbb.setCell (p := ⟨w.heap.size + 1 + 1, 0, none⟩) (by dsimp only; omega) _).setCell (p := ⟨w.heap.size + 1 + 1 + 1, 0, none⟩) (by dsimp only; omega) _⟩
end Go.Proofs.Ytehfnanhamaenaa
