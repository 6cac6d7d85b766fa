/- The reference's Take as one law; the walk of Take, the arms with an error. Conditions: at most 1000 buckets. -/
import Derived.Test.YtehfnanhamaenaaWr
namespace Go.Proofs.Ytehfnanhamaenaa
open Go.RowKit Go.Shelf
theorem takV_ok {t n : Int} {k : Nat} {l : List Bk} (h : findV t l k = 0) (n0 : 0 ≤ n) (n1 : n ≤ availL l k) : takV t l k n = ⟨t, takeP n l (pathL l k), 0⟩ := by
  unfold takV
  rw [if_neg (by rw [h]; simp), if_neg (by omega), if_neg (by rw [Int.toNat_natCast]; omega)]
theorem refTake_any (t k n : Int) (A : Option Addr) (m c : Nat) (l : List Bk) (w : World) (hR : RdB w A m l) (hn : m ≤ 1000) :
    Calls Try.prog 22 #[budV t A m c, .int .i64 k, .int .i64 n] w fun e w' => BudR (takV t l k n).t (takV t l k n).l (takV t l k n).err e w' ∧ Below w.heap.size w w' := by
  have hlen := hR.len
  subst hlen
  by_cases h : findV t l k ≠ 0 ∨ n < 0 ∨ availL l k.toNat < n
  · exact refTake_err t k n A c l w hR hn h
  · have h1 : findV t l k = 0 := by omega
    obtain ⟨_, h2, _⟩ := findV_zero h1
    obtain ⟨j, rfl⟩ : ∃ i : Nat, k = i := ⟨k.toNat, by omega⟩
    rw [Int.toNat_natCast] at h
    rw [takV_ok h1 (by omega) (by omega)]
    have := refTake_ok t n j A c l w hR hn h1 (by omega) (by omega)
    exact this.mono fun e w' hh => ⟨by simpa only [BudR, takeP_len] using hh.1, hh.2⟩
set_option maxHeartbeats 1000000 in
theorem Take_err (t k n : Int) (A : Option Addr) (c : Nat) (l : List Bk) (w : World) (hR : RdB w A l.length l) (hn : l.length ≤ 1000) (he : findV t l k ≠ 0 ∨ n < 0 ∨ availL l k.toNat < n) :
    Calls Try.prog 21 #[budV t A l.length c, .int .i64 k, .int .i64 n] w fun e w' => BudR (takV t l k n).t (takV t l k n).l (takV t l k n).err e w' ∧ Below w.heap.size w w' := by
  have hb : Below w.heap.size w (((w.alloc (.cells #[.int .i64 t, .slice A l.length c] 24)).alloc (.cells #[.int .i64 n] 3)).alloc (.cells #[.int .i64 0, .slice none 0 0] 24)) := (((Below.refl _ w).alloc (Nat.le_refl _) _).alloc (by simp) _).alloc (by simp; omega) _
  have h1 := ((Blk.new w 24 #[.int .i64 t, .slice A l.length c]).alloc (.cells #[.int .i64 n] 3)).alloc (.cells #[.int .i64 0, .slice none 0 0] 24)
  have h2 := (Blk.new (w.alloc (.cells #[.int .i64 t, .slice A l.length c] 24)) 3 #[.int .i64 n]).alloc (.cells #[.int .i64 0, .slice none 0 0] 24)
  have h3 := Blk.new ((w.alloc (.cells #[.int .i64 t, .slice A l.length c] 24)).alloc (.cells #[.int .i64 n] 3)) 24 #[.int .i64 0, .slice none 0 0]
  simp only [World.size_alloc] at h2 h3
  have H := Lib.hid (And.intro h1 (And.intro h2 h3))
  clear h1 h2 h3
  have fin : ∀ (er : Int) (w2 : World) (tp : Array Value), takV t l k n = ⟨0, [], er⟩ → Blk w2 (w.heap.size + 1 + 1) 24 #[.int .i64 0, .slice none 0 0] → Below w.heap.size w w2 → tp.getD 6 undef = .pointer (some ⟨w.heap.size + 1 + 1, 0, none⟩) → tp.getD 7 undef = .int .i64 er →
      bodyPost Try.prog Try.f21 (fun e w' => BudR (takV t l k n).t (takV t l k n).l (takV t l k n).err e w' ∧ Below w.heap.size w w') .ret { tmps := tp, defers := [] } ((w2.setCell ⟨w.heap.size + 1 + 1, 0, none⟩ (.int .i64 0)).setCell ⟨w.heap.size + 1 + 1, 1, none⟩ (.slice none 0 0)) := by
    intro er w2 tp e0 hK2 hb2 e6 e7
    have hK3 := (hK2.set_ 0 (.int .i64 0)).set_ 1 (.slice none 0 0)
    refine bodyPost_ret (results_cell_tmp rfl _ _ _ _ _ _ e6 hK3 Try.underlying24 rfl info24) rfl ?_
    rw [e7, e0]
    exact ⟨⟨none, 0, rfl, Reads.none_, Nat.le_refl _, by unfold maxLen; omega⟩, (hb2.setCell (p := ⟨w.heap.size + 1 + 1, 0, none⟩) (by dsimp only; omega) _).setCell (p := ⟨w.heap.size + 1 + 1, 1, none⟩) (by dsimp only; omega) _⟩
  have HFIN := Lib.hid fin
  clear fin
  have HV : Hid (takV t l k n = if findV t l k ≠ 0 then ⟨0, [], findV t l k⟩ else if n < 0 then ⟨0, [], 1⟩ else if availL l k.toNat < n then ⟨0, [], 16⟩ else ⟨t, takeP n l (pathL l k), 0⟩) := rfl
  go_enter Try.func21, Try.ntmps21
  go_wp2_with fail
  generalize (((w.alloc (.cells #[.int .i64 t, .slice A l.length c] 24)).alloc (.cells #[.int .i64 n] 3)).alloc (.cells #[.int .i64 0, .slice none 0 0] 24)) = W0 at *
  refine (find_any _ _ _ _ _ l _ (hR.up hb) hn).mono ?_
  rintro e w2 ⟨rfl, hb2⟩
  have hk1 := H.out.1.below hb2 H.out.1.lt
  have hk2 := H.out.2.1.below hb2 H.out.2.1.lt
  have hk3 := H.out.2.2.below hb2 H.out.2.2.lt
  have a1 : w2.cell? ⟨w.heap.size, 1, none⟩ = some (.slice A l.length c) := hk1.cell 1
  have n0 : w2.cell? ⟨w.heap.size + 1, 0, none⟩ = some (.int .i64 n) := hk2.cell 0
  have b0 : w2.cell? ⟨w.heap.size + 1 + 1, 0, none⟩ = some (.int .i64 0) := hk3.cell 0
  have b1 : w2.cell? ⟨w.heap.size + 1 + 1, 1, none⟩ = some (.slice none 0 0) := hk3.cell 1
  have f0 : w2.frozen? ⟨w.heap.size + 1 + 1, 0, none⟩ = false := hk3.frozen 0
  have f1 : w2.frozen? ⟨w.heap.size + 1 + 1, 1, none⟩ = false := hk3.frozen 1
  have HK := Lib.hid (And.intro hk3 (hb.trans (hb2.mono hb.size)))
  clear hk1 hk2 hk3
  by_cases c0 : findV t l k = 0
  · rw [c0]
    have C0 := Lib.hid c0
    have he' : n < 0 ∨ availL l k.toNat < n := by omega
    clear he c0
    by_cases c1 : n < 0
    · have e1 : takV t l k n = ⟨0, [], 1⟩ := by rw [HV.out, if_neg (by rw [C0.out]; simp), if_pos c1]
      have E1 := Lib.hid e1
      clear e1
      go_wp2_with fail
      exact HFIN.out 1 w2 _ E1.out HK.out.1 HK.out.2 rfl rfl
    · have e1 : takV t l k n = ⟨0, [], 16⟩ := by rw [HV.out, if_neg (by rw [C0.out]; simp), if_neg c1, if_pos (by omega)]
      have E1 := Lib.hid e1
      clear e1
      obtain ⟨hz, hk0, hkl⟩ := findV_zero C0.out
      obtain ⟨k, rfl⟩ : ∃ i : Nat, k = i := ⟨k.toNat, by omega⟩
      obtain ⟨g, off, rfl, hg, _⟩ := (hR.up HK.out.2).cells (by omega)
      have HAV := Lib.hid (fun (w9 : World) (h9 : Below w.heap.size w w9) => callsIn_wide.1 (available_in g off c l k w9 (up_of hz) (by omega) (checkL_zero hz).1 (hR.up h9)))
      have hmn : availL l k < n := by rw [Int.toNat_natCast] at he'; omega
      generalize availL l k = mx at *
      clear hz
      go_wp2_with fail
      have hgl : g < w2.heap.size := Nat.lt_of_lt_of_le hg (Nat.le_refl _)
      have hbl := HK.out.2
      have hbk := HK.out.1
      have hkl2 := hbk.lt
      go_region_held3 (fun w' => w'.cell? ⟨w.heap.size, 1, none⟩ = some (.slice (some ⟨g, off, none⟩) l.length c) ∧ w'.cell? ⟨w.heap.size + 1, 0, none⟩ = some (.int .i64 n) ∧ Blk w' (w.heap.size + 1 + 1) 24 #[.int .i64 0, .slice none 0 0] ∧ Below w.heap.size w w' ∧ w.heap.size + 1 + 1 < w'.heap.size)
        (first
          | (go_keep; done)
          | (go_split_ands
             refine ⟨?_, ?_, ?_, ?_, ?_⟩ <;> first | assumption | exact Blk.drew (by assumption) | exact Below.drew (by assumption) | exact (hb'.cell (p := ⟨w.heap.size, 1, none⟩) (by dsimp only; omega)).trans (by assumption) | exact (hb'.cell (p := ⟨w.heap.size + 1, 0, none⟩) (by dsimp only; omega)).trans (by assumption) | exact Blk.below (by assumption) hb' (by assumption) | exact Below.trans (by assumption) (hb'.mono (by omega)) | exact Nat.lt_of_lt_of_le (by assumption) hb'.size))
        (first
          | (go_at_call 33; refine (HAV.out _ (by go_split_ands; first | assumption | exact Below.drew (by assumption))).mono ?_; rintro e w' ⟨rfl, hb'⟩))
      rename_i hH
      have HH := Lib.hid hH
      clear hH
      have c0 := HH.out.2.2.1.cell 0
      have c1 := HH.out.2.2.1.cell 1
      have f2 := HH.out.2.2.1.frozen 0
      have f3 := HH.out.2.2.1.frozen 1
      go_wp2_with fail
      exact HFIN.out 16 _ _ E1.out HH.out.2.2.1 HH.out.2.2.2.1 rfl rfl
  · have e1 : takV t l k n = ⟨0, [], findV t l k⟩ := by rw [HV.out, if_pos c0]
    have E1 := Lib.hid e1
    have hne : (findV t l k != 0) = true := by rw [bne_iff_ne]; exact c0
    clear e1 he
    obtain ⟨er, her⟩ : ∃ er, findV t l k = er := ⟨_, rfl⟩
    have HER := Lib.hid her
    rw [her] at hne ⊢
    clear her c0
    go_wp2_with fail
    exact HFIN.out er w2 _ (by rw [E1.out, HER.out]) HK.out.1 HK.out.2 rfl rfl
end Go.Proofs.Ytehfnanhamaenaa
