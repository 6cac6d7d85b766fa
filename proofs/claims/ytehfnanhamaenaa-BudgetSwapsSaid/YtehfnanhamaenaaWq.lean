/- The walk of the reference's Take. Conditions: at most 1000 buckets. -/
import Derived.Test.YtehfnanhamaenaaMathD
namespace Go.Proofs.Ytehfnanhamaenaa
open Go.RowKit Go.Shelf
set_option maxHeartbeats 1000000 in
theorem refTake_err (t k n : Int) (A : Option Addr) (c : Nat) (l : List Bk) (w : World) (hR : RdB w A l.length l) (hn : l.length ≤ 1000) (he : findV t l k ≠ 0 ∨ n < 0 ∨ availL l k.toNat < n) :
    Calls Try.prog 22 #[budV t A l.length c, .int .i64 k, .int .i64 n] w fun e w' => BudR (takV t l k n).t (takV t l k n).l (takV t l k n).err e w' ∧ Below w.heap.size w w' := by
  have hb : Below w.heap.size w ((w.alloc (.cells #[.int .i64 t, .slice A l.length c] 24)).alloc (.cells #[.int .i64 0, .slice none 0 0] 24)) := ((Below.refl _ w).alloc (Nat.le_refl _) _).alloc (by simp) _
  have h1 := (Blk.new w 24 #[.int .i64 t, .slice A l.length c]).alloc (.cells #[.int .i64 0, .slice none 0 0] 24)
  have h2 := Blk.new (w.alloc (.cells #[.int .i64 t, .slice A l.length c] 24)) 24 #[.int .i64 0, .slice none 0 0]
  rw [World.size_alloc] at h2
  have H := Lib.hid (And.intro h1 h2)
  clear h1 h2
  have fin : ∀ (er : Int) (w2 : World) (tp : Array Value), takV t l k n = ⟨0, [], er⟩ → Blk w2 (w.heap.size + 1) 24 #[.int .i64 0, .slice none 0 0] → Below w.heap.size w w2 → tp.getD 6 undef = .pointer (some ⟨w.heap.size + 1, 0, none⟩) → tp.getD 7 undef = .int .i64 er →
      bodyPost Try.prog Try.f22 (fun e w' => BudR (takV t l k n).t (takV t l k n).l (takV t l k n).err e w' ∧ Below w.heap.size w w') .ret { tmps := tp, defers := [] } ((w2.setCell ⟨w.heap.size + 1, 0, none⟩ (.int .i64 0)).setCell ⟨w.heap.size + 1, 1, none⟩ (.slice none 0 0)) := by
    intro er w2 tp e0 hK2 hb2 e6 e7
    have hK3 := (hK2.set_ 0 (.int .i64 0)).set_ 1 (.slice none 0 0)
    refine bodyPost_ret (results_cell_tmp rfl _ _ _ _ _ _ e6 hK3 Try.underlying24 rfl info24) rfl ?_
    rw [e7, e0]
    exact ⟨⟨none, 0, rfl, Reads.none_, Nat.le_refl _, by unfold maxLen; omega⟩, (hb2.setCell (p := ⟨w.heap.size + 1, 0, none⟩) (by simp) _).setCell (p := ⟨w.heap.size + 1, 1, none⟩) (by simp) _⟩
  have HFIN := Lib.hid fin
  clear fin
  have HV : Hid (takV t l k n = if findV t l k ≠ 0 then ⟨0, [], findV t l k⟩ else if n < 0 then ⟨0, [], 1⟩ else if availL l k.toNat < n then ⟨0, [], 16⟩ else ⟨t, takeP n l (pathL l k), 0⟩) := rfl
  go_enter Try.func22, Try.ntmps22
  go_wp2_with fail
  generalize ((w.alloc (.cells #[.int .i64 t, .slice A l.length c] 24)).alloc (.cells #[.int .i64 0, .slice none 0 0] 24)) = W0 at *
  refine (refAvailable_any _ _ _ _ _ l _ (hR.up hb) hn).mono ?_
  rintro e w2 ⟨rfl, hb2⟩
  have hk2 := H.out.2.below hb2 H.out.2.lt
  have b0 : w2.cell? ⟨w.heap.size + 1, 0, none⟩ = some (.int .i64 0) := hk2.cell 0
  have b1 : w2.cell? ⟨w.heap.size + 1, 1, none⟩ = some (.slice none 0 0) := hk2.cell 1
  have f0 : w2.frozen? ⟨w.heap.size + 1, 0, none⟩ = false := hk2.frozen 0
  have f1 : w2.frozen? ⟨w.heap.size + 1, 1, none⟩ = false := hk2.frozen 1
  have HK := Lib.hid (And.intro hk2 (hb.trans (hb2.mono hb.size)))
  clear hk2
  by_cases c0 : findV t l k = 0
  · have HE : Hid (avV t l k = availL l k.toNat) := by rw [Hid, avV, if_pos c0]
    rw [HE.out, c0]
    have C0 := Lib.hid c0
    have he' : n < 0 ∨ availL l k.toNat < n := by omega
    clear he c0
    by_cases c1 : n < 0
    · have e1 : takV t l k n = ⟨0, [], 1⟩ := by rw [HV.out, if_neg (by rw [C0.out]; simp), if_pos c1]
      have E1 := Lib.hid e1
      clear e1
      go_wp2_with fail
      exact HFIN.out 1 w2 _ E1.out HK.out.1 HK.out.2 rfl rfl
    · have e1 : takV t l k n = ⟨0, [], 16⟩ := by rw [HV.out, if_neg (by rw [C0.out]; simp), if_neg c1, if_pos (by omega)]
      have E1 := Lib.hid e1
      clear e1
      generalize availL l k.toNat = m at *
      have hmn : m < n := by omega
      go_wp2_with fail
      exact HFIN.out 16 w2 _ E1.out HK.out.1 HK.out.2 rfl rfl
  · have e1 : takV t l k n = ⟨0, [], findV t l k⟩ := by rw [HV.out, if_pos c0]
    have E1 := Lib.hid e1
    have hne : (findV t l k != 0) = true := by rw [bne_iff_ne]; exact c0
    clear e1 he
    obtain ⟨er, her⟩ : ∃ er, findV t l k = er := ⟨_, rfl⟩
    have HER := Lib.hid her
    rw [her] at hne ⊢
    clear her c0
    go_wp2_with fail
    exact HFIN.out er w2 _ (by rw [E1.out, HER.out]) HK.out.1 HK.out.2 rfl rfl
end Go.Proofs.Ytehfnanhamaenaa
