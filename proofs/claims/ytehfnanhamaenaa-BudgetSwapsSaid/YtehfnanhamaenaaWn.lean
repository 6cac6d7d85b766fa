/- The walks of Available and of the reference's Path. Conditions: at most 1000 buckets. -/
import Derived.Test.YtehfnanhamaenaaWm
namespace Go.Proofs.Ytehfnanhamaenaa
open Go.RowKit Go.Shelf
theorem up_of {t : Int} {l : List Bk} (h : checkL t l = 0) : Up l := fun k hk => by
  rw [bkAt_lt l k hk]
  have := chk_all h k hk
  exact ⟨this.1, this.2.1⟩
theorem findV_zero {t k : Int} {l : List Bk} (h : findV t l k = 0) : checkL t l = 0 ∧ 0 ≤ k ∧ k < l.length := by
  unfold findV at h
  split at h
  · contradiction
  · split at h
    · cases h
    · exact ⟨by omega, by omega, by omega⟩
def avV (t : Int) (l : List Bk) (k : Int) : Int := if findV t l k = 0 then availL l k.toNat else 0
set_option maxHeartbeats 1000000 in
theorem Available_any (t k : Int) (A : Option Addr) (n c : Nat) (l : List Bk) (w : World) (hR : RdB w A n l) (hn : n ≤ 1000) :
    Calls Try.prog 19 #[budV t A n c, .int .i64 k] w fun e w' => e = .returned (.tuple #[.int .i64 (avV t l k), .int .i64 (findV t l k)]) ∧ Below w.heap.size w w' := by
  have hlen := hR.len
  subst hlen
  have hB0 : Below w.heap.size w (w.alloc (.cells #[.int .i64 t, .slice A l.length c] 24)) := (Below.refl _ w).alloc (Nat.le_refl _) _
  have hK := Blk.new w 24 #[.int .i64 t, .slice A l.length c]
  go_enter Try.func19, Try.ntmps19
  go_wp2_with fail
  generalize w.alloc (.cells #[.int .i64 t, .slice A l.length c] 24) = W0 at *
  refine (find_any _ _ _ _ _ l _ (hR.up hB0) (by omega)).mono ?_
  rintro e w2 ⟨rfl, hb2⟩
  have hbb := hB0.trans (hb2.mono hB0.size)
  have a1 : w2.cell? ⟨w.heap.size, 1, none⟩ = some (.slice A l.length c) := (hK.below hb2 hK.lt).cell 1
  have HV : Hid (avV t l k = if findV t l k = 0 then availL l k.toNat else 0) := rfl
  by_cases c0 : findV t l k = 0
  · obtain ⟨hz, k0, k1⟩ := findV_zero c0
    have hu := up_of hz
    have nl := (checkL_zero hz).1
    have HE : Hid (avV t l k = availL l k.toNat ∧ findV t l k = 0) := ⟨by rw [HV.out, if_pos c0], c0⟩
    rw [c0]
    clear c0 HV
    obtain ⟨k, rfl⟩ : ∃ i : Nat, k = i := ⟨k.toNat, by omega⟩
    obtain ⟨g, off, rfl, hg, _⟩ := (hR.up hbb).cells (by omega)
    have hav := callsIn_wide.1 (available_in g off c l k w2 hu (by omega) nl (hR.up hbb))
    have HA := Lib.hid hav
    clear hav
    go_wp2_with fail
    refine HA.out.mono ?_
    rintro e w3 ⟨rfl, hb3⟩
    go_wp2_with fail
    go_ret2
    exact ⟨by rw [HE.out.1, HE.out.2]; rfl, hbb.trans (hb3.mono hbb.size)⟩
  · have HE : Hid (avV t l k = 0) := by rw [Hid, HV.out, if_neg c0]
    have hne : (findV t l k != 0) = true := by rw [bne_iff_ne]; exact c0
    obtain ⟨er, her⟩ : ∃ er, findV t l k = er := ⟨_, rfl⟩
    have HER := Lib.hid her
    rw [her] at hne ⊢
    clear HV her c0
    go_wp2_with fail
    go_ret2
    exact ⟨by rw [HE.out, HER.out]; rfl, hbb⟩
end Go.Proofs.Ytehfnanhamaenaa
