/- The walk of the reference's Available. Conditions: at most 1000 buckets. -/
import Derived.Test.YtehfnanhamaenaaWo
namespace Go.Proofs.Ytehfnanhamaenaa
open Go.RowKit Go.Shelf
theorem own_ints {w : World} {base : Nat} {v : Value} {p : List Nat} (h : w.ownsRow base 3 1 v p.length (ints p)) : ∃ A c, v = .slice A p.length c ∧ (0 < p.length → ∃ b, A = some ⟨b, 0, none⟩ ∧ base ≤ b ∧ b < w.heap.size ∧ ∀ j (hj : j < p.length), w.cell? ⟨b, j, none⟩ = some (.int .i64 (p[j] : Int))) := by
  obtain ⟨A, c, rfl, hc, hm, hr⟩ := own_slice h
  refine ⟨A, c, rfl, fun hp => ?_⟩
  obtain ⟨g, cap, hv, hg, hlt⟩ := h.form hp
  have hA : A = some ⟨g, 0, none⟩ := by injection hv
  subst hA
  have hge := own_block_ge h g rfl
  refine ⟨g, rfl, hge, hlt, fun j hj => ?_⟩
  have := hr.2 hp
  obtain ⟨ad, he, _, hcs⟩ := this
  injection he with he
  subst he
  have := hcs j _ (ints_get p j hj)
  unfold Addr.add at this
  split at this
  · rename_i h0; subst h0; exact this
  · simpa using this
theorem path_bk {l : List Bk} (hu : Up l) (k : Nat) (hk : k < l.length) (j : Nat) (hj : j < (pathL l k).length) : (pathL l k)[j] < l.length := by
  have := pathL_lt hu (k + 1) k (by omega) (by omega) _ (List.getElem_mem hj)
  omega
theorem availP_take (l : List Bk) (m : Int) (p : List Nat) (j : Nat) (hj : j < p.length) : availP l m (p.take (j + 1)) = minI (availP l m (p.take j)) (bkAt l p[j]).tok := by
  unfold availP
  rw [← List.take_append_getElem hj, List.foldl_append]
  rfl
set_option maxHeartbeats 1000000 in
theorem refAvailable_any (t k : Int) (A : Option Addr) (n c : Nat) (l : List Bk) (w : World) (hR : RdB w A n l) (hn : n ≤ 1000) :
    Calls Try.prog 20 #[budV t A n c, .int .i64 k] w fun e w' => e = .returned (.tuple #[.int .i64 (avV t l k), .int .i64 (findV t l k)]) ∧ Below w.heap.size w w' := by
  have hlen := hR.len
  subst hlen
  have hB0 : Below w.heap.size w (w.alloc (.cells #[.int .i64 t, .slice A l.length c] 24)) := (Below.refl _ w).alloc (Nat.le_refl _) _
  have hK := Blk.new w 24 #[.int .i64 t, .slice A l.length c]
  go_enter Try.func20, Try.ntmps20
  go_wp2_with fail
  generalize w.alloc (.cells #[.int .i64 t, .slice A l.length c] 24) = W0 at *
  refine (exists_any _ _ _ _ _ l _ (hR.up hB0) (by omega)).mono ?_
  rintro e w2 ⟨rfl, hb2⟩
  have hbb := hB0.trans (hb2.mono hB0.size)
  have hK2 := hK.below hb2 hK.lt
  have a0 : w2.cell? ⟨w.heap.size, 0, none⟩ = some (.int .i64 t) := hK2.cell 0
  have a1 : w2.cell? ⟨w.heap.size, 1, none⟩ = some (.slice A l.length c) := hK2.cell 1
  have HV : Hid (avV t l k = if findV t l k = 0 then availL l k.toNat else 0) := rfl
  by_cases c0 : findV t l k = 0
  · obtain ⟨hz, k0, k1⟩ := findV_zero c0
    have hu := up_of hz
    have nl := (checkL_zero hz).1
    have HE : Hid (avV t l k = availL l k.toNat ∧ findV t l k = 0) := ⟨by rw [HV.out, if_pos c0], c0⟩
    rw [c0]
    clear c0 HV
    obtain ⟨k, rfl⟩ : ∃ i : Nat, k = i := ⟨k.toNat, by omega⟩
    have hpa := refPath_any t k A c l w2 (hR.up hbb) hn hu (by omega)
    have HA := Lib.hid hpa
    have HK := Lib.hid hK2
    clear hpa hK2
    go_wp2_with fail
    refine HA.out.mono ?_
    rintro e w3 ⟨⟨v, rfl, ho⟩, hb3⟩
    obtain ⟨A3, c3, rfl, hA3⟩ := own_ints ho
    have hK3 := HK.out.below hb3 HK.out.lt
    have e1 : w3.cell? ⟨w.heap.size, 1, none⟩ = some (.slice A l.length c) := hK3.cell 1
    have hb3' := hbb.trans (hb3.mono hbb.size)
    obtain ⟨b, off, rfl, hlb, hcs⟩ := hR.cells (by omega)
    have hc3 : ∀ i, i < l.length → w.cell? ⟨b, off + i * 4 + 3, none⟩ = some (.int .i64 (bkAt l i).tok) := fun i hi => by rw [bkAt_lt l i hi]; exact (hcs i hi).2.2.2
    have d3 := (hb3'.cell (p := ⟨b, off + k * 4 + 3, none⟩) hlb).trans (hc3 k (by omega))
    have HC := Lib.hid hc3
    have HA3 := Lib.hid hA3
    have HL : Hid ((pathL l k).length ≤ l.length) := pathL_le hu k (by omega)
    clear hcs hc3 hA3
    have hK3L := hK3.lt
    go_wp2_with fail
    go_loopw [8, 9] (fun v i wr => ∃ m : Nat, m ≤ (pathL l k).length ∧ i = .int .i64 m ∧ v = .int .i64 (availP l (bkAt l k).tok ((pathL l k).take m)) ∧ Below w3.heap.size w3 wr) (fun _ i _ => (pathL l k).length - (intOf i).toNat)
    case atStart => exact ⟨0, by omega, rfl, rfl, Below.refl _ _⟩
    case round =>
      obtain ⟨m, hm, rfl, rfl, hbr⟩ := hrel
      have f1 : wr.cell? ⟨w.heap.size, 1, none⟩ = some (.slice (some ⟨b, off, none⟩) l.length c) := (hbr.cell (p := ⟨w.heap.size, 1, none⟩) hK3L).trans e1
      have hbw := hb3'.trans (hbr.mono hb3'.size)
      by_cases hlt : m < (pathL l k).length
      · obtain ⟨b3, rfl, hb3g, hb3l, hb3c⟩ := HA3.out (by omega)
        have g1 := (hbr.cell (p := ⟨b3, m, none⟩) hb3l).trans (hb3c m hlt)
        have hx := path_bk hu k (by omega) m hlt
        have g2 := (hbw.cell (p := ⟨b, off + (pathL l k)[m] * 4 + 3, none⟩) hlb).trans (HC.out _ hx)
        have HT := Lib.hid (availP_take l (bkAt l k).tok (pathL l k) m hlt)
        clear hb3c
        generalize (pathL l k)[m] = x at *
        have hml : m < 64 := by have := HL.out; omega
        generalize availP l (bkAt l k).tok ((pathL l k).take m) = q at *
        go_wp2_with fail
        go_quiet (fail)
        go_wp2
        go_roundw
        case rel => exact ⟨m + 1, by omega, by go_num, by rw [HT.out]; rfl, below_drewN hbr _⟩
        case measure => simp [intOf]; omega
      · have hmm : m = (pathL l k).length := by omega
        have hv : availP l (bkAt l k).tok ((pathL l k).take m) = availL l k := by rw [hmm, List.take_length]; rfl
        rw [hv]
        go_wp2_with fail
        go_ret2
        exact ⟨by rw [HE.out.1, HE.out.2]; rfl, hbw⟩
  · have HE : Hid (avV t l k = 0) := by rw [Hid, HV.out, if_neg c0]
    have hne : (findV t l k != 0) = true := by rw [bne_iff_ne]; exact c0
    obtain ⟨er, her⟩ : ∃ er, findV t l k = er := ⟨_, rfl⟩
    have HER := Lib.hid her
    rw [her] at hne ⊢
    clear HV her c0
    go_wp2_with fail
    go_ret2
    exact ⟨by rw [HE.out, HER.out]; rfl, hbb⟩
end Go.Proofs.Ytehfnanhamaenaa
