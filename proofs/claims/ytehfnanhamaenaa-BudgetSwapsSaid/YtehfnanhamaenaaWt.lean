/- The walk of the reference's When. Conditions: at most 1000 buckets. -/
import Derived.Test.YtehfnanhamaenaaMathE
namespace Go.Proofs.Ytehfnanhamaenaa
open Go.RowKit Go.Shelf
set_option maxHeartbeats 1000000 in
theorem refWhen_any (t k n : Int) (A : Option Addr) (m c : Nat) (l : List Bk) (w : World) (hR : RdB w A m l) (hn : m ≤ 1000) :
    Calls Try.prog 24 #[budV t A m c, .int .i64 k, .int .i64 n] w fun e w' => e = .returned (.tuple #[.int .i64 (whenV t l k n).1, .int .i64 (whenV t l k n).2]) ∧ Below w.heap.size w w' := by
  have hlen := hR.len
  subst hlen
  have hB0 : Below w.heap.size w (w.alloc (.cells #[.int .i64 t, .slice A l.length c] 24)) := (Below.refl _ w).alloc (Nat.le_refl _) _
  have hK := Blk.new w 24 #[.int .i64 t, .slice A l.length c]
  go_enter Try.func24, Try.ntmps24
  go_wp2_with fail
  generalize w.alloc (.cells #[.int .i64 t, .slice A l.length c] 24) = W0 at *
  refine (exists_any _ _ _ _ _ l _ (hR.up hB0) (by omega)).mono ?_
  rintro e w2 ⟨rfl, hb2⟩
  have hbb := hB0.trans (hb2.mono hB0.size)
  have hK2 := hK.below hb2 hK.lt
  have a0 : w2.cell? ⟨w.heap.size, 0, none⟩ = some (.int .i64 t) := hK2.cell 0
  have a1 : w2.cell? ⟨w.heap.size, 1, none⟩ = some (.slice A l.length c) := hK2.cell 1
  by_cases c0 : findV t l k = 0
  · by_cases n0 : n < 0
    · have HE : Hid (whenV t l k n = (0, 1)) := by rw [Hid, whenV, if_neg (by rw [c0]; simp), if_pos n0]
      rw [c0]
      clear c0
      go_wp2_with fail
      go_ret2
      exact ⟨by rw [HE.out]; rfl, hbb⟩
    · obtain ⟨hz, k0, k1⟩ := findV_zero c0
      have hu := up_of hz
      have nl := (checkL_zero hz).1
      have ht := (checkL_zero hz).2
      have C0 := Lib.hid c0
      have HTB := Lib.hid (fun j => And.intro (tok_bd hz j) (rate_bd hz j))
      rw [c0]
      clear c0
      obtain ⟨k, rfl⟩ : ∃ i : Nat, k = i := ⟨k.toNat, by omega⟩
      have hpa := refPath_any t k A c l w2 (hR.up hbb) hn hu (by omega)
      have HA := Lib.hid hpa
      have HK := Lib.hid hK2
      have n0' : ¬ n < 0 := n0
      clear hpa hK2
      go_wp2_with fail
      refine HA.out.mono ?_
      rintro e w3 ⟨⟨v, rfl, ho⟩, hb3⟩
      obtain ⟨A3, c3, rfl, hA3⟩ := own_ints ho
      have hK3 := HK.out.below hb3 HK.out.lt
      have e0 : w3.cell? ⟨w.heap.size, 0, none⟩ = some (.int .i64 t) := hK3.cell 0
      have e1 : w3.cell? ⟨w.heap.size, 1, none⟩ = some (.slice A l.length c) := hK3.cell 1
      have hb3' := hbb.trans (hb3.mono hbb.size)
      obtain ⟨b, off, rfl, hlb, hcs⟩ := hR.cells (by omega)
      have hcb : ∀ i, i < l.length → w.cell? ⟨b, off + i * 4, none⟩ = some (.int .i64 (bkAt l i).par) ∧ w.cell? ⟨b, off + i * 4 + 1, none⟩ = some (.int .i64 (bkAt l i).rate) ∧ w.cell? ⟨b, off + i * 4 + 2, none⟩ = some (.int .i64 (bkAt l i).burst) ∧ w.cell? ⟨b, off + i * 4 + 3, none⟩ = some (.int .i64 (bkAt l i).tok) := fun i hi => by rw [bkAt_lt l i hi]; exact hcs i hi
      have HC := Lib.hid hcb
      have HA3 := Lib.hid hA3
      have HL : Hid ((pathL l k).length ≤ l.length) := pathL_le hu k (by omega)
      have HU := Lib.hid hu
      clear hcs hcb hA3 hu
      have hK3L := hK3.lt
      go_wp2_with fail
      go_loopw [10, 11] (fun v i wr => ∃ (m : Nat) (q : Int), m ≤ (pathL l k).length ∧ i = .int .i64 m ∧ v = .int .i64 q ∧ 0 ≤ q ∧ q ≤ 2147483648 ∧ waitP n l ((pathL l k).drop m) q = waitP n l (pathL l k) 0 ∧ Below w3.heap.size w3 wr) (fun _ i _ => (pathL l k).length - (intOf i).toNat)
      case atStart => exact ⟨0, 0, by omega, rfl, rfl, by omega, by omega, rfl, Below.refl _ _⟩
      case round =>
        obtain ⟨m, q, hm, rfl, rfl, q0, q1, hq, hbr⟩ := hrel
        have f0 : wr.cell? ⟨w.heap.size, 0, none⟩ = some (.int .i64 t) := (hbr.cell (p := ⟨w.heap.size, 0, none⟩) hK3L).trans e0
        have f1 : wr.cell? ⟨w.heap.size, 1, none⟩ = some (.slice (some ⟨b, off, none⟩) l.length c) := (hbr.cell (p := ⟨w.heap.size, 1, none⟩) hK3L).trans e1
        have hbw := hb3'.trans (hbr.mono hb3'.size)
        have HQ := Lib.hid hq
        clear hq
        by_cases hlt : m < (pathL l k).length
        · obtain ⟨b3, rfl, hb3g, hb3l, hb3c⟩ := HA3.out (by omega)
          have g1 := (hbr.cell (p := ⟨b3, m, none⟩) hb3l).trans (hb3c m hlt)
          have hx := path_bk HU.out k (by omega) m hlt
          obtain ⟨c0, c1, c2, c3'⟩ := HC.out _ hx
          have d0 := (hbw.cell (p := ⟨b, off + (pathL l k)[m] * 4, none⟩) hlb).trans c0
          have d1 := (hbw.cell (p := ⟨b, off + (pathL l k)[m] * 4 + 1, none⟩) hlb).trans c1
          have d2 := (hbw.cell (p := ⟨b, off + (pathL l k)[m] * 4 + 2, none⟩) hlb).trans c2
          have d3 := (hbw.cell (p := ⟨b, off + (pathL l k)[m] * 4 + 3, none⟩) hlb).trans c3'
          have HW := Lib.hid (waitP_drop n l (pathL l k) q m hlt)
          obtain ⟨⟨t0, t1⟩, r0, r1, u0, u1⟩ := HTB.out (pathL l k)[m]
          have hml : m < 64 := by have := HL.out; omega
          clear hb3c c0 c1 c2 c3'
          generalize (pathL l k)[m] = x at *
          generalize bkAt l x = bk at *
          obtain ⟨p, r, u, tk⟩ := bk
          dsimp only at HW t0 t1 r0 r1 u0 u1 d0 d1 d2 d3
          have hbz : Below wr.heap.size wr (wr.alloc (.cells #[.int .i64 0, .int .i64 0, .int .i64 0, .int .i64 0] 64)) := (Below.refl _ _).alloc (Nat.le_refl _) _
          have hlw := hbw.size
          have g1' := (hbz.cell (p := ⟨b3, m, none⟩) (Nat.lt_of_lt_of_le hb3l hbr.size)).trans g1
          have f1' := (hbz.cell (p := ⟨w.heap.size, 1, none⟩) (Nat.lt_of_lt_of_le hK3L hbr.size)).trans f1
          have hlb' : b < wr.heap.size := by omega
          have d0' := (hbz.cell (p := ⟨b, off + x * 4, none⟩) hlb').trans d0
          have d1' := (hbz.cell (p := ⟨b, off + x * 4 + 1, none⟩) hlb').trans d1
          have d2' := (hbz.cell (p := ⟨b, off + x * 4 + 2, none⟩) hlb').trans d2
          have d3' := (hbz.cell (p := ⟨b, off + x * 4 + 3, none⟩) hlb').trans d3
          clear hbz
          go_wp2_with fail
          go_region
          have hbZ := (hbr.alloc hbr.size (.cells #[.int .i64 p, .int .i64 r, .int .i64 u, .int .i64 tk] 64)).drew
          clear d0 d1 d2 d3 d0' d1' d2' d3' g1 g1' f1' hbw
          by_cases c1 : n ≤ tk
          · rw [if_pos c1] at HW
            go_wp2_with fail
            go_roundw
            case rel => exact ⟨m + 1, q, by omega, by go_num, rfl, q0, q1, by rw [← HQ.out, HW.out], hbZ⟩
            case measure => simp [intOf]; omega
          · rw [if_neg c1] at HW
            by_cases c2 : u < n
            · rw [if_pos (.inl c2)] at HW
              have HE := Lib.hid (whenV_none (t := t) C0.out (by omega) (HQ.out.symm.trans HW.out))
              go_wp2_with fail
              go_ret2
              exact ⟨by rw [HE.out]; rfl, hb3'.trans (hbZ.mono hb3'.size)⟩
            · by_cases c3 : r = 0
              · subst c3
                rw [if_pos (.inr rfl)] at HW
                have HE := Lib.hid (whenV_none (t := t) C0.out (by omega) (HQ.out.symm.trans HW.out))
                go_wp2_with fail
                go_ret2
                exact ⟨by rw [HE.out]; rfl, hb3'.trans (hbZ.mono hb3'.size)⟩
              · rw [if_neg (by omega)] at HW
                have hqb := quo_bd (a := n - tk + r - 1) (r := r) (by omega) (by omega) (by omega)
                have hdv : (n - tk + r - 1).tdiv r = (n - tk + r - 1) / r := Int.tdiv_eq_ediv_of_nonneg (by omega)
                go_wp2_with fail
                refine ⟨⟨m + 1, maxI q ((n - tk + r - 1) / r), by omega, by go_num, rfl, ?_, ?_, by rw [← HQ.out, HW.out], hbZ⟩, ?_⟩
                · unfold maxI; split <;> omega
                · unfold maxI; split <;> omega
                · simp [intOf]; omega
        · have hmm : m = (pathL l k).length := by omega
          have hw : waitP n l (pathL l k) 0 = some q := by rw [← HQ.out, hmm, List.drop_length]; rfl
          have HE := Lib.hid (whenV_some C0.out (by omega) hw)
          clear hw
          by_cases hs : 1073741824 - t < q
          · have hs' : 1073741824 < t + q := by omega
            go_wp2_with fail
            go_ret2
            exact ⟨by rw [HE.out, if_pos hs]; rfl, hbw⟩
          · have hs' : ¬ 1073741824 < t + q := by omega
            go_wp2_with fail
            go_ret2
            exact ⟨by rw [HE.out, if_neg (by omega)]; rfl, hbw⟩
  · have HE : Hid (whenV t l k n = (0, findV t l k)) := by rw [Hid, whenV, if_pos c0]
    have hne : (findV t l k != 0) = true := by rw [bne_iff_ne]; exact c0
    obtain ⟨er, her⟩ : ∃ er, findV t l k = er := ⟨_, rfl⟩
    have HER := Lib.hid her
    rw [her] at hne ⊢
    clear her c0
    go_wp2_with fail
    go_ret2
    exact ⟨by rw [HE.out, HER.out]; rfl, hbb⟩
end Go.Proofs.Ytehfnanhamaenaa
