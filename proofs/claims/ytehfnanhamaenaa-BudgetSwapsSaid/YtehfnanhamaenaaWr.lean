/- The walk of the reference's Take, the arm without error. Conditions: at most 1000 buckets. -/
import Derived.Test.YtehfnanhamaenaaWq
namespace Go.Proofs.Ytehfnanhamaenaa
open Go.RowKit Go.Shelf
theorem take_len_p {p : List Nat} {m : Nat} (h : m ≤ p.length) : (p.take m).length = m := by simp; omega
theorem takeP_set (n : Int) (l : List Bk) (p : List Nat) (m : Nat) (hm : m < p.length) (hx : p[m] < l.length) :
    (encBs (takeP n l (p.take m))).set (p[m] * 4 + 3) (.int .i64 ((bkAt (takeP n l (p.take m)) p[m]).tok - n)) = encBs (takeP n l (p.take (m + 1))) := by
  rw [← List.take_append_getElem hm, takeP_snoc]
  exact encBs_set _ _ (by rw [takeP_len]; exact hx) (takeB n (bkAt (takeP n l (p.take m)) p[m])) 3 _ (by omega) (by rw [← bkAt_lt _ _ (by rw [takeP_len]; exact hx)]; rfl)
theorem encBs_tok (l : List Bk) (i : Nat) (h : i < l.length) : (encBs l)[i * 4 + 3]? = some (.int .i64 (bkAt l i).tok) := by
  rw [encBs_at l i 3 h (by omega), bkAt_lt l i h]
  rfl
set_option maxHeartbeats 400000 in
theorem refTake_ok (t n : Int) (k : Nat) (A : Option Addr) (c : Nat) (l : List Bk) (w : World) (hR : RdB w A l.length l) (hn : l.length ≤ 1000) (hf : findV t l k = 0) (n0 : 0 ≤ n) (n1 : n ≤ availL l k) :
    Calls Try.prog 22 #[budV t A l.length c, .int .i64 k, .int .i64 n] w fun e w' => BudR t (takeP n l (pathL l k)) 0 e w' ∧ Below w.heap.size w w' := by
  obtain ⟨hz, _, hk⟩ := findV_zero hf
  have hk : k < l.length := by omega
  have hu := up_of hz
  have nl := (checkL_zero hz).1
  have n2 := Int.le_trans n1 (availL_le hz k)
  have HBD := Lib.hid (fun (m : Nat) (hm : m ≤ (pathL l k).length) => takeP_bd n n0 n2 ((pathL l k).take m) l 0 (tok_bd hz))
  have hb : Below w.heap.size w ((w.alloc (.cells #[.int .i64 t, .slice A l.length c] 24)).alloc (.cells #[.int .i64 0, .slice none 0 0] 24)) := ((Below.refl _ w).alloc (Nat.le_refl _) _).alloc (by simp) _
  have h1 := (Blk.new w 24 #[.int .i64 t, .slice A l.length c]).alloc (.cells #[.int .i64 0, .slice none 0 0] 24)
  have h2 := Blk.new (w.alloc (.cells #[.int .i64 t, .slice A l.length c] 24)) 24 #[.int .i64 0, .slice none 0 0]
  rw [World.size_alloc] at h2
  have H := Lib.hid (And.intro h1 h2)
  have HE : Hid (avV t l k = availL l k ∧ findV t l k = 0) := ⟨by rw [avV, if_pos hf]; rfl, hf⟩
  clear h1 h2 hf hz
  go_enter Try.func22, Try.ntmps22
  go_wp2_with fail
  generalize ((w.alloc (.cells #[.int .i64 t, .slice A l.length c] 24)).alloc (.cells #[.int .i64 0, .slice none 0 0] 24)) = W0 at *
  refine (refAvailable_any _ _ _ _ _ l _ (hR.up hb) hn).mono ?_
  rintro e w2 ⟨rfl, hb2⟩
  rw [HE.out.1, HE.out.2]
  have hk1 := H.out.1.below hb2 H.out.1.lt
  have hk2 := H.out.2.below hb2 H.out.2.lt
  have hbw2 := hb.trans (hb2.mono hb.size)
  have a0 : w2.cell? ⟨w.heap.size, 0, none⟩ = some (.int .i64 t) := hk1.cell 0
  have a1 : w2.cell? ⟨w.heap.size, 1, none⟩ = some (.slice A l.length c) := hk1.cell 1
  have HK := Lib.hid (And.intro hk1 hk2)
  clear hk1 hk2
  generalize availL l k = mx at *
  have n3 : ¬ n < 0 := by omega
  have n4 : ¬ mx < n := by omega
  go_wp2_with fail
  refine (copied_any t A _ c l _ (hR.up hbw2) hn).mono ?_
  rintro e w3 ⟨⟨v, rfl, hown⟩, hb3⟩
  obtain ⟨A1, c1', rfl, hc1, hm1, hr1⟩ := own_RdB hown
  have hk1 := HK.out.1.below hb3 HK.out.1.lt
  have hk2 := HK.out.2.below hb3 HK.out.2.lt
  have hl1 := HK.out.1.lt
  have hl2 := HK.out.2.lt
  have hge := own_block_ge hown
  have hlt := own_lt hown
  have hbw3 := hbw2.trans (hb3.mono hbw2.size)
  have hl3 := hb3.size
  have hk3 := Blk.new w3 24 #[.int .i64 t, .slice A1 l.length c1']
  have b0 : (w3.alloc (.cells #[.int .i64 t, .slice A1 l.length c1'] 24)).cell? ⟨w.heap.size, 0, none⟩ = some (.int .i64 t) := (hk1.alloc _).cell 0
  have b1 : (w3.alloc (.cells #[.int .i64 t, .slice A1 l.length c1'] 24)).cell? ⟨w.heap.size, 1, none⟩ = some (.slice A l.length c) := (hk1.alloc _).cell 1
  have b0' : w3.cell? ⟨w.heap.size, 0, none⟩ = some (.int .i64 t) := hk1.cell 0
  have b1' : w3.cell? ⟨w.heap.size, 1, none⟩ = some (.slice A l.length c) := hk1.cell 1
  have H3 := Lib.hid (And.intro (hk2.alloc (.cells #[.int .i64 t, .slice A1 l.length c1'] 24)) (And.intro (own_alloc hown (.cells #[.int .i64 t, .slice A1 l.length c1'] 24)) (And.intro hk3 (And.intro hge hlt))))
  have hbw4 := hbw3.alloc hbw3.size (.cells #[.int .i64 t, .slice A1 l.length c1'] 24)
  have hsz4 : (w3.alloc (.cells #[.int .i64 t, .slice A1 l.length c1'] 24)).heap.size = w3.heap.size + 1 := by simp
  clear hk1 hk2 hown hge hlt hk3
  go_wp2_with fail
  generalize (w3.alloc (.cells #[.int .i64 t, .slice A1 l.length c1'] 24)) = W4 at *
  refine (refPath_any t k A c l W4 (hR.up hbw4) hn hu hk).mono ?_
  rintro e w5 ⟨⟨v, rfl, hop⟩, hb5⟩
  obtain ⟨A5, c5, rfl, hA5⟩ := own_ints hop
  have k2 := H3.out.1.below hb5 H3.out.1.lt
  have k3 := H3.out.2.2.1.below hb5 H3.out.2.2.1.lt
  have ko := own_below H3.out.2.1 hb5
  have hbw5 := hbw4.trans (hb5.mono hbw4.size)
  have H5 := Lib.hid (And.intro k2 (And.intro k3 (And.intro ko hA5)))
  have hsz5 := hb5.size
  have HL : Hid ((pathL l k).length ≤ l.length) := pathL_le hu k (by omega)
  have HU := Lib.hid hu
  clear k2 k3 ko hA5 hu
  go_wp2_with fail
  go_loopw [12] (fun i wr => ∃ m : Nat, m ≤ (pathL l k).length ∧ i = .int .i64 m ∧ wr.ownsRow w2.heap.size 64 4 (.slice A1 l.length c1') l.length (encBs (takeP n l ((pathL l k).take m))) ∧ Blk wr (w.heap.size + 1) 24 #[.int .i64 0, .slice none 0 0] ∧ Blk wr w3.heap.size 24 #[.int .i64 t, .slice A1 l.length c1'] ∧ (0 < (pathL l k).length → ∃ b, A5 = some ⟨b, 0, none⟩ ∧ W4.heap.size ≤ b ∧ b < wr.heap.size ∧ ∀ j (hj : j < (pathL l k).length), wr.cell? ⟨b, j, none⟩ = some (.int .i64 ((pathL l k)[j] : Int))) ∧ Below w.heap.size w wr) (fun i _ => (pathL l k).length - (intOf i).toNat)
  case atStart => exact ⟨0, by omega, rfl, H5.out.2.2.1, H5.out.1, H5.out.2.1, H5.out.2.2.2, hbw5⟩
  case round =>
    obtain ⟨m, hm, rfl, ho, hK2, hK3, hpa, hbr⟩ := hrel
    by_cases hlt : m < (pathL l k).length
    · obtain ⟨b5, rfl, hb5g, hb5l, hb5c⟩ := hpa (by omega)
      have hx := path_bk HU.out k hk m hlt
      obtain ⟨g, cap, cur, hv1, hbg, hB1, hnc, hcm, hcs, hct⟩ := own_blk ho (by omega)
      obtain ⟨rfl, rfl⟩ : A1 = some ⟨g, 0, none⟩ ∧ c1' = cap := by
        injection hv1 with h1 _ h2
        exact ⟨h1, h2⟩
      have hg1 := H3.out.2.2.2.1 g rfl
      have hg2 := H3.out.2.2.2.2 g rfl
      have g1 := hb5c m hlt
      obtain ⟨kc3, kf3⟩ := own_cell ho ((pathL l k)[m] * 4 + 3) _ (encBs_tok _ _ (by rw [takeP_len]; exact hx))
      have HS := Lib.hid (takeP_set n l (pathL l k) m hlt hx)
      have hbd := HBD.out m hm (pathL l k)[m]
      rw [take_len_p hm] at hbd
      have kb1 : wr.cell? ⟨w3.heap.size, 1, none⟩ = some (.slice (some ⟨g, 0, none⟩) l.length c1') := hK3.cell 1
      have HO := Lib.hid (And.intro ho (And.intro hK2 (And.intro hK3 hb5c)))
      have hgr := hB1.lt
      have hl2r := hK2.lt
      have hl3r := hK3.lt
      have hml : m < 64 := by have := HL.out; omega
      clear ho hK2 hK3 hb5c hv1 hB1 hcs hct hpa hop
      generalize (pathL l k)[m] = x at *
      generalize (bkAt (takeP n l ((pathL l k).take m)) x).tok = q at *
      obtain ⟨q0, q1⟩ := hbd
      have q0' : -68719476736 ≤ q := by omega
      go_wp2_with fail
      go_still_tail 13, (by kernel_rfl)
      change wpList _ _ _ _ _ wr.drew
      have kc4 : wr.drew.cell? ⟨g, x * 4 + 3, none⟩ = some (.int .i64 q) := kc3
      have kf4 : wr.drew.frozen? ⟨g, x * 4 + 3, none⟩ = false := kf3
      go_wp2
      go_roundw
      case rel =>
        have hw4 : w3.heap.size < W4.heap.size := H3.out.2.2.1.lt
        have ho2 := own_set (own_drew HO.out.1) (x * 4 + 3) (.int .i64 (q - n))
        rw [HS.out] at ho2
        refine ⟨m + 1, by omega, by go_num, ho2, Blk.far (w := wr.drew) HO.out.2.1 (p := ⟨g, x * 4 + 3, none⟩) (by dsimp only; omega) _, Blk.far (w := wr.drew) HO.out.2.2.1 (p := ⟨g, x * 4 + 3, none⟩) (by dsimp only; omega) _, fun _ => ⟨b5, rfl, hb5g, by simpa using hb5l, fun j hj => ?_⟩, hbr.drew.setCell (p := ⟨g, x * 4 + 3, none⟩) (by dsimp only; omega) _⟩
        refine (World.cell?_setCell_other _ _ _ _ (fun e => ?_)).trans (HO.out.2.2.2 j hj)
        injection e with e1
        omega
      case measure => simp [intOf]; omega
    · have hmm : m = (pathL l k).length := by omega
      rw [hmm, List.take_length] at ho
      have kb1 : wr.cell? ⟨w3.heap.size, 0, none⟩ = some (.int .i64 t) := hK3.cell 0
      have kb2 : wr.cell? ⟨w3.heap.size, 1, none⟩ = some (.slice A1 l.length c1') := hK3.cell 1
      have c0 : wr.cell? ⟨w.heap.size + 1, 0, none⟩ = some (.int .i64 0) := hK2.cell 0
      have c1 : wr.cell? ⟨w.heap.size + 1, 1, none⟩ = some (.slice none 0 0) := hK2.cell 1
      have f0 : wr.frozen? ⟨w.heap.size + 1, 0, none⟩ = false := hK2.frozen 0
      have f1 : wr.frozen? ⟨w.heap.size + 1, 1, none⟩ = false := hK2.frozen 1
      have HO := Lib.hid (And.intro ho hK2)
      clear hK2 hK3 ho hpa hop
      go_wp2_with fail
      have hK3 := (HO.out.2.set_ 0 (.int .i64 t)).set_ 1 (.slice A1 l.length c1')
      refine bodyPost_ret (results_cell_tmp rfl _ _ _ _ _ _ rfl hK3 Try.underlying24 rfl info24) rfl ?_
      have hge := own_block_ge HO.out.1
      have ho2 := own_far (own_far HO.out.1 (p := ⟨w.heap.size + 1, 0, none⟩) (fun e => by have h9 := hge _ e; dsimp only at h9; omega) (.int .i64 t)) (p := ⟨w.heap.size + 1, 1, none⟩) (fun e => by have h9 := hge _ e; dsimp only at h9; omega) (.slice A1 l.length c1')
      have hr2 := own_RdB' ho2
      refine ⟨⟨A1, c1', ?_, ?_, ?_, hm1⟩, (hbr.setCell (p := ⟨w.heap.size + 1, 0, none⟩) (by simp) _).setCell (p := ⟨w.heap.size + 1, 1, none⟩) (by simp) _⟩
      · rw [takeP_len]; rfl
      · rw [takeP_len]; exact hr2
      · rw [takeP_len]; exact hc1
end Go.Proofs.Ytehfnanhamaenaa
