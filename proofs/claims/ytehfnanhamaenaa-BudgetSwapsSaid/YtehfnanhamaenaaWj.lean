/- The walk of the reference's Advance. Conditions: at most 1000 buckets. -/
import Derived.Test.YtehfnanhamaenaaWi
namespace Go.Proofs.Ytehfnanhamaenaa
open Go.RowKit
set_option maxHeartbeats 400000 in
theorem refAdvance_ok (t now : Int) (A : Option Addr) (c : Nat) (l : List Bk) (w : World) (hR : RdB w A l.length l) (hc0 : checkL t l = 0) (h1 : t ≤ now) (h2 : now ≤ 1073741824) :
    Calls Try.prog 18 #[budV t A l.length c, .int .i64 now] w fun e w' => BudR now (l.map (adv (now - t))) 0 e w' ∧ Below w.heap.size w w' := by
  have hz := checkL_zero hc0
  have hb : Below w.heap.size w ((w.alloc (.cells #[.int .i64 t, .slice A l.length c] 24)).alloc (.cells #[.int .i64 0, .slice none 0 0] 24)) := ((Below.refl _ w).alloc (Nat.le_refl _) _).alloc (by simp) _
  have hq1 := (Blk.new w 24 #[.int .i64 t, .slice A l.length c]).alloc (.cells #[.int .i64 0, .slice none 0 0] 24)
  have hq2 := Blk.new (w.alloc (.cells #[.int .i64 t, .slice A l.length c] 24)) 24 #[.int .i64 0, .slice none 0 0]
  rw [World.size_alloc] at hq2
  have H := Lib.hid (And.intro hq1 hq2)
  have HC := Lib.hid hc0
  have HZ := Lib.hid hz
  have t0 := hz.2.1
  have t1 := hz.2.2.1
  have nl := hz.1
  clear hq1 hq2 hz hc0
  have c1 : ¬ now < t := by omega
  have c2 : ¬ 1073741824 < now := by omega
  go_enter Try.func18, Try.ntmps18
  go_wp2_with fail
  generalize ((w.alloc (.cells #[.int .i64 t, .slice A l.length c] 24)).alloc (.cells #[.int .i64 0, .slice none 0 0] 24)) = W0 at *
  refine (refCheck_any _ _ _ _ l _ (hR.up hb) (by omega)).mono ?_
  rintro e w2 ⟨rfl, hb2⟩
  rw [HC.out]
  have hk1 := H.out.1.below hb2 H.out.1.lt
  have hk2 := H.out.2.below hb2 H.out.2.lt
  have hbw2 := hb.trans (hb2.mono hb.size)
  have a0 : w2.cell? ⟨w.heap.size, 0, none⟩ = some (.int .i64 t) := hk1.cell 0
  have a1 : w2.cell? ⟨w.heap.size, 1, none⟩ = some (.slice A l.length c) := hk1.cell 1
  have HK := Lib.hid (And.intro hk1 hk2)
  clear hk1 hk2
  go_wp2_with fail
  refine (copied_any t A _ c l _ (hR.up hbw2) (by omega)).mono ?_
  rintro e w3 ⟨⟨v, rfl, hown⟩, hb3⟩
  obtain ⟨A1, c1', rfl, hc1, hm1, hr1⟩ := own_RdB hown
  have hk1 := HK.out.1.below hb3 HK.out.1.lt
  have hk2 := HK.out.2.below hb3 HK.out.2.lt
  have hl1 := HK.out.1.lt
  have hl2 := HK.out.2.lt
  have hge := own_block_ge hown
  have hlt := own_lt hown
  have hbw3 := hbw2.trans (hb3.mono hbw2.size)
  have hl3 := hb3.size
  have H3 := Lib.hid (And.intro hk1 (And.intro hk2 (And.intro hown (And.intro hge hlt))))
  clear hk1 hk2 hown hge hlt
  go_wp2_with fail
  go_loopw [8] (fun i wr => ∃ k : Nat, k ≤ l.length ∧ i = .int .i64 k ∧ wr.ownsRow w2.heap.size 64 4 (.slice A1 l.length c1') l.length (encBs (mixL (adv (now - t)) l k)) ∧ Blk wr w.heap.size 24 #[.int .i64 t, .slice A l.length c] ∧ Blk wr (w.heap.size + 1) 24 #[.int .i64 0, .slice none 0 0] ∧ Blk wr w3.heap.size 24 #[.int .i64 t, .slice A1 l.length c1'] ∧ Below w.heap.size w wr) (fun i _ => l.length - (intOf i).toNat)
  case atStart => exact ⟨0, by omega, rfl, by rw [mixL_zero]; exact own_alloc H3.out.2.2.1 _, H3.out.1.alloc _, H3.out.2.1.alloc _, Blk.new _ _ _, hbw3.alloc hbw3.size _⟩
  case round =>
    obtain ⟨k, hk, rfl, ho, hK1, hK2, hK3, hbr⟩ := hrel
    by_cases hlt : k < l.length
    · obtain ⟨g, cap, cur, hv1, hbg, hB1, hnc, hcm, hcs, hct⟩ := own_blk ho (by omega)
      obtain ⟨rfl, rfl⟩ : A1 = some ⟨g, 0, none⟩ ∧ c1' = cap := by
        injection hv1 with h1 _ h2
        exact ⟨h1, h2⟩
      have hg1 := H3.out.2.2.2.1 g rfl
      have hg2 := H3.out.2.2.2.2 g rfl
      have hm := mixL_len (adv (now - t)) l k
      have hget := mixL_get (adv (now - t)) l k hlt
      have hset := mixL_set (adv (now - t)) l k hlt
      have hen : ∀ j, j < 4 → (encBs (mixL (adv (now - t)) l k))[k * 4 + j]? = (encB l[k])[j]? := fun j hj => by rw [encBs_at _ _ _ (by rw [hm]; exact hlt) hj, hget]
      have hstore : ∀ u : Int, (encBs (mixL (adv (now - t)) l k)).set (k * 4 + 3) (.int .i64 u) = encBs ((mixL (adv (now - t)) l k).set k { l[k] with tok := u }) := fun u => encBs_set _ _ (by rw [hm]; exact hlt) _ 3 _ (by omega) (by rw [hget]; rfl)
      have kb0 : wr.cell? ⟨w.heap.size, 0, none⟩ = some (.int .i64 t) := hK1.cell 0
      have kb1 : wr.cell? ⟨w3.heap.size, 1, none⟩ = some (.slice (some ⟨g, 0, none⟩) l.length c1') := hK3.cell 1
      obtain ⟨kc1, _⟩ := own_cell ho (k * 4 + 1) _ (hen 1 (by omega))
      obtain ⟨kc2, _⟩ := own_cell ho (k * 4 + 2) _ (hen 2 (by omega))
      obtain ⟨kc3, kf3⟩ := own_cell ho (k * 4 + 3) _ (hen 3 (by omega))
      obtain ⟨_, _, z3, z4, z5, z6, z7, z8⟩ := chk_all HC.out k hlt
      obtain ⟨ga, oa, rfl, hga, hca⟩ := (hR.up hbr).cells (by omega)
      obtain ⟨d0, d1, d2, d3⟩ := hca k hlt
      have kb3 : wr.cell? ⟨w.heap.size, 1, none⟩ = some (.slice (some ⟨ga, oa, none⟩) l.length c) := hK1.cell 1
      clear hca
      have HS := Lib.hid (And.intro hset hstore)
      have HO := Lib.hid (And.intro ho (And.intro hK1 (And.intro hK2 hK3)))
      have HF : Hid (adv (now - t) l[k] = { l[k] with tok := giveV l[k].burst l[k].tok (l[k].rate * (now - t)) }) := rfl
      have hl1r := hK1.lt
      have hl2r := hK2.lt
      have hl3r := hK3.lt
      have hgr := hB1.lt
      clear hset hstore hget hen hv1 hB1 hcs hct hm ho hK1 hK2 hK3
      obtain ⟨⟨p, r, u, q⟩, hbk⟩ : ∃ bk, bk = l[k] := ⟨_, rfl⟩
      rw [← hbk] at HS HF kc1 kc2 kc3 d0 d1 d2 d3 z3 z4 z5 z6 z7 z8
      dsimp only at kc1 kc2 kc3 d0 d1 d2 d3 z3 z4 z5 z6 z7 z8
      clear hbk
      have hmb := mul_bd z3 z4 (by omega : 0 ≤ now - t) (by omega)
      obtain ⟨m0, m1⟩ := hmb
      have hwr : IntKind.i64.wrap (r * (now - t)) = r * (now - t) := IntWalk.i64_in _ (by omega)
      have i1 : (k : Int) < l.length := by omega
      go_wp2_with fail
      have hgv : (if q + r * (now - t) < u then q + r * (now - t) else u) = giveV u q (r * (now - t)) := by unfold giveV; split <;> split <;> omega
      rw [hgv]
      have ho2 := own_alloc (own_set HO.out.1 (k * 4 + 3) (.int .i64 (giveV u q (r * (now - t))))) (.cells #[.int .i64 p, .int .i64 r, .int .i64 u, .int .i64 q] 64)
      rw [HS.out.2, ← HF.out, HS.out.1] at ho2
      refine ⟨⟨k + 1, by omega, by go_num, ho2, (Blk.far HO.out.2.1 (p := ⟨g, k * 4 + 3, none⟩) (by dsimp only; omega) _).alloc _, (Blk.far HO.out.2.2.1 (p := ⟨g, k * 4 + 3, none⟩) (by dsimp only; omega) _).alloc _, (Blk.far HO.out.2.2.2 (p := ⟨g, k * 4 + 3, none⟩) (by dsimp only; omega) _).alloc _, ?_⟩, ?_⟩
      · exact (hbr.setCell (p := ⟨g, k * 4 + 3, none⟩) (by dsimp only; omega) _).alloc (by simpa using hbr.size) _
      · simp [intOf]; omega
    · have hkl : k = l.length := by omega
      subst hkl
      rw [mixL_full] at ho
      have kb1 : wr.cell? ⟨w3.heap.size, 0, none⟩ = some (.int .i64 t) := hK3.cell 0
      have kf1 : wr.frozen? ⟨w3.heap.size, 0, none⟩ = false := hK3.frozen 0
      have kb3 : wr.cell? ⟨w.heap.size, 1, none⟩ = some (.slice A l.length c) := hK1.cell 1
      have kb2 : wr.cell? ⟨w3.heap.size, 1, none⟩ = some (.slice A1 l.length c1') := hK3.cell 1
      have b0 : wr.cell? ⟨w.heap.size + 1, 0, none⟩ = some (.int .i64 0) := hK2.cell 0
      have b1 : wr.cell? ⟨w.heap.size + 1, 1, none⟩ = some (.slice none 0 0) := hK2.cell 1
      have f0 : wr.frozen? ⟨w.heap.size + 1, 0, none⟩ = false := hK2.frozen 0
      have f1 : wr.frozen? ⟨w.heap.size + 1, 1, none⟩ = false := hK2.frozen 1
      have HO := Lib.hid (And.intro ho (And.intro hK1 (And.intro hK2 hK3)))
      clear hK1 hK2 hK3 ho
      go_wp2_with fail
      have hK3 := ((HO.out.2.2.1.far (p := ⟨w3.heap.size, 0, none⟩) (by dsimp only; omega) (.int .i64 now)).set_ 0 (.int .i64 now)).set_ 1 (.slice A1 l.length c1')
      refine bodyPost_ret (results_cell_tmp rfl _ _ _ _ _ _ rfl hK3 Try.underlying24 rfl info24) rfl ?_
      have hge := own_block_ge HO.out.1
      have ho2 := own_far (own_far (own_far HO.out.1 (p := ⟨w3.heap.size, 0, none⟩) (fun e => by have h9 := H3.out.2.2.2.2 _ e; dsimp only at h9; omega) (.int .i64 now)) (p := ⟨w.heap.size + 1, 0, none⟩) (fun e => by have h9 := hge _ e; dsimp only at h9; omega) (.int .i64 now)) (p := ⟨w.heap.size + 1, 1, none⟩) (fun e => by have h9 := hge _ e; dsimp only at h9; omega) (.slice A1 l.length c1')
      have hr2 := own_RdB' ho2
      refine ⟨⟨A1, c1', ?_, ?_, ?_, hm1⟩, ((hbr.setCell (p := ⟨w3.heap.size, 0, none⟩) (by dsimp only; omega) _).setCell (p := ⟨w.heap.size + 1, 0, none⟩) (by simp) _).setCell (p := ⟨w.heap.size + 1, 1, none⟩) (by simp) _⟩
      · rw [List.length_map]; rfl
      · rw [List.length_map]; exact hr2
      · rw [List.length_map]; exact hc1
set_option maxHeartbeats 1000000 in
theorem refAdvance_err (t now : Int) (A : Option Addr) (n c : Nat) (l : List Bk) (w : World) (hR : RdB w A n l) (hn : n ≤ 9223372036854775807) (he : checkL t l ≠ 0 ∨ now < t ∨ 1073741824 < now) :
    Calls Try.prog 18 #[budV t A n c, .int .i64 now] w fun e w' => BudR (advP t l now).t (advP t l now).l (advP t l now).err e w' ∧ Below w.heap.size w w' := by
  have hb : Below w.heap.size w ((w.alloc (.cells #[.int .i64 t, .slice A n c] 24)).alloc (.cells #[.int .i64 0, .slice none 0 0] 24)) := ((Below.refl _ w).alloc (Nat.le_refl _) _).alloc (by simp) _
  have h1 := (Blk.new w 24 #[.int .i64 t, .slice A n c]).alloc (.cells #[.int .i64 0, .slice none 0 0] 24)
  have h2 := Blk.new (w.alloc (.cells #[.int .i64 t, .slice A n c] 24)) 24 #[.int .i64 0, .slice none 0 0]
  rw [World.size_alloc] at h2
  have H := Lib.hid (And.intro h1 h2)
  clear h1 h2
  have fin : ∀ (er : Int) (w2 W3 : World), Below w.heap.size w w2 → W3 = (w2.setCell ⟨w.heap.size + 1, 0, none⟩ (.int .i64 0)).setCell ⟨w.heap.size + 1, 1, none⟩ (.slice none 0 0) → Below w.heap.size w W3 := by
    intro er w2 W3 hb2 e
    rw [e]
    exact (hb2.setCell (p := ⟨w.heap.size + 1, 0, none⟩) (by simp) _).setCell (p := ⟨w.heap.size + 1, 1, none⟩) (by simp) _
  have HFIN := Lib.hid fin
  clear fin
  by_cases c0 : checkL t l = 0
  · have hnew : advP t l now = ⟨0, [], 24⟩ := by unfold advP; rw [if_neg (by omega), if_pos (by omega)]
    have HN := Lib.hid hnew
    have HC := Lib.hid c0
    rw [HN.out]
    have hor : now < t ∨ 1073741824 < now := by omega
    clear hnew c0 he
    go_enter Try.func18, Try.ntmps18
    go_wp2_with fail
    generalize ((w.alloc (.cells #[.int .i64 t, .slice A n c] 24)).alloc (.cells #[.int .i64 0, .slice none 0 0] 24)) = W0 at *
    refine (refCheck_any _ _ _ _ l _ (hR.up hb) hn).mono ?_
    rintro e w2 ⟨rfl, hb2⟩
    rw [HC.out]
    have hk1 := H.out.1.below hb2 H.out.1.lt
    have hk2 := H.out.2.below hb2 H.out.2.lt
    have a0 : w2.cell? ⟨w.heap.size, 0, none⟩ = some (.int .i64 t) := hk1.cell 0
    have b0 : w2.cell? ⟨w.heap.size + 1, 0, none⟩ = some (.int .i64 0) := hk2.cell 0
    have b1 : w2.cell? ⟨w.heap.size + 1, 1, none⟩ = some (.slice none 0 0) := hk2.cell 1
    have f0 : w2.frozen? ⟨w.heap.size + 1, 0, none⟩ = false := hk2.frozen 0
    have f1 : w2.frozen? ⟨w.heap.size + 1, 1, none⟩ = false := hk2.frozen 1
    have HK := Lib.hid (And.intro hk2 (hb.trans (hb2.mono hb.size)))
    clear hk1 hk2
    by_cases c1 : now < t
    all_goals
      go_wp2_with fail
      have hK3 := (HK.out.1.set_ 0 (.int .i64 0)).set_ 1 (.slice none 0 0)
      refine bodyPost_ret (results_cell_tmp rfl _ _ _ _ _ _ rfl hK3 Try.underlying24 rfl info24) rfl ?_
      exact ⟨⟨none, 0, rfl, Reads.none_, Nat.le_refl _, by unfold maxLen; omega⟩, HFIN.out 0 w2 _ HK.out.2 rfl⟩
  · have hnew : advP t l now = ⟨0, [], checkL t l⟩ := by unfold advP; rw [if_pos c0]
    have HN := Lib.hid hnew
    have hne : (checkL t l != 0) = true := by rw [bne_iff_ne]; exact c0
    clear hnew c0 he
    go_enter Try.func18, Try.ntmps18
    go_wp2_with fail
    generalize ((w.alloc (.cells #[.int .i64 t, .slice A n c] 24)).alloc (.cells #[.int .i64 0, .slice none 0 0] 24)) = W0 at *
    refine (refCheck_any _ _ _ _ l _ (hR.up hb) hn).mono ?_
    rintro e w2 ⟨rfl, hb2⟩
    have hk2 := H.out.2.below hb2 H.out.2.lt
    have b0 : w2.cell? ⟨w.heap.size + 1, 0, none⟩ = some (.int .i64 0) := hk2.cell 0
    have b1 : w2.cell? ⟨w.heap.size + 1, 1, none⟩ = some (.slice none 0 0) := hk2.cell 1
    have f0 : w2.frozen? ⟨w.heap.size + 1, 0, none⟩ = false := hk2.frozen 0
    have f1 : w2.frozen? ⟨w.heap.size + 1, 1, none⟩ = false := hk2.frozen 1
    have HK := Lib.hid (And.intro hk2 (hb.trans (hb2.mono hb.size)))
    generalize checkL t l = er at *
    clear hk2
    go_wp2_with fail
    have hK3 := (HK.out.1.set_ 0 (.int .i64 0)).set_ 1 (.slice none 0 0)
    refine bodyPost_ret (results_cell_tmp rfl _ _ _ _ _ _ rfl hK3 Try.underlying24 rfl info24) rfl ?_
    rw [HN.out]
    exact ⟨⟨none, 0, rfl, Reads.none_, Nat.le_refl _, by unfold maxLen; omega⟩, HFIN.out er w2 _ HK.out.2 rfl⟩
end Go.Proofs.Ytehfnanhamaenaa
