/- The walk of the reference's New. Conditions: at most 1000 buckets. -/
import Derived.Test.YtehfnanhamaenaaWe
namespace Go.Proofs.Ytehfnanhamaenaa
open Go.RowKit
def fillR (b : Bk) : Bk := { b with tok := b.burst }
theorem chk_fill (b : Bk) (i : Int) : chkB (fillR b) i = chkB (fill b) i := by
  unfold chkB fill fillR
  dsimp only
  (repeat' split) <;> omega
theorem firstE_fill (l : List Bk) : ∀ i, firstE (l.map fillR) i = firstE (l.map fill) i := by
  induction l with
  | nil => intro i; rfl
  | cons b l ih =>
    intro i
    rw [List.map_cons, List.map_cons]
    unfold firstE
    rw [chk_fill, ih]
theorem checkL_fill (t : Int) (l : List Bk) : checkL t (l.map fillR) = checkL t (l.map fill) := by
  unfold checkL
  rw [firstE_fill]
  simp
theorem checkL_zero {t : Int} {l : List Bk} (h : checkL t l = 0) : l.length ≤ 64 ∧ 0 ≤ t ∧ t ≤ 1073741824 ∧ firstE l 0 = 0 := by
  unfold checkL at h
  split at h
  · omega
  · split at h
    · omega
    · exact ⟨by omega, by omega, by omega, h⟩
theorem map_fill {l : List Bk} (h : firstE (l.map fill) 0 = 0) : l.map fillR = l.map fill := by
  apply List.map_congr_left
  intro b hb
  obtain ⟨k, hk, rfl⟩ := List.getElem_of_mem hb
  have hz := chkB_zero (firstE_zero h k (by simpa using hk))
  simp [fill] at hz
  unfold fill fillR
  have : max l[k].burst 0 = l[k].burst := by omega
  rw [this]
theorem newR_eq (l : List Bk) : (if checkL 0 (l.map fillR) = 0 then (⟨0, l.map fillR, 0⟩ : BR) else ⟨0, [], checkL 0 (l.map fillR)⟩) = newP l := by
  unfold newP
  rw [checkL_fill]
  split
  · rename_i h
    rw [map_fill (checkL_zero h).2.2.2]
  · rfl
theorem encBs_snoc (l : List Bk) (b : Bk) : encBs (l ++ [b]) = encBs l ++ (#[Value.int .i64 b.par, .int .i64 b.rate, .int .i64 b.burst, .int .i64 b.tok] : Array Value).toList := by
  unfold encBs
  rw [List.flatMap_append]
  simp [encB]
set_option maxHeartbeats 1000000 in
theorem refNew_any (A : Option Addr) (n c : Nat) (l : List Bk) (w : World) (hR : RdB w A n l) (hn : n ≤ 1000) :
    Calls Try.prog 13 #[.slice A n c] w fun e w' => BudR (newP l).t (newP l).l (newP l).err e w' ∧ Below w.heap.size w w' := by
  obtain ⟨i0, hi0, hz0, hz1, hz2⟩ := info_parts info64
  have HI := Lib.hid (And.intro hi0 (And.intro hz0 (And.intro hz1 hz2)))
  clear hi0 hz0 hz1 hz2
  have hlen := hR.len
  subst hlen
  have hbA : Below w.heap.size w ((w.alloc (.cells #[.int .i64 0, .slice none 0 0] 24)).alloc (.cells #[.int .i64 0, .slice none 0 0] 24)) := ((Below.refl _ w).alloc (Nat.le_refl _) _).alloc (by simp) _
  have hA1 := (Blk.new w 24 #[.int .i64 0, .slice none 0 0]).alloc (.cells #[.int .i64 0, .slice none 0 0] 24)
  have hA2 := Blk.new (w.alloc (.cells #[.int .i64 0, .slice none 0 0] 24)) 24 #[.int .i64 0, .slice none 0 0]
  rw [World.size_alloc] at hA2
  have hsA : ((w.alloc (.cells #[.int .i64 0, .slice none 0 0] 24)).alloc (.cells #[.int .i64 0, .slice none 0 0] 24)).heap.size = w.heap.size + 1 + 1 := by simp
  have HA := Lib.hid (And.intro hA1 hA2)
  have HSA := Lib.hid hsA
  clear hA1 hA2 hsA
  go_enter Try.func13, Try.ntmps13
  go_wp2_with fail
  generalize ((w.alloc (.cells #[.int .i64 0, .slice none 0 0] 24)).alloc (.cells #[.int .i64 0, .slice none 0 0] 24)) = WA at *
  go_loopw [5] (fun i wr => ∃ k : Nat, k ≤ l.length ∧ i = .int .i64 k ∧ (∃ v, wr.ownsRow WA.heap.size 64 4 v k (encBs ((l.take k).map fillR)) ∧ Blk wr (w.heap.size + 1) 24 #[.int .i64 0, v]) ∧ Blk wr w.heap.size 24 #[.int .i64 0, .slice none 0 0] ∧ Below w.heap.size w wr) (fun i _ => l.length - (intOf i).toNat)
  case atStart => exact ⟨0, by omega, rfl, ⟨_, World.ownsRow_nil _ _ 64 4, HA.out.2⟩, HA.out.1, hbA⟩
  case round =>
    obtain ⟨k, hk, rfl, ⟨v, ho, hKb⟩, hKr, hbr⟩ := hrel
    by_cases hlt : k < l.length
    · obtain ⟨b, off, rfl, hbb, hc⟩ := (hR.up hbr).cells (by omega)
      obtain ⟨d0, d1, d2, d3⟩ := hc k hlt
      have hnx : encBs ((l.take (k + 1)).map fillR) = encBs ((l.take k).map fillR) ++ (#[Value.int .i64 l[k].par, .int .i64 l[k].rate, .int .i64 l[k].burst, .int .i64 l[k].burst] : Array Value).toList := by
        rw [← List.take_append_getElem hlt, List.map_append]
        exact encBs_snoc _ (fillR l[k])
      have HN := Lib.hid hnx
      clear hc hnx
      obtain ⟨⟨p, r, u, q⟩, hbk⟩ : ∃ bk, bk = l[k] := ⟨_, rfl⟩
      rw [← hbk] at HN d0 d1 d2 d3
      dsimp only at HN d0 d1 d2 d3
      clear hbk
      have hszr : w.heap.size + 1 < wr.heap.size := hKb.lt
      have hK2 := hKb.alloc (.cells #[.int .i64 p, .int .i64 r, .int .i64 u, .int .i64 u] 64)
      have kb1 : (wr.alloc (.cells #[.int .i64 p, .int .i64 r, .int .i64 u, .int .i64 u] 64)).cell? ⟨w.heap.size + 1, 1, none⟩ = some v := hK2.cell 1
      have kb1' : wr.cell? ⟨w.heap.size + 1, 1, none⟩ = some v := hKb.cell 1
      have HK := Lib.hid (And.intro hK2 (And.intro hKr (own_alloc ho (.cells #[.int .i64 p, .int .i64 r, .int .i64 u, .int .i64 u] 64))))
      have hWA : WA.heap.size ≤ (wr.alloc (.cells #[.int .i64 p, .int .i64 r, .int .i64 u, .int .i64 u] 64)).heap.size := by simp; rw [HSA.out]; omega
      clear hK2 hKb hKr ho
      have hbr1 : Below w.heap.size w (wr.alloc (.cells #[.int .i64 p, .int .i64 r, .int .i64 u, .int .i64 u] 64)) := hbr.alloc hbr.size _
      go_wp2_with (at_builtin; go_must (refine wpList_append_elem (wr.alloc (.cells #[.int .i64 p, .int .i64 r, .int .i64 u, .int .i64 u] 64)) rfl (.tmp 22) (.tmp 24) _ rfl WA.heap.size 64 i0 _ 4 32 Try.underlying22 HI.out.1 HI.out.2.1 HI.out.2.2.1 HI.out.2.2.2 rfl (by omega) v k (encBs ((l.take k).map fillR)) #[.int .i64 p, .int .i64 r, .int .i64 u, .int .i64 u] rfl rfl (by rw [World.size_alloc]; rfl) HK.out.2.2 (by simp [Value.oneCell']) (by simp only [maxLen]; omega) (by omega) hWA ?_; intro v2 w2 hown2 hb2; rw [← HN.out] at hown2; have hK2 := HK.out.1.below hb2 (by rw [HSA.out]; omega); have hK3 := (HK.out.2.1.alloc (.cells #[.int .i64 p, .int .i64 r, .int .i64 u, .int .i64 u] 64)).below hb2 (by rw [HSA.out]; omega); obtain ⟨A2, c2, hv2, _, _, _⟩ := own_slice hown2; rw [hv2]; have kc1 : w2.cell? ⟨w.heap.size + 1, 1, none⟩ = some v := hK2.cell 1; have kf1 : w2.frozen? ⟨w.heap.size + 1, 1, none⟩ = false := hK2.frozen 1; have HK2 := Lib.hid (And.intro hK2 (And.intro hK3 (And.intro hown2 hv2))); clear hK2 hK3 hown2 hv2))
      have hb3 : Below w.heap.size w w2 := hbr1.trans (hb2.mono (by rw [HSA.out]; omega))
      go_roundw
      case rel =>
        refine ⟨k + 1, by omega, by go_num, ⟨v2, own_far HK2.out.2.2.1 (fun e => ?_) _, ?_⟩, HK2.out.2.1.far (p := ⟨w.heap.size + 1, 1, none⟩) (by simp) _, hb3.setCell (p := ⟨w.heap.size + 1, 1, none⟩) (by simp) _⟩
        · have h9 : w.heap.size + 1 + 1 ≤ w.heap.size + 1 := by rw [← HSA.out]; exact own_block_ge HK2.out.2.2.1 _ e
          omega
        · rw [HK2.out.2.2.2]
          exact HK2.out.1.set_ 1 _
      case measure => simp [intOf]; omega
    · obtain rfl : k = l.length := by omega
      rw [List.take_length] at ho
      have hlm : (l.map fillR).length = l.length := by simp
      obtain ⟨A1, c1, rfl, hc1, hm1, hr1⟩ := own_RdB ho
      have hHR := Lib.hid hr1
      have kb0 : wr.cell? ⟨w.heap.size + 1, 0, none⟩ = some (.int .i64 0) := hKb.cell 0
      have kb1 : wr.cell? ⟨w.heap.size + 1, 1, none⟩ = some (.slice A1 l.length c1) := hKb.cell 1
      have hHK := Lib.hid (And.intro hKr ho)
      have hzz : w.heap.size + 1 < wr.heap.size := hKb.lt
      clear hr1 hKr hKb ho
      by_cases c0 : checkL 0 (l.map fillR) = 0
      · have hnew : newP l = ⟨0, l.map fillR, 0⟩ := by rw [← newR_eq]; rw [if_pos c0]
        have HC := Lib.hid c0
        have HN := Lib.hid hnew
        clear c0 hnew
        go_wp2_with fail
        refine (refCheck_any _ _ _ _ (l.map fillR) _ hHR.out (by omega)).mono ?_
        rintro e w2 ⟨rfl, hb2⟩
        rw [HC.out]
        have q0 := (hb2.cell (p := ⟨w.heap.size + 1, 0, none⟩) hzz).trans kb0
        have q1 := (hb2.cell (p := ⟨w.heap.size + 1, 1, none⟩) hzz).trans kb1
        have hK2 := hHK.out.1.below hb2 (by omega)
        have r0 : w2.cell? ⟨w.heap.size, 0, none⟩ = some (.int .i64 0) := hK2.cell 0
        have r1 : w2.cell? ⟨w.heap.size, 1, none⟩ = some (.slice none 0 0) := hK2.cell 1
        have f0 : w2.frozen? ⟨w.heap.size, 0, none⟩ = false := hK2.frozen 0
        have f1 : w2.frozen? ⟨w.heap.size, 1, none⟩ = false := hK2.frozen 1
        have HK2 := Lib.hid hK2
        have hb2' := hbr.trans (hb2.mono hbr.size)
        clear hK2 kb0 kb1
        go_wp2_with fail
        have hK3 : Blk ((w2.setCell ⟨w.heap.size, 0, none⟩ (.int .i64 0)).setCell ⟨w.heap.size, 1, none⟩ (.slice A1 l.length c1)) w.heap.size 24 #[.int .i64 0, .slice A1 l.length c1] := (HK2.out.set_ 0 _).set_ 1 _
        refine bodyPost_ret (results_cell_tmp rfl _ _ _ _ _ _ rfl hK3 Try.underlying24 rfl info24) rfl ?_
        have hbz : Below w.heap.size w2 ((w2.setCell ⟨w.heap.size, 0, none⟩ (.int .i64 0)).setCell ⟨w.heap.size, 1, none⟩ (.slice A1 l.length c1)) := ((Below.refl _ _).setCell (p := ⟨w.heap.size, 0, none⟩) (Nat.le_refl _) _).setCell (p := ⟨w.heap.size, 1, none⟩) (Nat.le_refl _) _
        rw [HN.out]
        refine ⟨⟨A1, c1, by rw [hlm]; rfl, ?_, by rw [hlm]; exact hc1, hm1⟩, hb2'.trans hbz⟩
        rw [hlm]
        refine own_RdB' (base := WA.heap.size) (c := c1) (own_far (own_far (own_below hHK.out.2 hb2) ?_ _) ?_ _)
        · intro e
          have h9 : w.heap.size + 1 + 1 ≤ w.heap.size := by rw [← HSA.out]; exact own_block_ge hHK.out.2 _ e
          omega
        · intro e
          have h9 : w.heap.size + 1 + 1 ≤ w.heap.size := by rw [← HSA.out]; exact own_block_ge hHK.out.2 _ e
          omega
      · have hnew : newP l = ⟨0, [], checkL 0 (l.map fillR)⟩ := by rw [← newR_eq]; rw [if_neg c0]
        have hne : (checkL 0 (l.map fillR) != 0) = true := by rw [bne_iff_ne]; exact c0
        have HN := Lib.hid hnew
        clear c0 hnew
        go_wp2_with fail
        refine (refCheck_any _ _ _ _ (l.map fillR) _ hHR.out (by omega)).mono ?_
        rintro e w2 ⟨rfl, hb2⟩
        have hK2 := hHK.out.1.below hb2 (by omega)
        have r0 : w2.cell? ⟨w.heap.size, 0, none⟩ = some (.int .i64 0) := hK2.cell 0
        have r1 : w2.cell? ⟨w.heap.size, 1, none⟩ = some (.slice none 0 0) := hK2.cell 1
        have f0 : w2.frozen? ⟨w.heap.size, 0, none⟩ = false := hK2.frozen 0
        have f1 : w2.frozen? ⟨w.heap.size, 1, none⟩ = false := hK2.frozen 1
        have HK2 := Lib.hid hK2
        have hb2' := hbr.trans (hb2.mono hbr.size)
        generalize checkL 0 (l.map fillR) = er at *
        clear hK2 kb0 kb1
        go_wp2_with fail
        have hK3 : Blk ((w2.setCell ⟨w.heap.size, 0, none⟩ (.int .i64 0)).setCell ⟨w.heap.size, 1, none⟩ (.slice none 0 0)) w.heap.size 24 #[.int .i64 0, .slice none 0 0] := (HK2.out.set_ 0 _).set_ 1 _
        refine bodyPost_ret (results_cell_tmp rfl _ _ _ _ _ _ rfl hK3 Try.underlying24 rfl info24) rfl ?_
        have hbz : Below w.heap.size w2 ((w2.setCell ⟨w.heap.size, 0, none⟩ (.int .i64 0)).setCell ⟨w.heap.size, 1, none⟩ (.slice none 0 0)) := ((Below.refl _ _).setCell (p := ⟨w.heap.size, 0, none⟩) (Nat.le_refl _) _).setCell (p := ⟨w.heap.size, 1, none⟩) (Nat.le_refl _) _
        rw [HN.out]
        exact ⟨⟨none, 0, rfl, Reads.none_, Nat.le_refl _, by unfold maxLen; omega⟩, hb2'.trans hbz⟩
end Go.Proofs.Ytehfnanhamaenaa
