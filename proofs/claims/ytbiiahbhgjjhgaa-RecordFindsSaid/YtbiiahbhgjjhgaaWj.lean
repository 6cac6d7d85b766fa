/- The walk of record, the reader's second half. Condition: the stream is as begin leaves it. -/
import Derived.Test.YtbiiahbhgjjhgaaWi
import Derived.Test.YtbiiahbhgjjhgaaWd
namespace Go.Proofs.Ytbiiahbhgjjhgaa
open Go.RowKit
structure RecS (w0 : World) (B b N C p n0 : Nat) (x y : Value) (st : List Nat) (W : World) : Prop where
  left : Left W B b N C p x y
  row : Row W b st
  bel : Below B w0 W
  res : Blk W n0 27 #[.int .i64 0, .int .i64 0, .slice none 0 0]
section
variable {w0 W W' : World} {B b N C p k n0 : Nat} {x y : Value} {st : List Nat} {e : Ending}
theorem Left.lt (h : Left W B b N C p x y) : B < W.heap.size := by obtain ⟨A, h, _⟩ := h; exact h.lt
theorem RecS.put (h : RecS w0 B b N C p n0 x y st W) (hb : b ≠ B) (hn : n0 ≠ B) (hw : ∃ v, W' = W.setCell ⟨B, 0, none⟩ v) (hl : Left W' B b N C (p + k) x y) : RecS w0 B b N C (p + k) n0 x y st W' := by
  obtain ⟨v, rfl⟩ := hw
  exact ⟨hl, h.row.far hb 0 v, h.bel.setCell (by simp) v, h.res.far (p := ⟨B, 0, none⟩) hn v⟩
theorem RecS.below (h : RecS w0 B b N C p n0 x y st W) (hb : Below W.heap.size W W') (h0 : 0 < st.length) : RecS w0 B b N C p n0 x y st W' := by
  obtain ⟨A, h1, h2⟩ := h.left
  exact ⟨⟨A, h1.below hb h1.lt, h2⟩, fun j hj => (hb.cell (p := ⟨b, j, none⟩) (h.row.lt h0)).trans (h.row j hj), h.bel.trans (hb.mono (Nat.le_of_lt h1.lt)), h.res.below hb h.res.lt⟩
end
/-- what record leaves -/
structure RecR (w : World) (B q n : Nat) (d : Dec) (e : Ending) (w' : World) : Prop where
  bel : Below B w w'
  bad : d.e ≠ 0 → e = .panicked (failV d.e)
  sect : d.e = 0 → ∃ v, Blk w' B 71 #[v, .int .i64 (q : Nat), .int .i64 (n : Nat)]
  good : d.e = 0 → ∃ A c, e = .returned (.agg #[.int .i64 (d.k : Nat), .int .i64 (q : Nat), .slice A d.p.length c]) ∧ Reads w' w'.heap.size 1 A d.p.length (u8s d.p) ∧ d.p.length ≤ c ∧ c ≤ maxLen ∧ (∀ ad, 0 < d.p.length → A = some ad → w.heap.size ≤ ad.block)
theorem take1 {st : List Nat} (h : 0 < st.length) : ge ((st.drop 0).take 1) = st.getD 0 0 := by
  cases st with
  | nil => simp at h
  | cons x l => simp [ge]
theorem info27s : (Try.prog.info? 27).map (·.size) = some 3 := by kernel_rfl
set_option maxHeartbeats 2000000 in
theorem record_any (B b C len q n : Nat) (st : List Nat) (w : World) (hL : Left w B b st.length C 0 (.int .i64 (q : Nat)) (.int .i64 (n : Nat))) (hR : Row w b st) (hb : b ≠ B) (hst : AllB st) (hc : st.length ≤ C) (hN : st.length ≤ 8000)
    (hlen : ge ((st.drop 1).take 2) = len) (hl : 7 + len ≤ st.length) :
    Calls Try.prog 31 #[.pointer (some ⟨B, 0, none⟩)] w (RecR w B q n (tailM st len q n)) := by
  have hs0 : 0 < st.length := by omega
  have hBlt := hL.lt
  have hr0 : RecS w B b st.length C 0 w.heap.size (.int .i64 (q : Nat)) (.int .i64 (n : Nat)) st (w.alloc (.cells #[.int .i64 0, .int .i64 0, .slice none 0 0] 27)) :=
    RecS.mk (by obtain ⟨A, h1, h2⟩ := hL; exact ⟨A, h1.alloc _, h2⟩) (fun j hj => (World.cell?_alloc_lt w _ ⟨b, j, none⟩ (hR.lt hs0)).trans (hR j hj)) ((Below.refl _ _).alloc (Nat.le_of_lt hBlt) _) (Blk.new w 27 _)
  have hne : w.heap.size ≠ B := by omega
  have hwl : w.heap.size < (w.alloc (.cells #[.int .i64 0, .int .i64 0, .slice none 0 0] 27)).heap.size := by simp
  go_enter Try.func31, Try.ntmps31
  obtain ⟨A0, hk0, hA0⟩ := hL
  have e0 : w.cell? ⟨B, 0, none⟩ = some (.slice A0 (st.length - 0) (C - 0)) := hk0.cell 0
  rw [hA0 (by omega), Nat.sub_zero, Nat.sub_zero] at e0
  have HX := Lib.hid (And.intro hr0 (And.intro hst (And.intro hlen (And.intro hR hk0))))
  clear hr0 hst hlen hR hk0 hA0
  generalize hNN : st.length = N at *
  have HN := Lib.hid hNN
  clear hNN
  go_wp2_with fail
  generalize (w.alloc (.cells #[.int .i64 0, .int .i64 0, .slice none 0 0] 27)) = W at *
  refine (num_any B b N C 0 1 _ _ st W HX.out.1.left HX.out.1.row HN.out HX.out.2.1 hb (by omega) hc (by omega)).mono ?_
  rintro e W1 hr
  have hr1 := HX.out.1.put hb hne hr.wld hr.left
  have hw1 : W1.heap.size = W.heap.size := by obtain ⟨v, hv⟩ := hr.wld; rw [hv]; simp
  obtain rfl := hr.res
  rw [take1 (by rw [HN.out]; omega)]
  have HR1 := Lib.hid hr1
  clear hr hr1
  have hk := getD_lt HX.out.2.1 0
  generalize hkk : st.getD 0 0 = kd at *
  have HKD := Lib.hid hkk
  clear hkk
  go_wp2_with fail
  refine (num_any B b N C 1 2 _ _ st W1 HR1.out.left HR1.out.row HN.out HX.out.2.1 hb (by omega) hc (by omega)).mono ?_
  rintro e W2 hr
  have hr1 := HR1.out.put hb hne hr.wld hr.left
  have hw2 : W2.heap.size = W1.heap.size := by obtain ⟨v, hv⟩ := hr.wld; rw [hv]; simp
  obtain rfl := hr.res
  rw [HX.out.2.2.1]
  have HR2 := Lib.hid hr1
  clear hr hr1
  go_wp2_with fail
  refine (take_any B b N C 3 len _ _ W2 HR2.out.left (by omega) hc).mono ?_
  rintro e W3 hr
  have hr1 := HR2.out.put hb hne hr.wld hr.left
  have hw3 : W3.heap.size = W2.heap.size := by obtain ⟨v, hv⟩ := hr.wld; rw [hv]; simp
  obtain ⟨A3, rfl, hA3⟩ := hr.res
  have hR3 : Reads W3 W3.heap.size 1 A3 len (u8s ((st.drop 3).take len)) := hr1.row.reads 3 len (by rw [HN.out]; omega) A3 (fun h => hA3 (by omega))
  have HR3 := Lib.hid (And.intro hr1 hR3)
  clear hr hr1 hR3
  go_wp2_with fail
  refine (Clone_any A3 len _ _ W3 HR3.out.2 (by omega)).mono ?_
  rintro e W4 ⟨⟨v, rfl, hown⟩, hb4⟩
  obtain ⟨A4, c4, rfl, hc4, hm4, hR4⟩ := own_slice hown
  have hnew : ∀ ad, 0 < len → A4 = some ad → w.heap.size ≤ ad.block := by
    intro ad h0 e
    obtain ⟨g, cap, cur, hv, hg, _⟩ := own_blk hown h0
    rw [e] at hv
    injection hv with h1
    injection h1 with h1
    rw [h1]
    dsimp only
    omega
  have HNE : Hid (∀ ad, 0 < len → A4 = some ad → w.heap.size < ad.block) := by
    intro ad h0 e
    obtain ⟨g, cap, cur, hv, hg, _⟩ := own_blk hown h0
    rw [e] at hv
    injection hv with h1
    injection h1 with h1
    rw [h1]
    dsimp only
    omega
  have hr4 := HR3.out.1.below hb4 (by rw [HN.out]; omega)
  rw [show 0 + 1 + 2 + len = 3 + len by omega] at hr4
  have HR4 := Lib.hid (And.intro hr4 (And.intro hR4 (And.intro hc4 (And.intro hm4 hnew))))
  have hw4 := hb4.size
  clear hr4 hR4 hc4 hm4 hnew hown hb4
  go_wp2_with fail
  refine (num_any B b N C (3 + len) 4 _ _ st W4 HR4.out.1.left HR4.out.1.row HN.out HX.out.2.1 hb (by omega) hc (by omega)).mono ?_
  rintro e W5 hr
  have hr1 := HR4.out.1.put hb hne hr.wld hr.left
  rw [show 3 + len + 4 = 7 + len by omega] at hr1
  have hw5 : W5.heap.size = W4.heap.size := by obtain ⟨v, hv⟩ := hr.wld; rw [hv]; simp
  have hR5 : Reads W5 W5.heap.size 1 A4 len (u8s ((st.drop 3).take len)) := by
    obtain ⟨v, hv⟩ := hr.wld
    have hR4 := HR4.out.2.1
    refine ⟨hR4.1, fun h0 => ?_⟩
    obtain ⟨ad, e1, e2, e3⟩ := hR4.2 h0
    refine ⟨ad, e1, by omega, fun j u hu => ?_⟩
    rw [hv]
    refine (World.cell?_setCell_other _ _ _ _ (fun e4 => ?_)).trans (e3 j u hu)
    have e5 := congrArg Addr.block e4
    rw [block_of_add] at e5
    have e6 := HR4.out.2.2.2.2 ad h0 e1
    dsimp only at e5
    omega
  obtain rfl := hr.res
  have hR6 : Reads W5 W5.heap.size 1 (some ⟨b, 0, none⟩) (3 + len) (u8s (st.take (3 + len))) := hr1.row.reads 0 (3 + len) (by rw [HN.out]; omega) _ (fun _ => rfl)
  have HR5 := Lib.hid (And.intro hr1 (And.intro hR5 hR6))
  clear hr hr1 hR5 hR6
  have hsum := ge_lt (l := (st.drop (3 + len)).take 4) (fun z hz => HX.out.2.1 z (List.mem_of_mem_drop (List.mem_of_mem_take hz)))
  have hsl : ((st.drop (3 + len)).take 4).length = 4 := by rw [List.length_take, List.length_drop, HN.out]; omega
  rw [hsl] at hsum
  have hbd : AllB (st.take (3 + len)) := fun z hz => HX.out.2.1 z (List.mem_of_mem_take hz)
  have hss := updS_bd _ hbd
  clear hsl
  generalize hS1 : ge ((st.drop (3 + len)).take 4) = S1 at *
  have HS1 := Lib.hid hS1
  clear hS1
  go_wp2_with fail
  refine (sum_any (3 + len) C (some ⟨b, 0, none⟩) (st.take (3 + len)) W5 (by omega) HR5.out.2.2 hbd).mono ?_
  rintro e W6 ⟨rfl, hb6⟩
  have hr6 := HR5.out.1.below hb6 (by rw [HN.out]; omega)
  have hR6 := HR5.out.2.1.up hb6
  have HR6 := Lib.hid (And.intro hr6 hR6)
  have hw6 := hb6.size
  clear hr6 hR6 hb6 hbd
  generalize hS2 : updS 0 (st.take (3 + len)) = S2 at *
  have HS2 := Lib.hid hS2
  clear hS2
  go_wp2_with fail
  by_cases hsm : S1 = S2
  · refine (demand_true ?hb 9 _).mono ?_
    case hb => simp [hsm]
    rintro e w9 ⟨rfl, rfl⟩
    have hT1 : Hid (tailM st len q n = if st.getD 0 0 = 0 ∨ (st.drop (7 + len)).any (fun x => x != 0) = true then .err 3 else ⟨0, st.getD 0 0, q, (st.drop 3).take len, n⟩) := by
      show _ = _
      unfold tailM
      rw [HS1.out, HS2.out, if_pos hsm]
    clear hsm
    by_cases hk0 : kd = 0
    · have hT : tailM st len q n = .err 3 := by rw [hT1.out, if_pos (.inl (by rw [HKD.out]; exact hk0))]
      subst hk0
      go_wp2_with fail
      refine (demand_false rfl 3 _).mono ?_
      rintro e w9 ⟨rfl, rfl⟩
      go_wp2_with fail
      exact ⟨rfl, HR6.out.1.bel, fun _ => rfl, (fun h => nomatch h), (fun h => nomatch h)⟩
    · obtain ⟨A7, hk7, hA7⟩ := HR6.out.1.left
      have e7 : W6.cell? ⟨B, 0, none⟩ = some (.slice A7 (N - (7 + len)) (C - (7 + len))) := hk7.cell 0
      have e8 : W6.cell? ⟨B, 1, none⟩ = some (.int .i64 (q : Nat)) := hk7.cell 1
      have hR7 : Reads W6 W6.heap.size 1 A7 (N - (7 + len)) (u8s (st.drop (7 + len))) := by
        have h := HR6.out.1.row.reads (7 + len) (N - (7 + len)) (by rw [HN.out]; omega) A7 (fun h => hA7 (by omega))
        rwa [List.take_of_length_le (by rw [List.length_drop, HN.out]; omega)] at h
      have HR7 := Lib.hid hR7
      have k0 : (0 : Int) < kd := by omega
      clear hk7 hA7 hR7
      generalize C - (7 + len) = c7 at *
      have n7 : N - (7 + len) ≤ 100000 := by omega
      generalize N - (7 + len) = m7 at *
      go_wp2_with fail
      refine (contains_any A7 m7 c7 _ W6 HR7.out n7).mono ?_
      rintro e w9 ⟨rfl, rfl⟩
      by_cases hz : (st.drop (7 + len)).any nzB = true
      · have hT : tailM st len q n = .err 3 := by rw [hT1.out, if_pos (.inr hz)]
        rw [hz]
        go_wp2_with fail
        refine (demand_false rfl 3 _).mono ?_
        rintro e w9 ⟨rfl, rfl⟩
        go_wp2_with fail
        exact ⟨rfl, HR6.out.1.bel, fun _ => rfl, (fun h => nomatch h), (fun h => nomatch h)⟩
      · have hT : Hid (tailM st len q n = ⟨0, kd, q, (st.drop 3).take len, n⟩) := by
          show _ = _
          rw [hT1.out, if_neg, HKD.out]
          rintro (h | h)
          · rw [HKD.out] at h; exact hk0 h
          · exact hz h
        have hz' : (st.drop (7 + len)).any nzB = false := by simpa using hz
        rw [hz']
        go_wp2_with fail
        refine (demand_true rfl 3 _).mono ?_
        rintro e w9 ⟨rfl, rfl⟩
        have hres := HR6.out.1.res
        have r0 : W6.cell? ⟨w.heap.size, 0, none⟩ = some (.int .i64 0) := hres.cell 0
        have r1 : W6.cell? ⟨w.heap.size, 1, none⟩ = some (.int .i64 0) := hres.cell 1
        have r2 : W6.cell? ⟨w.heap.size, 2, none⟩ = some (.slice none 0 0) := hres.cell 2
        have z0 := hres.frozen 0
        have z1 := hres.frozen 1
        have z2 := hres.frozen 2
        have hlr := hres.lt
        clear hres hz hz'
        go_wp2_with fail
        have hblk := ((HR6.out.1.res.set_ 0 (.int .i64 (kd : Nat))).set_ 1 (.int .i64 (q : Nat))).set_ 2 (.slice A4 len c4)
        refine bodyPost_ret (v := .agg #[.int .i64 (kd : Nat), .int .i64 (q : Nat), .slice A4 len c4]) (results_cell_row rfl _ _ w.heap.size 27 #[.int .i64 (kd : Nat), .int .i64 (q : Nat), .slice A4 len c4] (0, 0) _ rfl hblk Try.underlying27 rfl info27s) rfl ?_
        rw [hT.out]
        have hpl : ((st.drop 3).take len).length = len := by rw [List.length_take, List.length_drop, HN.out]; omega
        have hsec : ∃ v, Blk (((W6.setCell ⟨w.heap.size, 0, none⟩ (.int .i64 (kd : Nat))).setCell ⟨w.heap.size, 1, none⟩ (.int .i64 (q : Nat))).setCell ⟨w.heap.size, 2, none⟩ (.slice A4 len c4)) B 71 #[v, .int .i64 (q : Nat), .int .i64 (n : Nat)] := by
          obtain ⟨A7, hk7, _⟩ := HR6.out.1.left
          exact ⟨_, ((hk7.far (p := ⟨w.heap.size, 0, none⟩) (fun e => hne e.symm) _).far (p := ⟨w.heap.size, 1, none⟩) (fun e => hne e.symm) _).far (p := ⟨w.heap.size, 2, none⟩) (fun e => hne e.symm) _⟩
        refine ⟨?_, fun h => absurd rfl h, fun _ => hsec, fun _ => ⟨A4, c4, by rw [hpl], ?_, by rw [hpl]; exact HR4.out.2.2.1, HR4.out.2.2.2.1, fun ad h => HR4.out.2.2.2.2 ad (by rw [hpl] at h; exact h)⟩⟩
        · exact ((HR6.out.1.bel.setCell (p := ⟨w.heap.size, 0, none⟩) (by dsimp only; omega) _).setCell (p := ⟨w.heap.size, 1, none⟩) (by dsimp only; omega) _).setCell (p := ⟨w.heap.size, 2, none⟩) (by dsimp only; omega) _
        · rw [hpl]
          have hR := HR6.out.2
          refine ⟨hR.1, fun h0 => ?_⟩
          obtain ⟨ad, e1, e2, e3⟩ := hR.2 h0
          have hne : w.heap.size ≠ ad.block := by
            obtain ⟨g, hg⟩ : ∃ g, g = ad.block := ⟨_, rfl⟩
            have := HNE.out ad h0 e1
            omega
          refine ⟨ad, e1, by simpa using e2, fun j u hu => ?_⟩
          rw [World.cell?_setCell_other _ _ _ _ (fun e => hne (by rw [← block_of_add ad j, ← e])), World.cell?_setCell_other _ _ _ _ (fun e => hne (by rw [← block_of_add ad j, ← e])), World.cell?_setCell_other _ _ _ _ (fun e => hne (by rw [← block_of_add ad j, ← e]))]
          exact e3 j u hu
  · have hT : tailM st len q n = .err 9 := by unfold tailM; rw [HS1.out, HS2.out, if_neg hsm]
    refine (demand_false ?hb 9 _).mono ?_
    case hb => rw [beq_eq_false_iff_ne]; omega
    rintro e w9 ⟨rfl, rfl⟩
    go_wp2_with fail
    exact ⟨rfl, HR6.out.1.bel, fun _ => rfl, (fun h => nomatch h), (fun h => nomatch h)⟩
end Go.Proofs.Ytbiiahbhgjjhgaa
