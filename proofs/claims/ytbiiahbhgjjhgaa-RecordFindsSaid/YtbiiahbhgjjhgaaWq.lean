/- The walk of the reference's Decode. Condition: at most 2000 sectors. -/
import Derived.Test.YtbiiahbhgjjhgaaWk
import Derived.Test.YtbiiahbhgjjhgaaWo
namespace Go.Proofs.Ytbiiahbhgjjhgaa
open Go.RowKit
theorem res18 {n : Nat} {tmps : Array Value} {w : World} {x y z u v : Value} (h2 : tmps[2]?.getD undef = .pointer (some ⟨n, 0, none⟩)) (h3 : tmps[3]?.getD undef = u) (h4 : tmps[4]?.getD undef = v)
    (k0 : Blk w n 27 #[x, y, z]) : (results Try.f18 tmps).run Try.prog w = .ok (.tuple #[.agg #[x, y, z], u, v]) w := by
  have d0 : w.cell? ⟨n, 0, none⟩ = some x := k0.cell 0
  have d1 : w.cell? ⟨n, 1, none⟩ = some y := k0.cell 1
  have d2 : w.cell? ⟨n, 2, none⟩ = some z := k0.cell 2
  simp [results, Try.results18, go_sem, h2, h3, h4, d0, d1, d2]
set_option maxRecDepth 100000 in
set_option maxHeartbeats 4000000 in
set_option linter.unusedSimpArgs false in
theorem refDecode_any (n c : Nat) (A : Option Addr) (l : List Sec) (w : World) (hR : Reads w w.heap.size 8 A n (l.flatMap encS)) (hn : n ≤ 2000) (hc : n ≤ c) (hl : ∀ s ∈ l, s.Ok) :
    Calls Try.prog 18 #[.slice A n c] w (DecR w (decM l)) := by
  have hlen := sec_count hR
  have hb0 : Below w.heap.size w (w.alloc (.cells #[.int .i64 0, .int .i64 0, .slice none 0 0] 27)) := (Below.refl _ w).alloc (Nat.le_refl _) _
  have hk0 : Blk (w.alloc (.cells #[.int .i64 0, .int .i64 0, .slice none 0 0] 27)) w.heap.size 27 #[.int .i64 0, .int .i64 0, .slice none 0 0] := Blk.new w 27 _
  cases l with
  | nil =>
    obtain rfl : n = 0 := by simpa using hlen.symm
    go_enter Try.func18, Try.ntmps18
    go_wp2_with fail
    have hz := Blk.new w 27 #[.int .i64 0, .int .i64 0, .slice none 0 0]
    first
      | (refine bodyPost_ret (res18 rfl rfl rfl hz) rfl ?_; exact decR_err (k := 10) hb0)
      | (trace_state; sorry)
  | cons s l =>
    obtain ⟨b, off, rfl, hb, hcells⟩ := hR.sec (by rw [← hlen]; simp)
    have hn0 : ¬ n = 0 := by rw [← hlen]; simp
    have hn1 : (0 : Int) < n := by omega
    have hs := hl s (by simp)
    have g0 : ∀ j u, (encS s)[j]? = some u → w.cell? ⟨b, off + j, none⟩ = some u := fun j u hu => by have h := hcells 0 (by simp) j u hu; simpa using h
    obtain ⟨c0, c1, c2, c3, c4, c5, c6, c7⟩ : w.cell? ⟨b, off, none⟩ = some (.int .u8 (s.a : Int)) ∧ w.cell? ⟨b, off + 1, none⟩ = some (.int .u8 (s.b : Int)) ∧ w.cell? ⟨b, off + 2, none⟩ = some (.int .u8 (s.c : Int)) ∧ w.cell? ⟨b, off + 3, none⟩ = some (.int .u8 (s.d : Int)) ∧ w.cell? ⟨b, off + 4, none⟩ = some (.int .u8 (s.e : Int)) ∧ w.cell? ⟨b, off + 5, none⟩ = some (.int .u8 (s.f : Int)) ∧ w.cell? ⟨b, off + 6, none⟩ = some (.int .u8 (s.g : Int)) ∧ w.cell? ⟨b, off + 7, none⟩ = some (.int .u8 (s.h : Int)) :=
      ⟨g0 0 _ rfl, g0 1 _ rfl, g0 2 _ rfl, g0 3 _ rfl, g0 4 _ rfl, g0 5 _ rfl, g0 6 _ rfl, g0 7 _ rfl⟩
    have hRfg : Reads w w.heap.size 1 (some ⟨b, off + 5, none⟩) 2 (u8s [s.f, s.g]) := by
      refine ⟨rfl, fun _ => ⟨_, rfl, hb, fun j u hu => ?_⟩⟩
      rw [add_plain]
      have hj : j < 2 := (List.getElem?_eq_some_iff.1 hu).1
      rcases (by omega : j = 0 ∨ j = 1) with rfl | rfl
      · exact (show _ = _ from c5).trans hu
      · exact (show _ = _ from c6).trans hu
    have HX := Lib.hid (And.intro hRfg (And.intro hl (And.intro hcells (And.intro hk0 (And.intro hlen hb0)))))
    clear hR hl hcells hk0 hlen hb0 g0 hRfg
    go_enter Try.func18, Try.ntmps18
    go_wp2_with fail
    refine (refNumber_any s _ hs).mono ?_
    rintro e w1 ⟨rfl, hb1⟩
    have hk1 := HX.out.2.2.2.1.below hb1 HX.out.2.2.2.1.lt
    have hbb1 : Below w.heap.size w w1 := HX.out.2.2.2.2.2.trans (hb1.mono HX.out.2.2.2.2.2.size)
    have HW := Lib.hid (And.intro hk1 hbb1)
    have r0 : w1.cell? ⟨w.heap.size, 0, none⟩ = some (.int .i64 0) := hk1.cell 0
    have r1 : w1.cell? ⟨w.heap.size, 1, none⟩ = some (.int .i64 0) := hk1.cell 1
    have r2 : w1.cell? ⟨w.heap.size, 2, none⟩ = some (.slice none 0 0) := hk1.cell 2
    have z0 := hk1.frozen 0
    have z1 := hk1.frozen 1
    have z2 := hk1.frozen 2
    have zl := hk1.lt
    clear hk1 hbb1 hb1
    have hq := Sec.num_lt hs
    by_cases h7 : s.num = 0
    · have hE : decM (s :: l) = .err 7 := by simp only [decM]; rw [if_pos h7]
      have HE := Lib.hid hE
      clear hE
      rw [h7]
      clear h7
      go_wp2_with fail
      have hz9 := ((HW.out.1.set_ 0 (.int .i64 0)).set_ 1 (.int .i64 0)).set_ 2 (.slice none 0 0)
      refine bodyPost_ret (res18 rfl rfl rfl hz9) rfl ?_
      rw [HE.out]
      exact decR_err (((HW.out.2.setCell (p := ⟨w.heap.size, 0, none⟩) (Nat.le_refl _) _).setCell (p := ⟨w.heap.size, 1, none⟩) (Nat.le_refl _) _).setCell (p := ⟨w.heap.size, 2, none⟩) (Nat.le_refl _) _)
    have HQ7 := Lib.hid h7
    have h7' : ((s.num : Int) == 0) = false := by rw [beq_eq_false_iff_ne]; omega
    have h7'' : ¬ s.num = 0 := h7
    clear h7
    obtain ⟨hf, hg⟩ : s.f < 256 ∧ s.g < 256 := by obtain ⟨_, _, _, _, _, h6, h7, _⟩ := hs; exact ⟨h6, h7⟩
    go_wp2_with fail
    refine (get_any 2 3 (some ⟨b, off + 5, none⟩) [s.f, s.g] w1 (by omega) (HX.out.1.up HW.out.2) (by intro x hx; simp at hx; rcases hx with rfl | rfl <;> assumption)).mono ?_
    rintro e w2 ⟨rfl, rfl⟩
    obtain ⟨m, hm⟩ : ∃ m, s.f + 256 * s.g = m := ⟨_, rfl⟩
    rw [ge2, hm]
    have hm16 : m < 65536 := by omega
    have HM := Lib.hid hm
    clear hf hg hm
    by_cases h5 : 4096 < m
    · have HE : Hid (decM (s :: l) = .err 5) := by show _ = _; simp only [decM]; rw [if_neg HQ7.out, HM.out, if_pos h5]
      have h5' : (4096 : Int) < m := by omega
      go_wp2_with fail
      have hz9 := ((HW.out.1.set_ 0 (.int .i64 0)).set_ 1 (.int .i64 0)).set_ 2 (.slice none 0 0)
      refine bodyPost_ret (res18 rfl rfl rfl hz9) rfl ?_
      rw [HE.out]
      exact decR_err (((HW.out.2.setCell (p := ⟨w.heap.size, 0, none⟩) (Nat.le_refl _) _).setCell (p := ⟨w.heap.size, 1, none⟩) (Nat.le_refl _) _).setCell (p := ⟨w.heap.size, 2, none⟩) (Nat.le_refl _) _)
    have h5' : ¬ (4096 : Int) < m := by omega
    go_wp2_with fail
    refine (refSize_in m w1 (by omega)).mono ?_
    rintro e w2 ⟨rfl, rfl⟩
    have hlen := HX.out.2.2.2.2.1
    by_cases h10 : n < szN m
    · have HE : Hid (decM (s :: l) = .err 10) := by show _ = _; simp only [decM]; rw [if_neg HQ7.out, HM.out, if_neg h5, if_pos (by rw [hlen]; exact h10)]
      clear hlen
      go_wp2_with fail
      have hz9 := ((HW.out.1.set_ 0 (.int .i64 0)).set_ 1 (.int .i64 0)).set_ 2 (.slice none 0 0)
      refine bodyPost_ret (res18 rfl rfl rfl hz9) rfl ?_
      rw [HE.out]
      exact decR_err (((HW.out.2.setCell (p := ⟨w.heap.size, 0, none⟩) (Nat.le_refl _) _).setCell (p := ⟨w.heap.size, 1, none⟩) (Nat.le_refl _) _).setCell (p := ⟨w.heap.size, 2, none⟩) (Nat.le_refl _) _)
    have hN2 := szN_pos m
    have HLEN := Lib.hid hlen
    have hmN : m + 7 ≤ 4 * szN m := by unfold szN; omega
    have HDEC : Hid (decM (s :: l) = if ((s :: l).take (szN m)).any (fun x => x.num != s.num) = true then .err 10 else tailM (stOf ((s :: l).take (szN m))) m s.num (szN m)) := by
      show _ = _
      simp only [decM]
      rw [if_neg HQ7.out, HM.out, if_neg h5, if_neg (by rw [hlen]; exact h10)]
    clear hlen
    generalize szN m = N at *
    have hN3 : ¬ (n : Int) < N := by omega
    go_wp2_with fail
    clear r0 r1 r2 z0 z1 z2 zl c0 c1 c2 c3 c4 c5 c6 c7 h7' h5'
    generalize hQ : s.num = q at *
    have HQ := Lib.hid hQ
    clear hQ
    obtain ⟨i0, hi0, hz0, hz1, hz2⟩ := info_parts info5b
    have HI := Lib.hid (And.intro hi0 (And.intro hz0 (And.intro hz1 hz2)))
    clear hi0 hz0 hz1 hz2
    have hw1s := HW.out.1.lt
    go_loopw [8, 9] (fun v i wr => ∃ k : Nat, k ≤ N ∧ i = .int .i64 k ∧ wr.ownsRow (w.heap.size + 1) 5 1 v (4 * k) (u8s (stOf ((s :: l).take k))) ∧ Blk wr w.heap.size 27 #[.int .i64 0, .int .i64 0, .slice none 0 0] ∧ Below w.heap.size w wr ∧ ∀ x ∈ (s :: l).take k, x.num = q) (fun _ i _ => N - (intOf i).toNat)
    case atStart => exact ⟨0, by omega, rfl, by simpa [stOf, u8s] using World.ownsRow_nil w1 (w.heap.size + 1) 5 1, HW.out.1, HW.out.2, by simp⟩
    case round =>
      obtain ⟨k, hk, rfl, hown, hblk, hbel, hsame⟩ := hrel
      have hwr := hblk.lt
      have HK := Lib.hid (And.intro hown (And.intro hblk (And.intro hbel hsame)))
      have r0 : wr.cell? ⟨w.heap.size, 0, none⟩ = some (.int .i64 0) := hblk.cell 0
      have r1 : wr.cell? ⟨w.heap.size, 1, none⟩ = some (.int .i64 0) := hblk.cell 1
      have r2 : wr.cell? ⟨w.heap.size, 2, none⟩ = some (.slice none 0 0) := hblk.cell 2
      have z0 := hblk.frozen 0
      have z1 := hblk.frozen 1
      have z2 := hblk.frozen 2
      have zl := hblk.lt
      clear hown hblk hbel hsame
      by_cases hkn : k < N
      · have hkl : k < (s :: l).length := by rw [HLEN.out]; omega
        have hx := HX.out.2.1 (s :: l)[k] (List.getElem_mem _)
        have hcx := HX.out.2.2.1 k hkl
        have HT : Hid ((s :: l).take (k + 1) = (s :: l).take k ++ [(s :: l)[k]]) := (List.take_append_getElem hkl).symm
        generalize (s :: l)[k] = x at *
        have g9 : ∀ j u, (encS x)[j]? = some u → wr.cell? ⟨b, off + k * 8 + j, none⟩ = some u := fun j u hu => by
          rw [HK.out.2.2.1.cell hb, Nat.add_assoc, Nat.mul_comm k 8]
          exact hcx j u hu
        obtain ⟨d0, d1, d2, d3, d4, d5, d6, d7⟩ : wr.cell? ⟨b, off + k * 8, none⟩ = some (.int .u8 (x.a : Int)) ∧ wr.cell? ⟨b, off + k * 8 + 1, none⟩ = some (.int .u8 (x.b : Int)) ∧ wr.cell? ⟨b, off + k * 8 + 2, none⟩ = some (.int .u8 (x.c : Int)) ∧ wr.cell? ⟨b, off + k * 8 + 3, none⟩ = some (.int .u8 (x.d : Int)) ∧ wr.cell? ⟨b, off + k * 8 + 4, none⟩ = some (.int .u8 (x.e : Int)) ∧ wr.cell? ⟨b, off + k * 8 + 5, none⟩ = some (.int .u8 (x.f : Int)) ∧ wr.cell? ⟨b, off + k * 8 + 6, none⟩ = some (.int .u8 (x.g : Int)) ∧ wr.cell? ⟨b, off + k * 8 + 7, none⟩ = some (.int .u8 (x.h : Int)) :=
          ⟨g9 0 _ rfl, g9 1 _ rfl, g9 2 _ rfl, g9 3 _ rfl, g9 4 _ rfl, g9 5 _ rfl, g9 6 _ rfl, g9 7 _ rfl⟩
        have HG9 := Lib.hid g9
        clear hcx g9
        have hkn' : (k : Int) < N := by omega
        have hkn2 : (k : Int) < n := by omega
        go_wp2_with fail
        refine (refNumber_any x wr hx).mono ?_
        rintro e w5 ⟨rfl, hb5⟩
        have hblk5 := HK.out.2.1.below hb5 HK.out.2.1.lt
        have hbel5 : Below w.heap.size w w5 := HK.out.2.2.1.trans (hb5.mono HK.out.2.2.1.size)
        have hown5 := own_below HK.out.1 hb5
        have hw5 := hblk5.lt
        have HK5 := Lib.hid (And.intro hown5 (And.intro hblk5 hbel5))
        clear r0 r1 r2 z0 z1 z2 zl d0 d1 d2 d3 d4 d5 d6 d7
        have r0 : w5.cell? ⟨w.heap.size, 0, none⟩ = some (.int .i64 0) := hblk5.cell 0
        have r1 : w5.cell? ⟨w.heap.size, 1, none⟩ = some (.int .i64 0) := hblk5.cell 1
        have r2 : w5.cell? ⟨w.heap.size, 2, none⟩ = some (.slice none 0 0) := hblk5.cell 2
        have z0 := hblk5.frozen 0
        have z1 := hblk5.frozen 1
        have z2 := hblk5.frozen 2
        have zl := hblk5.lt
        have hdat : Reads w5 w5.heap.size 1 (some ⟨b, off + k * 8 + 4, none⟩) 4 (u8s x.dat) := by
          refine ⟨rfl, fun _ => ⟨_, rfl, by have := hbel5.size; dsimp only; omega, fun j u hu => ?_⟩⟩
          rw [add_plain, Nat.add_assoc (off + k * 8)]
          have hj : j < 4 := (List.getElem?_eq_some_iff.1 hu).1
          have hbb : b < wr.heap.size := Nat.lt_of_lt_of_le hb HK.out.2.2.1.size
          refine (hb5.cell (p := ⟨b, off + k * 8 + (4 + j), none⟩) hbb).trans (HG9.out (4 + j) u ?_)
          rw [← hu]
          rcases (by omega : j = 0 ∨ j = 1 ∨ j = 2 ∨ j = 3) with rfl | rfl | rfl | rfl <;> rfl
        have HDAT := Lib.hid hdat
        clear hblk5 hbel5 hown5 hdat
        by_cases hxq : x.num = q
        · rw [hxq]
          go_wp2_with (at_builtin; refine wpList_append_any w5 rfl (.tmp 50) (.tmp 54) _ rfl (w.heap.size + 1) 5 i0 _ 1 1 Try.underlying25 HI.out.1 HI.out.2.1 HI.out.2.2.1 HI.out.2.2.2 rfl (by omega) u8 (4 * k) _ rfl HK5.out.1 w5.heap.size (some ⟨b, off + k * 8 + 4, none⟩) 4 4 (u8s x.dat) rfl HDAT.out (u8s_one _) (by simp only [maxLen]; omega) (by omega) (by omega) ?_; intro v6 w6 ho6 hg6 _)
          go_roundw
          case rel =>
            have hbase := own_block_ge HK5.out.1
            refine ⟨k + 1, by omega, by go_num, ?_, HK5.out.2.1.grown hg6 (fun e => by have := hbase _ e.symm; omega), HK5.out.2.2.grown hg6 HK5.out.2.2.size (fun g e => by have := hbase g e; omega), ?_⟩
            · rw [HT.out, stOf_append, u8s_append, Nat.mul_add]
              simpa [stOf] using ho6
            · rw [HT.out]
              intro y hy
              rcases List.mem_append.1 hy with hy | hy
              · exact HK.out.2.2.2 y hy
              · rw [List.mem_singleton.1 hy]
                exact hxq
          case measure => simp [intOf]; omega
        · have HE : Hid (decM (s :: l) = .err 10) := by
            show _ = _
            rw [HDEC.out, if_pos]
            refine List.any_eq_true.2 ⟨x, ?_, by simpa using hxq⟩
            rw [show N = k + 1 + (N - (k + 1)) by omega, List.take_add, HT.out]
            simp
          have hxq' : ((x.num : Int) == (q : Int)) = false := by rw [beq_eq_false_iff_ne]; omega
          go_wp2_with fail
          have hz9 := ((HK5.out.2.1.set_ 0 (.int .i64 0)).set_ 1 (.int .i64 0)).set_ 2 (.slice none 0 0)
          refine bodyPost_ret (res18 rfl rfl rfl hz9) rfl ?_
          rw [HE.out]
          exact decR_err (((HK5.out.2.2.setCell (p := ⟨w.heap.size, 0, none⟩) (Nat.le_refl _) _).setCell (p := ⟨w.heap.size, 1, none⟩) (Nat.le_refl _) _).setCell (p := ⟨w.heap.size, 2, none⟩) (Nat.le_refl _) _)
      · obtain rfl : k = N := by omega
        have hkn' : ¬ (k : Int) < k := by omega
        obtain ⟨g8, c8, cur8, hv8, hg8, hbk8, hc8, hm8, hcs8, htk8⟩ := own_blk HK.out.1 (by omega)
        have hstl : (stOf ((s :: l).take k)).length = 4 * k := by rw [stOf_len, List.length_take, HLEN.out]; omega
        have hrow : Row wr.drew g8 (stOf ((s :: l).take k)) := by
          intro j hj
          rw [hbk8.drew.cell]
          have h1 : (cur8.toList.take (4 * k * 1))[j]? = cur8[j]? := by rw [List.getElem?_take_of_lt (by omega), Array.getElem?_toList]
          rw [← h1, htk8, u8s, List.getElem?_map, List.getElem?_eq_getElem hj, List.getD_eq_getElem?_getD, List.getElem?_eq_getElem hj]
          rfl
        have hall : AllB (stOf ((s :: l).take k)) := by
          intro x hx
          obtain ⟨y, hy, hxy⟩ := List.mem_flatMap.1 hx
          obtain ⟨_, _, _, _, h5, h6, h7, h8⟩ := HX.out.2.1 y (List.mem_of_mem_take hy)
          simp [Sec.dat] at hxy
          rcases hxy with rfl | rfl | rfl | rfl <;> assumption
        have HD2 : Hid (decM (s :: l) = tailM (stOf ((s :: l).take k)) m q k) := by
          show _ = _
          rw [HDEC.out, if_neg]
          intro h
          obtain ⟨x, hx, hne⟩ := List.any_eq_true.1 h
          simp [HK.out.2.2.2 x hx] at hne
        generalize stOf ((s :: l).take k) = st at *
        subst hv8
        have hr1 : Reads wr.drew wr.drew.heap.size 1 (some ⟨g8, 3 + m, none⟩) 4 (u8s ((st.drop (3 + m)).take 4)) := hrow.reads (3 + m) 4 (by omega) _ (fun _ => rfl)
        have hr2 : Reads wr.drew wr.drew.heap.size 1 (some ⟨g8, 0, none⟩) (3 + m) (u8s (st.take (3 + m))) := hrow.reads 0 (3 + m) (by omega) _ (fun _ => rfl)
        have ha1 : AllB ((st.drop (3 + m)).take 4) := fun z hz => hall z (List.mem_of_mem_drop (List.mem_of_mem_take hz))
        have ha2 : AllB (st.take (3 + m)) := fun z hz => hall z (List.mem_of_mem_take hz)
        have hsum := ge_lt ha1
        have hsl : ((st.drop (3 + m)).take 4).length = 4 := by rw [List.length_take, List.length_drop, hstl]; omega
        rw [hsl] at hsum
        have hss := updS_bd _ ha2
        have HG1 := Lib.hid (get_any 4 (c8 - (3 + m)) _ _ _ (by omega) hr1 ha1)
        have HG2 := Lib.hid (refSum_any (3 + m) c8 _ _ _ (by omega) hr2 ha2)
        have HS9 := Lib.hid (And.intro hrow (And.intro hall hstl))
        have HT9 : Hid (tailM st m q k = if ge ((st.drop (3 + m)).take 4) = updS 0 (st.take (3 + m)) then
            if st.getD 0 0 = 0 ∨ (st.drop (7 + m)).any (fun x => x != 0) = true then .err 3 else ⟨0, st.getD 0 0, q, (st.drop 3).take m, k⟩ else .err 9) := rfl
        have hm4 : 7 + m ≤ 4 * k := by omega
        clear hr1 hr2 ha1 ha2 hsl hrow hall hbk8 hcs8 htk8
        generalize ge ((st.drop (3 + m)).take 4) = S1 at *
        generalize updS 0 (st.take (3 + m)) = S2 at *
        have hc4 : 4 * k ≤ c8 := hc8
        obtain ⟨a3, ha3⟩ : ∃ a3, 3 + m = a3 := ⟨_, rfl⟩
        obtain ⟨a7, ha7⟩ : ∃ a7, 7 + m = a7 := ⟨_, rfl⟩
        have hw3 : IntKind.i64.wrap (3 + (m : Int)) = (a3 : Int) := by rw [IntWalk.i64_in _ (by omega)]; omega
        have hw7 : IntKind.i64.wrap (7 + (m : Int)) = (a7 : Int) := by rw [IntWalk.i64_in _ (by omega)]; omega
        have hwS : IntKind.i64.wrap (S2 : Int) = S2 := IntWalk.i64_in _ (by omega)
        have i1' : (a3 : Int) ≤ a7 := by omega
        have i2' : (a7 : Int) ≤ c8 := by omega
        have i3' : (a3 : Int) ≤ c8 := by omega
        have i4' : ¬ c8 = a3 := by omega
        have i5' : a7 - a3 = 4 := by omega
        have i6' : (0 : Int) ≤ a3 := by omega
        have i7' : (0 : Int) ≤ a7 := by omega
        rw [ha3] at HG1 HG2
        have HA := Lib.hid (And.intro ha3 ha7)
        clear ha3 ha7
        have zK := HK.out.2.1.drew
        have zB := HK.out.2.2.1.drew
        have HW9 := Lib.hid (And.intro zK zB)
        have hsz9 : wr.drew.heap.size = wr.heap.size := rfl
        clear zK zB
        go_wp2_with fail
        go_region_held3 (fun w' => w' = wr.drew)
          (first | rfl | assumption)
          (first
            | (go_at_call 33; refine (HG1.out).mono ?_; rintro e w' ⟨rfl, rfl⟩)
            | (go_at_call 28; refine (HG2.out).mono ?_; rintro e w' ⟨rfl, rfl⟩))
        rename_i hS
        clear hS r0 r1 r2 z0 z1 z2 zl
        clear HG1 HG2
        have hblkW := HW9.out.1
        generalize wr.drew = W at *
        have r0 : W.cell? ⟨w.heap.size, 0, none⟩ = some (.int .i64 0) := hblkW.cell 0
        have r1 : W.cell? ⟨w.heap.size, 1, none⟩ = some (.int .i64 0) := hblkW.cell 1
        have r2 : W.cell? ⟨w.heap.size, 2, none⟩ = some (.slice none 0 0) := hblkW.cell 2
        have z0 := hblkW.frozen 0
        have z1 := hblkW.frozen 1
        have z2 := hblkW.frozen 2
        have zl := hblkW.lt
        clear hblkW
        by_cases hsm : S1 = S2
        · have hT1 : Hid (tailM st m q k = if st.getD 0 0 = 0 ∨ (st.drop (7 + m)).any (fun x => x != 0) = true then .err 3 else ⟨0, st.getD 0 0, q, (st.drop 3).take m, k⟩) := by
            show _ = _
            rw [HT9.out, if_pos hsm]
          subst hsm
          clear HT9
          have hsm' : ((S1 : Int) != (S1 : Int)) = false := by simp
          go_wp2_with fail
          go_loopw [10] (fun i W' => ∃ j : Nat, 7 + m ≤ j ∧ j ≤ 4 * k ∧ i = .int .i64 j ∧ W' = W ∧ (st.drop j).any (fun x => x != 0) = (st.drop (7 + m)).any (fun x => x != 0)) (fun i _ => 4 * k - (intOf i).toNat)
          case atStart => exact ⟨7 + m, Nat.le_refl _, hm4, by rw [HA.out.2], rfl, rfl⟩
          case round =>
            obtain ⟨j, hj1, hj2, rfl, rfl, hany⟩ := hrel
            have HANY := Lib.hid hany
            clear hany
            by_cases hj : j < 4 * k
            · have hjl : j < st.length := by rw [HS9.out.2.2]; exact hj
              have dj := HS9.out.1 j hjl
              have HDJ : Hid ((st.drop j).any (fun x => x != 0) = ((st.getD j 0 != 0) || (st.drop (j + 1)).any (fun x => x != 0))) := by
                show _ = _
                rw [List.drop_eq_getElem_cons hjl, List.any_cons, List.getD_eq_getElem?_getD, List.getElem?_eq_getElem hjl]
                rfl
              have hxb := getD_lt HS9.out.2.1 j
              generalize st.getD j 0 = x at *
              have hj9 : (j : Int) < ((4 * k : Nat) : Int) := by omega
              by_cases hx0 : x = 0
              · subst hx0
                go_wp2_with fail
                go_roundw
                case rel => exact ⟨j + 1, by omega, by omega, by go_num, trivial, by rw [← HANY.out, HDJ.out]; simp⟩
                case measure => simp [intOf]; omega
              · have HE : Hid (decM (s :: l) = .err 3) := by
                  show _ = _
                  rw [HD2.out, hT1.out, if_pos (.inr (by rw [← HANY.out, HDJ.out]; simp [hx0]))]
                have hx9 : ((x : Int) == 0) = false := by rw [beq_eq_false_iff_ne]; omega
                go_wp2_with fail
                have hz9 := ((HW9.out.1.set_ 0 (.int .i64 0)).set_ 1 (.int .i64 0)).set_ 2 (.slice none 0 0)
                refine bodyPost_ret (res18 rfl rfl rfl hz9) rfl ?_
                rw [HE.out]
                exact decR_err (((HW9.out.2.setCell (p := ⟨w.heap.size, 0, none⟩) (Nat.le_refl _) _).setCell (p := ⟨w.heap.size, 1, none⟩) (Nat.le_refl _) _).setCell (p := ⟨w.heap.size, 2, none⟩) (Nat.le_refl _) _)
            · obtain rfl : j = 4 * k := by omega
              have hj9 : ¬ (((4 * k : Nat) : Int) < ((4 * k : Nat) : Int)) := by omega
              have HZ0 : Hid ((st.drop (7 + m)).any (fun x => x != 0) = false) := by
                show _ = _
                rw [← HANY.out, List.drop_of_length_le (by rw [HS9.out.2.2]; exact Nat.le_refl _)]
                rfl
              have dj := HS9.out.1 0 (by rw [HS9.out.2.2]; omega)
              have hxb := getD_lt HS9.out.2.1 0
              generalize hx : st.getD 0 0 = x at *
              have HXX := Lib.hid hx
              clear hx
              have hk9 : (0 : Int) < ((4 * k : Nat) : Int) := by omega
              by_cases hx0 : x = 0
              · have HE : Hid (decM (s :: l) = .err 3) := by show _ = _; rw [HD2.out, hT1.out, if_pos (.inl hx0)]
                subst hx0
                go_wp2_with fail
                have hz9 := ((HW9.out.1.set_ 0 (.int .i64 0)).set_ 1 (.int .i64 0)).set_ 2 (.slice none 0 0)
                refine bodyPost_ret (res18 rfl rfl rfl hz9) rfl ?_
                rw [HE.out]
                exact decR_err (((HW9.out.2.setCell (p := ⟨w.heap.size, 0, none⟩) (Nat.le_refl _) _).setCell (p := ⟨w.heap.size, 1, none⟩) (Nat.le_refl _) _).setCell (p := ⟨w.heap.size, 2, none⟩) (Nat.le_refl _) _)
              · have HE : Hid (decM (s :: l) = ⟨0, x, q, (st.drop 3).take m, k⟩) := by
                  show _ = _
                  rw [HD2.out, hT1.out, if_neg]
                  rintro (h | h)
                  · exact hx0 h
                  · rw [HZ0.out] at h; cases h
                have hx9 : ((x : Int) == 0) = false := by rw [beq_eq_false_iff_ne]; omega
                have hrp : Reads wr wr.heap.size 1 (some ⟨g8, 3, none⟩) m (u8s ((st.drop 3).take m)) := HS9.out.1.reads 3 m (by rw [HS9.out.2.2]; omega) _ (fun _ => rfl)
                have hpl : ((st.drop 3).take m).length = m := by rw [List.length_take, List.length_drop, HS9.out.2.2]; omega
                have hg8l := HS9.out.1.lt (by rw [HS9.out.2.2]; omega)
                have HRP := Lib.hid (And.intro hrp (And.intro hpl hg8l))
                have ha3 := HA.out.1
                have j1' : (3 : Int) ≤ a3 := by omega
                have j2' : a3 - 3 = m := by omega
                have j3' : ¬ c8 = 3 := by omega
                clear hrp hpl ha3 r0 r1 r2 z0 z1 z2 zl
                go_wp2_with (at_builtin; refine wpList_append_any wr rfl (.tmp 90) (.tmp 94) _ rfl (w.heap.size + 1) 5 i0 _ 1 1 Try.underlying25 HI.out.1 HI.out.2.1 HI.out.2.2.1 HI.out.2.2.2 rfl (by omega) (.slice none 0 0) 0 [] rfl (World.ownsRow_nil wr (w.heap.size + 1) 5 1) wr.heap.size (some ⟨g8, 3, none⟩) m (c8 - 3) (u8s ((st.drop 3).take m)) rfl HRP.out.1 (u8s_one _) (by simp only [maxLen]; omega) (by omega) (by omega) ?_; intro v6 w6 ho6 hg6 _; obtain ⟨A6, c6, hv6, hc6, hm6, hR6⟩ := own_slice ho6; have hblk6 := HW9.out.1.grown hg6 (by simp [Value.ownBlock]); have hbel6 := HW9.out.2.grown hg6 HW9.out.2.size (by simp [Value.ownBlock]); have hnew6 := own_blk ho6; subst hv6; have dj6 : w6.cell? ⟨g8, 0, none⟩ = some (.int .u8 (x : Int)) := (World.cell?_of_block (hg6.block g8 hg8l (by simp [Value.ownBlock]))).trans dj; have r0 : w6.cell? ⟨w.heap.size, 0, none⟩ = some (.int .i64 0) := hblk6.cell 0; have r1 : w6.cell? ⟨w.heap.size, 1, none⟩ = some (.int .i64 0) := hblk6.cell 1; have r2 : w6.cell? ⟨w.heap.size, 2, none⟩ = some (.slice none 0 0) := hblk6.cell 2; have z0 := hblk6.frozen 0; have z1 := hblk6.frozen 1; have z2 := hblk6.frozen 2; have zl := hblk6.lt; have H6 := Lib.hid (And.intro hblk6 (And.intro hbel6 (And.intro hR6 (And.intro hc6 (And.intro hm6 hnew6))))); clear hblk6 hbel6 hR6 hc6 hm6 hnew6 ho6 hg6)
                obtain ⟨hblk6, hbel6, hR6, hc6, hm6, hnew6⟩ := H6.out
                rw [Nat.zero_add] at hc6
                rw [Nat.zero_add, List.nil_append] at hR6
                have hz9 := ((hblk6.set_ 0 (.int .i64 (x : Nat))).set_ 1 (.int .i64 (q : Nat))).set_ 2 (.slice A6 m c6)
                refine bodyPost_ret (res18 rfl rfl rfl hz9) rfl ?_
                rw [HE.out]
                have hpl := HRP.out.2.1
                have hnew : ∀ ad, 0 < m → A6 = some ad → w.heap.size < ad.block := by
                  intro ad h0 e
                  obtain ⟨g, cap, cur, hv, hg, _⟩ := hnew6 (by omega)
                  rw [e] at hv
                  injection hv with h1
                  injection h1 with h1
                  rw [h1]
                  dsimp only
                  omega
                refine ⟨((hbel6.setCell (p := ⟨w.heap.size, 0, none⟩) (Nat.le_refl _) _).setCell (p := ⟨w.heap.size, 1, none⟩) (Nat.le_refl _) _).setCell (p := ⟨w.heap.size, 2, none⟩) (Nat.le_refl _) _, A6, c6, by dsimp only; rw [hpl]; rfl, ?_, by dsimp only; rw [hpl]; exact hc6, hm6, fun ad h0 e => Nat.le_of_lt (hnew ad (by dsimp only at h0; rw [hpl] at h0; exact h0) e)⟩
                dsimp only
                rw [hpl]
                refine ⟨hR6.1, fun h0 => ?_⟩
                obtain ⟨ad, e1, e2, e3⟩ := hR6.2 h0
                have hne : w.heap.size ≠ ad.block := Nat.ne_of_lt (hnew ad h0 e1)
                refine ⟨ad, e1, by simpa using e2, fun j u hu => ?_⟩
                rw [World.cell?_setCell_other _ _ _ _ (fun e => hne (by rw [← block_of_add ad j, ← e])), World.cell?_setCell_other _ _ _ _ (fun e => hne (by rw [← block_of_add ad j, ← e])), World.cell?_setCell_other _ _ _ _ (fun e => hne (by rw [← block_of_add ad j, ← e]))]
                exact e3 j u hu
        · have HE : Hid (decM (s :: l) = .err 9) := by show _ = _; rw [HD2.out, HT9.out, if_neg hsm]
          have hsm' : ((S1 : Int) != (S2 : Int)) = true := by rw [bne_iff_ne]; omega
          go_wp2_with fail
          have hz9 := ((HW9.out.1.set_ 0 (.int .i64 0)).set_ 1 (.int .i64 0)).set_ 2 (.slice none 0 0)
          refine bodyPost_ret (res18 rfl rfl rfl hz9) rfl ?_
          rw [HE.out]
          exact decR_err (((HW9.out.2.setCell (p := ⟨w.heap.size, 0, none⟩) (Nat.le_refl _) _).setCell (p := ⟨w.heap.size, 1, none⟩) (Nat.le_refl _) _).setCell (p := ⟨w.heap.size, 2, none⟩) (Nat.le_refl _) _)
end Go.Proofs.Ytbiiahbhgjjhgaa
