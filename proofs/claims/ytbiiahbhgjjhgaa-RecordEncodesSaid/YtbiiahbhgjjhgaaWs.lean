/- The walk of the reference's Encode. No condition. -/
import Derived.Test.YtbiiahbhgjjhgaaWr
import Derived.Test.YtbiiahbhgjjhgaaWn
import Derived.Test.YtbiiahbhgjjhgaaLibP
import Derived.Test.YtbiiahbhgjjhgaaLibX
namespace Go.Proofs.Ytbiiahbhgjjhgaa
open Go.RowKit
set_option maxHeartbeats 1000000 in
theorem refEncode_bad (k q : Int) (n c : Nat) (A : Option Addr) (w : World) (h : badK k q = true) :
    Calls Try.prog 15 #[.agg #[.int .i64 k, .int .i64 q, .slice A n c]] w (EncRes w (2, [])) := by
  have h' : k < 1 ∨ 255 < k ∨ q < 1 ∨ 4294967295 < q := of_decide_eq_true h
  clear h
  by_cases h1 : k < 1
  · clear h'
    go_enter Try.func15, Try.ntmps15
    go_wp2_with fail
    refine bodyPost_ret (v := .tuple #[.slice none 0 0, .int .i64 2]) (by simp [results, Try.results15]) rfl ?_
    exact encRes_err ((Below.refl _ _).alloc (Nat.le_refl _) _)
  by_cases h2 : 255 < k
  · clear h'
    go_enter Try.func15, Try.ntmps15
    go_wp2_with fail
    refine bodyPost_ret (v := .tuple #[.slice none 0 0, .int .i64 2]) (by simp [results, Try.results15]) rfl ?_
    exact encRes_err ((Below.refl _ _).alloc (Nat.le_refl _) _)
  by_cases h3 : q < 1
  · clear h'
    go_enter Try.func15, Try.ntmps15
    go_wp2_with fail
    refine bodyPost_ret (v := .tuple #[.slice none 0 0, .int .i64 2]) (by simp [results, Try.results15]) rfl ?_
    exact encRes_err ((Below.refl _ _).alloc (Nat.le_refl _) _)
  have h4 : 4294967295 < q := by omega
  · clear h'
    go_enter Try.func15, Try.ntmps15
    go_wp2_with fail
    refine bodyPost_ret (v := .tuple #[.slice none 0 0, .int .i64 2]) (by simp [results, Try.results15]) rfl ?_
    exact encRes_err ((Below.refl _ _).alloc (Nat.le_refl _) _)
theorem refEncode_long (k q : Int) (n c : Nat) (A : Option Addr) (w : World) (h : badK k q = false) (hn : 4096 < n) :
    Calls Try.prog 15 #[.agg #[.int .i64 k, .int .i64 q, .slice A n c]] w (EncRes w (5, [])) := by
  have h' : ¬ (k < 1 ∨ 255 < k ∨ q < 1 ∨ 4294967295 < q) := of_decide_eq_false h
  have h1 : ¬ k < 1 := by omega
  have h2 : ¬ 255 < k := by omega
  have h3 : ¬ q < 1 := by omega
  have h4 : ¬ 4294967295 < q := by omega
  have h5 : (4096 : Int) < n := by omega
  clear h h'
  · go_enter Try.func15, Try.ntmps15
    go_wp2_with fail
    refine bodyPost_ret (v := .tuple #[.slice none 0 0, .int .i64 5]) (by simp [results, Try.results15]) rfl ?_
    exact encRes_err ((Below.refl _ _).alloc (Nat.le_refl _) _)
theorem four_take (st : List Nat) (m : Nat) (h : m + 4 ≤ st.length) : (st.drop m).take 4 = [st.getD m 0, st.getD (m + 1) 0, st.getD (m + 2) 0, st.getD (m + 3) 0] := by
  apply List.ext_getElem
  · simp; omega
  · intro i h1 h2
    rw [List.getElem_take, List.getElem_drop]
    simp only [List.length_cons, List.length_nil, Nat.zero_add, Nat.reduceAdd] at h2
    have h2' : i = 0 ∨ i = 1 ∨ i = 2 ∨ i = 3 := by omega
    have gd : ∀ j (hj : j < st.length), st.getD j 0 = st[j] := fun j hj => by rw [List.getD_eq_getElem?_getD, List.getElem?_eq_getElem hj]; rfl
    rw [gd m (by omega), gd (m + 1) (by omega), gd (m + 2) (by omega), gd (m + 3) (by omega)]
    rcases h2' with rfl | rfl | rfl | rfl <;> rfl
theorem secR_pad (q : Nat) (st : List Nat) (m i : Nat) : secR q (st ++ List.replicate m 0) i = secR q st i := by
  have e : ∀ j, (st ++ List.replicate m 0).getD j 0 = st.getD j 0 := by
    intro j
    rw [List.getD_eq_getElem?_getD, List.getD_eq_getElem?_getD]
    by_cases c : j < st.length
    · rw [List.getElem?_append_left c]
    · rw [List.getElem?_append_right (by omega), List.getElem?_replicate, List.getElem?_eq_none (by omega)]
      split <;> rfl
  unfold secR
  rw [e, e, e, e]
theorem secs_pad (q : Nat) (st : List Nat) (m n : Nat) : secsR q (st ++ List.replicate m 0) n = secsR q st n := by
  unfold secsR
  apply List.map_congr_left
  intro i _
  exact secR_pad q st m i
theorem secs_succ (q : Nat) (st : List Nat) (n : Nat) : secsR q st (n + 1) = secsR q st n ++ [secR q st n] := by simp [secsR, List.range_succ]
theorem sec_u8s (q : Nat) (st : List Nat) (j : Nat) (h : 4 * j + 4 ≤ st.length) : u8s (le q 4 ++ (st.drop (4 * j)).take 4) = encS (secR q st j) := by
  rw [four_take _ _ h, le4]
  rfl
theorem four_ {j : Nat} (h : j < 4) : j = 0 ∨ j = 1 ∨ j = 2 ∨ j = 3 := by omega
theorem encS_at (x : Sec) {i : Nat} (h : i < 8) : ∃ z : Nat, (encS x)[i]? = some (.int .u8 (z : Int)) := by
  have h8 : i = 0 ∨ i = 1 ∨ i = 2 ∨ i = 3 ∨ i = 4 ∨ i = 5 ∨ i = 6 ∨ i = 7 := by omega
  rcases h8 with rfl | rfl | rfl | rfl | rfl | rfl | rfl | rfl <;> exact ⟨_, rfl⟩
theorem flat_snoc {w : World} {base jj : Nat} {v : Value} {x : Sec} {q : Nat} {st : List Nat} (h : secsR q st (jj + 1) = secsR q st jj ++ [x]) (ho : w.ownsRow base 47 8 v (jj + 1) ((secsR q st jj).flatMap encS ++ [.int .u8 (x.a : Int), .int .u8 (x.b : Int), .int .u8 (x.c : Int), .int .u8 (x.d : Int), .int .u8 (x.e : Int), .int .u8 (x.f : Int), .int .u8 (x.g : Int), .int .u8 (x.h : Int)])) : w.ownsRow base 47 8 v (jj + 1) ((secsR q st (jj + 1)).flatMap encS) := by
  rw [h, List.flatMap_append]
  have e : [x].flatMap encS = encS x := by simp
  rw [e]
  exact ho
def sliceLen : Value → Nat
  | .slice _ n _ => n
  | _ => 0
set_option maxRecDepth 100000 in
set_option maxHeartbeats 2000000 in
set_option linter.unusedSimpArgs false in
theorem refEncode_in (k q n c : Nat) (A : Option Addr) (p : List Nat) (w : World) (hk0 : 0 < k) (hk : k < 256) (hq0 : 0 < q) (hq : q < 4294967296) (hR : Reads w w.heap.size 1 A n (u8s p)) (hn : n ≤ 4096) (hp : AllB p) :
    Calls Try.prog 15 #[.agg #[.int .i64 k, .int .i64 q, .slice A n c]] w fun e w' => (∃ A' c', e = .returned (.tuple #[.slice A' (szN n) c', .int .i64 0]) ∧ Reads w' w'.heap.size 8 A' (szN n) ((encR k q p).flatMap encS) ∧ szN n ≤ c' ∧ c' ≤ maxLen) ∧ Below w.heap.size w w' := by
  have hlen : p.length = n := by have := hR.1; rw [u8s_len] at this; omega
  obtain ⟨i0, hi0, hz0, hz1, hz2⟩ := info_parts info5b
  have HI := Lib.hid (And.intro hi0 (And.intro hz0 (And.intro hz1 hz2)))
  obtain ⟨i7, hi7, hy0, hy1, hy2⟩ := info_parts info47b
  have HI7 := Lib.hid (And.intro hi7 (And.intro hy0 (And.intro hy1 hy2)))
  have HP := Lib.hid (And.intro hlen (And.intro hR hp))
  clear hi0 hz0 hz1 hz2 hi7 hy0 hy1 hy2 hlen hR hp
  have k1 : ¬ (k : Int) < 1 := by omega
  have k2 : ¬ (255 : Int) < k := by omega
  have k3 : ¬ (q : Int) < 1 := by omega
  have k4 : ¬ (4294967295 : Int) < q := by omega
  have k5 : ¬ (4096 : Int) < n := by omega
  go_enter Try.func15, Try.ntmps15
  go_wp2_with fail
  have hbl : Blk (w.alloc (.cells #[.int .i64 k, .int .i64 q, .slice A n c] 27)) w.heap.size 27 #[.int .i64 k, .int .i64 q, .slice A n c] := Blk.new w 27 _
  have hbw : Below w.heap.size w (w.alloc (.cells #[.int .i64 k, .int .i64 q, .slice A n c] 27)) := (Below.refl _ w).alloc (Nat.le_refl _) _
  have hsX : (w.alloc (.cells #[.int .i64 k, .int .i64 q, .slice A n c] 27)).heap.size = w.heap.size + 1 := by simp
  generalize (w.alloc (.cells #[.int .i64 k, .int .i64 q, .slice A n c] 27)) = W at *
  have HB := Lib.hid (And.intro hbl hbw)
  clear hbl hbw
  refine (put_any (.slice none 0 0) W.heap.size [] k 1 W (World.ownsRow_nil _ _ _ _) (Nat.le_refl _) (by simp) (by omega)).mono ?_
  rintro e w1 ⟨⟨u1, rfl, ho1⟩, hb1⟩
  simp only [List.length_nil, Nat.zero_add, List.nil_append] at ho1
  have B1 := HB.out.1.below hb1 HB.out.1.lt
  have c0 : w1.cell? ⟨w.heap.size, 0, none⟩ = some (.int .i64 k) := B1.cell 0
  have c1 : w1.cell? ⟨w.heap.size, 1, none⟩ = some (.int .i64 q) := B1.cell 1
  have c2 : w1.cell? ⟨w.heap.size, 2, none⟩ = some (.slice A n c) := B1.cell 2
  have H1 := Lib.hid (And.intro ho1 hb1)
  clear ho1 hb1 B1
  go_wp2_with fail
  refine (put_any u1 W.heap.size (le k 1) n 2 w1 (by rw [le_len]; exact H1.out.1) H1.out.2.size (by rw [le_len]; omega) (by omega)).mono ?_
  rintro e w2 ⟨⟨u2, rfl, ho2⟩, hb2⟩
  rw [le_len] at ho2
  have hb2' := H1.out.2.trans hb2
  have B2 := HB.out.1.below hb2' HB.out.1.lt
  have c0 : w2.cell? ⟨w.heap.size, 0, none⟩ = some (.int .i64 k) := B2.cell 0
  have c1 : w2.cell? ⟨w.heap.size, 1, none⟩ = some (.int .i64 q) := B2.cell 1
  have c2 : w2.cell? ⟨w.heap.size, 2, none⟩ = some (.slice A n c) := B2.cell 2
  have H2 := Lib.hid (And.intro ho2 hb2')
  clear ho2 hb2 hb2' B2
  go_wp2_with (at_builtin; go_must (refine wpList_append_any w2 rfl (.tmp 40) (.tmp 42) _ rfl W.heap.size 5 i0 _ 1 1 Try.underlying25 HI.out.1 HI.out.2.1 HI.out.2.2.1 HI.out.2.2.2 rfl (by omega) u2 3 (u8s (le k 1 ++ le n 2)) rfl H2.out.1 w.heap.size A n c (u8s p) rfl (Reads.below HP.out.2.1 (HB.out.2.trans (H2.out.2.mono HB.out.2.size))) (u8s_one _) (by simp only [maxLen]; omega) (by omega) H2.out.2.size ?_; intro v3 w3 ho3 hg3 _; have hb3 : Below W.heap.size W w3 := H2.out.2.grown hg3 H2.out.2.size (own_block_ge H2.out.1); obtain ⟨A3, c3, hv3, hc3, hm3, hR3⟩ := own_slice ho3; subst hv3; have H3 := Lib.hid (And.intro ho3 (And.intro hb3 (And.intro hR3 hc3))); clear ho3 hb3 hR3 hc3 hg3))
  have hbd : AllB (bodyR k p) := body_lt hk HP.out.2.2
  have heq : u8s (le k 1 ++ le n 2) ++ u8s p = u8s (bodyR k p) := by
    have e : le k 1 = [k] := by simp [le]; omega
    rw [← u8s_append, e, ← HP.out.1]
    rfl
  have hl3 : (bodyR k p).length = 3 + n := by rw [body_len, HP.out.1]; omega
  have HE := Lib.hid (And.intro hbd (And.intro heq hl3))
  clear heq hl3 hbd
  have hR3 := H3.out.2.2.1
  rw [HE.out.2.1] at hR3
  refine (refSum_any (3 + n) c3 A3 (bodyR k p) w3 (by omega) hR3 HE.out.1).mono ?_
  rintro e w4 ⟨rfl, rfl⟩
  have hS := updS_bd _ HE.out.1
  have HST : Hid (strmR k p = bodyR k p ++ le (updS 0 (bodyR k p)) 4) := rfl
  have hstl := strm_len k p
  rw [HP.out.1] at hstl
  have hstb := strm_lt hk HP.out.2.2
  generalize updS 0 (bodyR k p) = S1 at *
  have HSL := Lib.hid (And.intro hstl hstb)
  clear hR3 hstl hstb
  go_wp2_with fail
  have ho3 := H3.out.1
  rw [HE.out.2.1, show 3 + n = (bodyR k p).length from HE.out.2.2.symm] at ho3
  rw [show 3 + n = (bodyR k p).length from HE.out.2.2.symm]
  refine (put_any _ W.heap.size (bodyR k p) S1 4 w3 ho3 H3.out.2.1.size (by rw [HE.out.2.2]; omega) (by omega)).mono ?_
  rintro e w5 ⟨⟨u5, rfl, ho5⟩, hb5⟩
  rw [← HST.out, HE.out.2.2] at ho5
  have hb5' := H3.out.2.1.trans hb5
  have H5 := Lib.hid (And.intro ho5 hb5')
  rw [show (bodyR k p).length = 3 + n from HE.out.2.2]
  clear ho3 ho5 hb5 hb5'
  have HB1 := HB.out.1.lt
  go_wp2_with fail
  go_loopw [4] (fun v wr => ∃ j : Nat, 7 + n + j ≤ 4 * szN n ∧ wr.ownsRow W.heap.size 5 1 v (7 + n + j) (u8s (strmR k p ++ List.replicate j 0)) ∧ Below W.heap.size W wr) (fun v _ => 4 * szN n - sliceLen v)
  case atStart => exact ⟨0, by unfold szN; omega, by rw [List.replicate_zero, List.append_nil]; simpa [show 3 + n + 4 = 7 + n by omega] using H5.out.1, H5.out.2⟩
  case round =>
    obtain ⟨j, hj, ho, hb⟩ := hrel
    obtain ⟨A6, c6, rfl, hc6, hm6, hR6⟩ := own_slice ho
    have HO := Lib.hid (And.intro ho (And.intro hb hR6))
    clear ho hb hR6
    have hszn : 4 * szN n ≤ n + 10 ∧ n + 7 ≤ 4 * szN n := by unfold szN; omega
    obtain ⟨m, hm⟩ : ∃ m, 7 + n + j = m := ⟨_, rfl⟩
    have hmb : m ≤ 5000 := by omega
    have hm0 : 0 < m := by omega
    by_cases hm4 : m % 4 = 0
    · have hm4' : (m : Int) % 4 = 0 := by omega
      have hmN : m = 4 * szN n := by omega
      rw [hm] at HO ⊢
      have HMN := Lib.hid (And.intro hm hmN)
      clear hm hmN hm4 hj
      obtain ⟨g, cap, cur, hv, hbg, hB6, hnc6, hcm6', hcs6, hct6⟩ := own_blk HO.out.1 hm0
      injection hv with e1 e2 e3
      subst e1 e3
      obtain ⟨N, hN⟩ : ∃ N, szN n = N := ⟨_, rfl⟩
      have hN4 : m = 4 * N := by have := HMN.out.2; omega
      obtain ⟨st, hst⟩ : ∃ st, strmR k p ++ List.replicate j 0 = st := ⟨_, rfl⟩
      have hstl : st.length = 4 * N := by
        rw [← hst, List.length_append, List.length_replicate, HSL.out.1]
        have := HMN.out.1
        omega
      have hsec : secsR q st N = encR k q p := by
        rw [← hst, secs_pad, ← hN, ← HP.out.1]
        rfl
      have hstc : ∀ i, i < 4 * N → wr.cell? ⟨g, i, none⟩ = some (.int .u8 (st.getD i 0 : Nat)) := by
        intro i hi
        rw [hB6.cell]
        have e : (cur.toList.take (m * 1))[i]? = some (.int .u8 (st.getD i 0 : Nat)) := by
          rw [hct6, hst, List.getD_eq_getElem?_getD, List.getElem?_eq_getElem (show i < st.length by omega)]
          simp [u8s, List.getElem?_eq_getElem (show i < st.length by omega)]
        rw [List.getElem?_take_of_lt (by omega)] at e
        simpa using e
      have hgl := hB6.lt
      have B6 := HB.out.1.below HO.out.2.1 HB.out.1.lt
      have hbw6 : Below w.heap.size w wr := HB.out.2.trans (HO.out.2.1.mono HB.out.2.size)
      have H6 := Lib.hid (And.intro hst (And.intro hstl (And.intro hsec (And.intro hstc (And.intro B6 (And.intro hbw6 hN))))))
      have hN40 : 4 * N ≤ 5000 := by omega
      have hNcap : 4 * N ≤ c6 := by omega
      have HMN2 := Lib.hid hN4
      rw [hN4]
      clear hst hstl hsec hstc B6 hbw6 hN hN4 hB6 hct6 hcs6 hszn hm4' hmb
      go_wp2_with fail
      generalize wr = w6 at *
      go_loopw [5, 6, 7, 8, 9] (fun v i _ _ _ W => ∃ j : Nat, j ≤ N ∧ i = .int .i64 (4 * j : Nat) ∧ W.ownsRow w6.heap.size 47 8 v j ((secsR q st j).flatMap encS) ∧ Below w6.heap.size w6 W) (fun _ i _ _ _ _ => N - (intOf i).toNat / 4)
      case atStart => exact ⟨0, by omega, rfl, World.ownsRow_nil _ _ _ _, Below.refl _ _⟩
      case round =>
        obtain ⟨jj, hjj, rfl, ho, hb⟩ := hrel
        generalize wr = wq at *
        have c1 : wq.cell? ⟨w.heap.size, 1, none⟩ = some (.int .i64 q) := (H6.out.2.2.2.2.1.below hb H6.out.2.2.2.2.1.lt).cell 1
        by_cases hlt : jj < N
        · obtain ⟨a, ha⟩ : ∃ a, 4 * jj = a := ⟨_, rfl⟩
          have ha4 : a + 4 ≤ 4 * N := by omega
          have hst4 : ∀ i, i < 4 → wq.cell? ⟨g, a + i, none⟩ = some (.int .u8 (st.getD (a + i) 0 : Nat)) := fun i hi => (hb.cell (p := ⟨g, _, none⟩) hgl).trans (H6.out.2.2.2.1 (a + i) (by omega))
          have HO9 := Lib.hid (And.intro ho (And.intro hb (And.intro ha hst4)))
          have hsw := hb.size
          rw [ha]
          clear ho hb ha hst4
          have p1 : ((a : Nat) : Int) < 4 * (N : Nat) := by omega
          obtain ⟨a4, ha4'⟩ : ∃ a4, a + 4 = a4 := ⟨_, rfl⟩
          have p0 : IntKind.i64.wrap ((a : Nat) + 4 : Int) = ((a4 : Nat) : Int) := by rw [IntWalk.i64_in _ (by omega)]; omega
          have p2 : ((a4 : Nat) : Int) ≤ c6 := by omega
          have p4 : a ≤ a4 := by omega
          have HA4 := Lib.hid ha4'
          clear ha4'
          have p3 : ¬ c6 = a := by omega
          go_upto_region 15 with fail
          refine wp_pan (Pc := fun _ _ _ => False) (fun _ _ _ h => h.elim) ?_
          refine wp_region_tail_lit (S := fun V => V.cell? ⟨w.heap.size, 1, none⟩ = some (.int .i64 q)) 8 (by kernel_rfl) (by kernel_rfl) c1 (fun hHeld => ?_)
          simp only [List.take, List.drop]
          refine wpAnyH_take (i := 0) (oi := _) (v := ?_) rfl (by kernel_rfl) (by kernel_rfl) (by kernel_rfl) (fun _ _ _ h => h) (Or.inl ⟨by rfl, ?_⟩) (by assumption) ?_
          rotate_left 1
          · (intro w9 hS9; (try dsimp only at hS9); go_simp <;> with_reducible rfl)
          try simp only [List.getElem_toArray, List.getElem_cons_succ, List.getElem_cons_zero, Act.put, List.setIfInBounds_toArray, List.set_cons_zero, List.set_cons_succ]
          refine wpAnyH_take (i := 1) (oi := _) (v := ?_) rfl (by kernel_rfl) (by kernel_rfl) (by kernel_rfl) (fun _ _ _ h => h) (Or.inl ⟨by rfl, ?_⟩) (by assumption) ?_
          rotate_left 1
          · (intro w9 hS9; (try dsimp only at hS9); go_simp <;> with_reducible rfl)
          try simp only [List.getElem_toArray, List.getElem_cons_succ, List.getElem_cons_zero, Act.put, List.setIfInBounds_toArray, List.set_cons_zero, List.set_cons_succ]
          refine wpAnyH_take (i := 3) (oi := _) (v := ?_) rfl (by kernel_rfl) (by kernel_rfl) (by kernel_rfl) (fun _ _ _ h => h) (Or.inl ⟨by rfl, ?_⟩) (by assumption) ?_
          rotate_left 1
          · (intro w9 hS9; (try dsimp only at hS9); go_simp <;> with_reducible rfl)
          try simp only [List.getElem_toArray, List.getElem_cons_succ, List.getElem_cons_zero, Act.put, List.setIfInBounds_toArray, List.set_cons_zero, List.set_cons_succ]
          refine wpAnyH_take (i := 4) (oi := _) (v := ?_) rfl (by kernel_rfl) (by kernel_rfl) (by kernel_rfl) (fun _ _ _ h => h) (Or.inl ⟨by rfl, ?_⟩) (by assumption) ?_
          rotate_left 1
          · (intro w9 hS9; (try dsimp only at hS9); go_simp <;> with_reducible rfl)
          try simp only [List.getElem_toArray, List.getElem_cons_succ, List.getElem_cons_zero, Act.put, List.setIfInBounds_toArray, List.set_cons_zero, List.set_cons_succ]
          refine wpAnyH_take (i := 5) (oi := _) (v := ?_) rfl (by kernel_rfl) (by kernel_rfl) (by kernel_rfl) (fun _ _ _ h => h) (Or.inl ⟨by rfl, ?_⟩) (by assumption) ?_
          rotate_left 1
          · (intro w9 hS9; (try dsimp only at hS9); go_simp <;> with_reducible rfl)
          try simp only [List.getElem_toArray, List.getElem_cons_succ, List.getElem_cons_zero, Act.put, List.setIfInBounds_toArray, List.set_cons_zero, List.set_cons_succ]
          refine wpAnyH_take (i := 6) (oi := _) (v := ?_) rfl (by kernel_rfl) (by kernel_rfl) (by kernel_rfl) (fun _ _ _ h => h) (Or.inl ⟨by rfl, ?_⟩) (by assumption) ?_
          rotate_left 1
          · (intro w9 hS9; (try dsimp only at hS9); go_simp <;> with_reducible rfl)
          try simp only [List.getElem_toArray, List.getElem_cons_succ, List.getElem_cons_zero, Act.put, List.setIfInBounds_toArray, List.set_cons_zero, List.set_cons_succ]
          refine wpAnyH_take (i := 7) (oi := _) (v := ?_) rfl (by kernel_rfl) (by kernel_rfl) (by kernel_rfl) (fun _ _ _ h => h) (Or.inl ⟨by rfl, ?_⟩) (by assumption) ?_
          rotate_left 1
          · (intro w9 hS9; (try dsimp only at hS9); go_simp <;> with_reducible rfl)
          try simp only [List.getElem_toArray, List.getElem_cons_succ, List.getElem_cons_zero, Act.put, List.setIfInBounds_toArray, List.set_cons_zero, List.set_cons_succ]
          have hRt : ∀ V, Below wq.heap.size wq V → Reads V V.heap.size 1 (some ⟨g, a, none⟩) (a4 - a) (u8s ((st.drop a).take 4)) := by
            intro V hV
            have h4 := HA4.out
            refine ⟨by rw [u8s_len, List.length_take, List.length_drop, H6.out.2.1]; omega, fun _ => ⟨_, rfl, by have := hV.size; show g < _; omega, fun j u hu => ?_⟩⟩
            rw [four_take _ _ (by rw [H6.out.2.1]; omega)] at hu
            have hj : j < 4 := by
              have := (List.getElem?_eq_some_iff.1 hu).1
              simpa [u8s] using this
            rw [add_plain]
            have h7 := (hV.cell (p := ⟨g, a + j, none⟩) (by show g < _; omega)).trans (HO9.out.2.2.2 j hj)
            rw [h7, ← hu]
            rcases four_ hj with rfl | rfl | rfl | rfl <;> rfl
          have HRt := Lib.hid hRt
          clear hRt
          refine wpAnyH_ready (rs := [2]) (by kernel_rfl) (by simp) ?_
          refine AllReadyH.cons (o := _) rfl (fun K hK => ?_) AllReadyH.nil
          try simp only [List.getElem_toArray, List.getElem_cons_succ, List.getElem_cons_zero]
          go_simp
          refine (put_any (.slice none 0 0) wq.heap.size [] q 4 wq.drew (World.ownsRow_nil _ _ _ _) (Nat.le_refl _) (by simp) (by omega)).mono ?_
          rintro e w7 ⟨⟨u7, rfl, ho7⟩, hb7'⟩
          simp only [List.length_nil, Nat.zero_add, List.nil_append] at ho7
          have hb7 : Below wq.heap.size wq w7 := (Below.refl _ wq).drew.trans hb7'
          have hs7 := hb7.size
          go_wp2_with fail
          refine hK.out _ _ ((hb7.cell (p := ⟨w.heap.size, 1, none⟩) (by have := H6.out.2.2.2.2.1.lt; show w.heap.size < _; omega)).trans c1) (fun hHeld => ?_)
          clear hK K
          try simp only [List.getElem_toArray, List.getElem_cons_succ, List.getElem_cons_zero, Act.put, List.setIfInBounds_toArray, List.set_cons_zero, List.set_cons_succ]
          refine wpAnyH_done (by kernel_rfl) ?_ _
          refine tailQ_step rfl ?_
          have H7 := Lib.hid (And.intro ho7 hb7)
          clear ho7 hb7 hb7'
          go_wp2_with (at_builtin; go_must (refine wpList_append_any w7 rfl (.tmp 64) (.tmp 69) _ rfl wq.heap.size 5 i0 _ 1 1 Try.underlying25 HI.out.1 HI.out.2.1 HI.out.2.2.1 HI.out.2.2.2 rfl (by omega) u7 4 (u8s (le q 4)) rfl H7.out.1 w7.heap.size (some ⟨g, a, none⟩) (a4 - a) (c6 - a) (u8s ((st.drop a).take 4)) rfl (HRt.out w7 H7.out.2) (u8s_one _) (by have := HA4.out; simp only [maxLen]; omega) (by have := HA4.out; omega) H7.out.2.size ?_; intro v8 w8 ho8 hg8 _))
          have hb8 : Below wq.heap.size wq w8 := H7.out.2.grown hg8 H7.out.2.size (own_block_ge H7.out.1)
          rw [show 4 + (a4 - a) = 8 by have := HA4.out; omega, ← u8s_append, ← HO9.out.2.2.1, sec_u8s q st jj (by rw [H6.out.2.1]; omega)] at ho8
          obtain ⟨gb, cb, curb, hv8, hgb, hB8, hn8, hm8, hs8, ht8⟩ := own_blk ho8 (by omega)
          subst hv8
          have HX : Hid (secsR q st (jj + 1) = secsR q st jj ++ [secR q st jj]) := secs_succ q st jj
          generalize secR q st jj = x at *
          have hcb : ∀ i u, (encS x)[i]? = some u → w8.cell? ⟨gb, i, none⟩ = some u := by
            intro i u hu
            have hi : i < 8 := by have := (List.getElem?_eq_some_iff.1 hu).1; rw [encS_len] at this; exact this
            rw [hB8.cell]
            rw [← ht8, List.getElem?_take_of_lt (by omega)] at hu
            simpa using hu
          have hs8' := hb8.size
          have hgb8 := hB8.lt
          have H8 := Lib.hid (And.intro hb8 hcb)
          clear ho8 hg8 hB8 hs8 ht8 hb8 hcb
          refine tailQ_step rfl ?_
          go_wp2_with fail
          refine tailQ_nil (panQ_normal ?_)
          go_wp2_with fail
          have hzz : Blk (w8.alloc (.cells #[.int .u8 0, .int .u8 0, .int .u8 0, .int .u8 0, .int .u8 0, .int .u8 0, .int .u8 0, .int .u8 0] 47)) w8.heap.size 47 #[.int .u8 0, .int .u8 0, .int .u8 0, .int .u8 0, .int .u8 0, .int .u8 0, .int .u8 0, .int .u8 0] := Blk.new _ _ _
          have hbz : Below w8.heap.size w8 (w8.alloc (.cells #[.int .u8 0, .int .u8 0, .int .u8 0, .int .u8 0, .int .u8 0, .int .u8 0, .int .u8 0, .int .u8 0] 47)) := (Below.refl _ _).alloc (Nat.le_refl _) _
          generalize (w8.alloc (.cells #[.int .u8 0, .int .u8 0, .int .u8 0, .int .u8 0, .int .u8 0, .int .u8 0, .int .u8 0, .int .u8 0] 47)) = w9 at *
          have HZ := Lib.hid (And.intro hzz hbz)
          clear hzz hbz
          go_loopw [9] (fun i W => ∃ kq : Nat, kq ≤ 8 ∧ i = .int .i64 kq ∧ ∃ cu, Blk W w8.heap.size 47 cu ∧ cu.size = 8 ∧ (∀ i, i < kq → cu[i]? = (encS x)[i]?) ∧ Below w8.heap.size w8 W) (fun i _ => 8 - (intOf i).toNat)
          case atStart => exact ⟨0, by omega, rfl, _, HZ.out.1, rfl, fun i hi => absurd hi (by omega), HZ.out.2⟩
          case round =>
            obtain ⟨kq, hkq, rfl, cu, hBu, hcu, hce, hbu⟩ := hrel
            by_cases hlt8 : kq < 8
            · obtain ⟨z, hz⟩ := encS_at x hlt8
              have z1 : wr.cell? ⟨gb, kq, none⟩ = some (.int .u8 (z : Int)) := (hbu.cell (p := ⟨gb, kq, none⟩) hgb8).trans (H8.out.2 kq _ hz)
              obtain ⟨u2, z2⟩ : ∃ u2, wr.cell? ⟨w8.heap.size, kq, none⟩ = some u2 := ⟨cu[kq], by rw [hBu.cell, Array.getElem?_eq_getElem]⟩
              have z3 : wr.frozen? ⟨w8.heap.size, kq, none⟩ = false := hBu.frozen _
              have z4 : (kq : Int) < 8 := by omega
              have HU := Lib.hid (And.intro hBu (And.intro hcu (And.intro hce (And.intro hbu hz))))
              clear hBu hcu hce hbu hz
              go_wp2_with fail
              go_roundw
              case rel =>
                obtain ⟨hBu, hcu, hce, hbu, hz⟩ := HU.out
                refine ⟨kq + 1, by omega, by go_num, _, hBu.set_ kq (.int .u8 (z : Int)), by rw [Array.size_setIfInBounds]; exact hcu, fun i hi => ?_, hbu.setCell (p := ⟨w8.heap.size, kq, none⟩) (Nat.le_refl _) _⟩
                rw [Array.getElem?_setIfInBounds]
                by_cases hik : kq = i
                · rw [if_pos hik, if_pos (by omega), ← hik, hz]
                · rw [if_neg hik]
                  exact hce i (by omega)
              case measure => simp [intOf]; omega
            · obtain rfl : kq = 8 := by omega
              have hcx : cu = (encS x).toArray := by
                apply Array.ext_getElem?
                intro i
                rcases Nat.lt_or_ge i 8 with hi | hi
                · rw [hce i hi]
                  simp
                · rw [Array.getElem?_eq_none (by omega), Array.getElem?_eq_none (by simp [encS_len]; omega)]
              subst hcx
              obtain ⟨d0, d1, d2, d3, d4, d5, d6, d7⟩ : wr.cell? ⟨w8.heap.size, 0, none⟩ = some (.int .u8 (x.a : Int)) ∧ wr.cell? ⟨w8.heap.size, 1, none⟩ = some (.int .u8 (x.b : Int)) ∧ wr.cell? ⟨w8.heap.size, 2, none⟩ = some (.int .u8 (x.c : Int)) ∧ wr.cell? ⟨w8.heap.size, 3, none⟩ = some (.int .u8 (x.d : Int)) ∧ wr.cell? ⟨w8.heap.size, 4, none⟩ = some (.int .u8 (x.e : Int)) ∧ wr.cell? ⟨w8.heap.size, 5, none⟩ = some (.int .u8 (x.f : Int)) ∧ wr.cell? ⟨w8.heap.size, 6, none⟩ = some (.int .u8 (x.g : Int)) ∧ wr.cell? ⟨w8.heap.size, 7, none⟩ = some (.int .u8 (x.h : Int)) := ⟨hBu.cell 0, hBu.cell 1, hBu.cell 2, hBu.cell 3, hBu.cell 4, hBu.cell 5, hBu.cell 6, hBu.cell 7⟩
              have hbq : Below wq.heap.size wq wr := H8.out.1.trans (hbu.mono H8.out.1.size)
              have hown := own_below HO9.out.1 hbq
              have hb6 : Below w6.heap.size w6 wr := HO9.out.2.1.trans (hbq.mono HO9.out.2.1.size)
              have HU := Lib.hid (And.intro hown hb6)
              clear hBu hcu hce hbu hbq hown hb6
              go_wp2_with (at_builtin; go_must (refine wpList_append_elem wr rfl (.tmp 81) (.tmp 83) _ rfl w6.heap.size 47 i7 _ 8 8 Try.underlying28 HI7.out.1 HI7.out.2.1 HI7.out.2.2.1 HI7.out.2.2.2 rfl (by omega) u5 jj ((secsR q st jj).flatMap encS) #[.int .u8 (x.a : Int), .int .u8 (x.b : Int), .int .u8 (x.c : Int), .int .u8 (x.d : Int), .int .u8 (x.e : Int), .int .u8 (x.f : Int), .int .u8 (x.g : Int), .int .u8 (x.h : Int)] rfl rfl rfl HU.out.1 (by simp [Value.oneCell']) (by simp only [maxLen]; omega) (by omega) HU.out.2.size ?_; intro v2 w2 hown2 hb2))
              have hown2 := flat_snoc HX.out hown2
              have h1 := HO9.out.2.2.1
              have h2 := HA4.out
              refine ⟨⟨jj + 1, by omega, by rw [show a4 = 4 * (jj + 1) by omega], hown2, HU.out.2.trans hb2⟩, ?_⟩
              simp [intOf]
              omega
        · obtain rfl : jj = N := by omega
          obtain ⟨A9, c9, rfl, hc9, hm9, hR9⟩ := own_slice ho
          have hb9 : Below w.heap.size w wq := H6.out.2.2.2.2.2.1.trans (hb.mono H6.out.2.2.2.2.2.1.size)
          rw [H6.out.2.2.1] at hR9
          have H9 := Lib.hid (And.intro hb9 (And.intro hR9 (And.intro hc9 hm9)))
          clear ho hb hR9 hb9 hc9 hm9 c1
          go_wp2_with fail
          refine bodyPost_ret (v := .tuple #[.slice A9 jj c9, .int .i64 0]) (by simp [results, Try.results15]) rfl ?_
          have hn := H6.out.2.2.2.2.2.2
          exact ⟨⟨A9, c9, by rw [hn], by rw [hn]; exact H9.out.2.1, by rw [hn]; exact H9.out.2.2.1, H9.out.2.2.2⟩, H9.out.1⟩
    · have hm4' : ¬ (m : Int) % 4 = 0 := by omega
      have hj2 : 7 + n + (j + 1) ≤ 4 * szN n := by omega
      rw [hm] at HO ⊢
      have HMN := Lib.hid hm
      clear hm hm4 hj
      go_wp2_with (at_builtin; go_must (refine wpList_append_elem wr rfl (.tmp 53) (.tmp 54) _ rfl W.heap.size 5 i0 _ 1 1 Try.underlying25 HI.out.1 HI.out.2.1 HI.out.2.2.1 HI.out.2.2.2 rfl (by omega) (.slice A6 m c6) m _ #[.int .u8 0] rfl rfl rfl HO.out.1 (by simp [Value.oneCell']) (by simp only [maxLen]; omega) (by omega) HO.out.2.1.size ?_; intro v2 w2 hown2 hb2))
      go_roundw
      case rel =>
        refine ⟨j + 1, hj2, ?_, HO.out.2.1.trans hb2⟩
        rw [show 7 + n + (j + 1) = m + 1 by have := HMN.out; omega, List.replicate_succ', ← List.append_assoc, u8s_append]
        exact hown2
      case measure =>
        obtain ⟨A7, c7, rfl, _, _, _⟩ := own_slice hown2
        simp only [sliceLen]
        have := HMN.out
        omega
theorem refEncode_any (k q : Int) (n c : Nat) (A : Option Addr) (p : List Nat) (w : World) (hR : Reads w w.heap.size 1 A n (u8s p)) (hp : AllB p) :
    Calls Try.prog 15 #[.agg #[.int .i64 k, .int .i64 q, .slice A n c]] w (EncRes w (encE k q p)) := by
  have hlen : p.length = n := by have := hR.1; rw [u8s_len] at this; omega
  unfold encE
  by_cases hb : badK k q = true
  · rw [if_pos hb]
    exact refEncode_bad k q n c A w hb
  · rw [if_neg hb]
    have hb' : badK k q = false := by simpa using hb
    by_cases hl : 4096 < p.length
    · rw [if_pos hl]
      exact refEncode_long k q n c A w hb' (by omega)
    · rw [if_neg hl]
      have h' : ¬ (k < 1 ∨ 255 < k ∨ q < 1 ∨ 4294967295 < q) := of_decide_eq_false hb'
      obtain ⟨k, rfl⟩ := Int.eq_ofNat_of_zero_le (by omega : 0 ≤ k)
      obtain ⟨q, rfl⟩ := Int.eq_ofNat_of_zero_le (by omega : 0 ≤ q)
      refine (refEncode_in k q n c A p w (by omega) (by omega) (by omega) (by omega) hR (by omega) hp).mono ?_
      rintro e w' ⟨⟨A', c', rfl, h1, h2, h3⟩, hb'⟩
      have e1 : (encR (k : Int).toNat (q : Int).toNat p).length = szN n := by rw [enc_len, hlen]
      exact ⟨hb', A', c', by dsimp only; rw [e1]; rfl, by dsimp only; rw [e1]; exact h1, by dsimp only; rw [e1]; exact h2, h3⟩
end Go.Proofs.Ytbiiahbhgjjhgaa
