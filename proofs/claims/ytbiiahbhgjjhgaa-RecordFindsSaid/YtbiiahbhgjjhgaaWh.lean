/- The walks of take, number (of the rest), Clone, IndexFunc, ContainsFunc. Conditions: what is taken is there. -/
import Derived.Test.YtbiiahbhgjjhgaaWg
namespace Go.Proofs.Ytbiiahbhgjjhgaa
open Go.RowKit
/-- the reader in block B stands at place p of the N bytes of block b -/
def Left (W : World) (B b N C p : Nat) (x y : Value) : Prop := ∃ A, Blk W B 71 #[.slice A (N - p) (C - p), x, y] ∧ (p < C → A = some ⟨b, p, none⟩)
/-- block b begins with the bytes st -/
def Row (W : World) (b : Nat) (st : List Nat) : Prop := ∀ j, j < st.length → W.cell? ⟨b, j, none⟩ = some (.int .u8 (st.getD j 0 : Nat))
theorem Row.far {W : World} {b B : Nat} {st : List Nat} (h : Row W b st) (hb : b ≠ B) (i : Nat) (u : Value) : Row (W.setCell ⟨B, i, none⟩ u) b st := fun j hj =>
  (World.cell?_setCell_other W _ _ u (fun e => hb (by injection e with e1; exact e1.symm))).trans (h j hj)
theorem add_plain (b o k : Nat) : (⟨b, o, none⟩ : Addr).add k = ⟨b, o + k, none⟩ := by unfold Addr.add; split <;> simp_all
structure TakeR (w : World) (B b N C p k : Nat) (x y : Value) (e : Ending) (w' : World) : Prop where
  res : ∃ A, e = .returned (.slice A k (C - p)) ∧ (p < C → A = some ⟨b, p, none⟩)
  wld : ∃ v, w' = w.setCell ⟨B, 0, none⟩ v
  left : Left w' B b N C (p + k) x y
structure NumR (w : World) (B b N C p k : Nat) (x y : Value) (st : List Nat) (e : Ending) (w' : World) : Prop where
  res : e = .returned (.int .i64 (ge ((st.drop p).take k) : Nat))
  wld : ∃ v, w' = w.setCell ⟨B, 0, none⟩ v
  left : Left w' B b N C (p + k) x y
set_option maxHeartbeats 400000 in
theorem take_any (B b N C p k : Nat) (x y : Value) (w : World) (hL : Left w B b N C p x y) (hk : p + k ≤ N) (hc : N ≤ C) :
    Calls Try.prog 41 #[.pointer (some ⟨B, 0, none⟩), .int .i64 k] w (TakeR w B b N C p k x y) := by
  obtain ⟨A, hB, hA⟩ := hL
  have e0 : w.cell? ⟨B, 0, none⟩ = some (.slice A (N - p) (C - p)) := hB.cell 0
  have z0 := hB.frozen 0
  have k1 : k ≤ N - p := by omega
  have k2 : N - p ≤ C - p := by omega
  have HA := Lib.hid (And.intro hA hB)
  generalize hn : N - p = n at *
  generalize hcc : C - p = c at *
  have HN := Lib.hid (And.intro hn hcc)
  clear hn hcc hA hB hc
  go_enter Try.func41, Try.ntmps41
  go_wp2
  all_goals
    obtain ⟨hA, hB⟩ := HA.out
    obtain ⟨hn, hcc⟩ := HN.out
    go_ret
  · refine ⟨⟨A, by rw [hcc]; exact congrArg _ (by rw [show c = k by assumption]; rfl), hA⟩, ⟨_, rfl⟩, A, ?_, fun h => by omega⟩
    rw [show N - (p + k) = n - k by omega, show C - (p + k) = 0 by omega]
    exact hB.set_ 0 (.slice A (n - k) 0)
  · refine ⟨⟨A, by rw [hcc]; rfl, hA⟩, ⟨_, rfl⟩, _, by rw [show N - (p + k) = n - k by omega, show C - (p + k) = c - k by omega]; exact hB.set_ 0 _, fun h => ?_⟩
    rw [hA (by omega)]
    exact congrArg some (add_plain _ _ _)
theorem or_ge {y i : Nat} (x : Nat) (hy : y < 256 ^ i) : y ||| x * 256 ^ i = y + 256 ^ i * x := by
  have e : 256 ^ i = 2 ^ (8 * i) := by rw [Nat.pow_mul]
  rw [e] at hy ⊢
  have := Nat.two_pow_add_eq_or_of_lt (i := 8 * i) (b := y) hy x
  rw [Nat.or_comm, Nat.mul_comm x, ← this, Nat.add_comm]
theorem or_i {Y X : Nat} (i : Nat) (hi : i ≤ 3) (hy : Y < 256 ^ i) (hx : X < 256) : bits .or .i64 (Y : Int) ((X * 256 ^ i : Nat) : Int) = ((Y + 256 ^ i * X : Nat) : Int) := by
  have h1 : 256 ^ i ≤ 16777216 := Nat.pow_le_pow_right (by omega) hi
  have h2 : X * 256 ^ i ≤ 255 * 16777216 := Nat.mul_le_mul (by omega) h1
  rw [i64_or_nat _ _ (by omega) (by omega), or_ge X hy]
set_option maxHeartbeats 400000 in
theorem num_any (B b N C p k : Nat) (x y : Value) (st : List Nat) (w : World) (hL : Left w B b N C p x y) (hR : Row w b st) (hN : st.length = N) (hst : AllB st) (hb : b ≠ B) (hk : p + k ≤ N) (hc : N ≤ C) (hk4 : k ≤ 4) :
    Calls Try.prog 39 #[.pointer (some ⟨B, 0, none⟩), .int .i64 k] w (NumR w B b N C p k x y st) := by
  go_enter Try.func39, Try.ntmps39
  go_wp2_with fail
  refine (take_any B b N C p k x y w hL hk hc).mono ?_
  rintro e w1 ⟨⟨A, rfl, hA⟩, ⟨v, rfl⟩, hL1⟩
  have hR1 := hR.far hb 0 v
  have HL := Lib.hid hL1
  have HW : Hid (∃ v', w.setCell ⟨B, 0, none⟩ v = w.setCell ⟨B, 0, none⟩ v') := ⟨_, rfl⟩
  have HS := Lib.hid hN
  have kc : k ≤ C - p := by omega
  clear hL hL1 hR hN
  generalize w.setCell ⟨B, 0, none⟩ v = w1 at *
  generalize hcc : C - p = c at *
  have HC := Lib.hid hcc
  clear hcc
  go_wp2
  go_loop [5, 12] (fun s i => ∃ j : Nat, j ≤ k ∧ i = .int .i64 j ∧ s = .int .i64 (ge ((st.drop p).take j) : Nat)) (fun _ i => k - (intOf i).toNat)
  case atStart => exact ⟨0, by omega, rfl, by simp [ge]⟩
  case round =>
    obtain ⟨j, hj, rfl, rfl⟩ := hrel
    by_cases hlt : j < k
    · have hcN := HC.out
      have hsN := HS.out
      obtain rfl := hA (by omega)
      have hpj : p + j < st.length := by omega
      have hc := hR1 (p + j) hpj
      have hx := getD_lt hst (p + j)
      have hgl : (st.drop p)[j]? = some (st.getD (p + j) 0) := by
        rw [List.getElem?_drop, List.getD_eq_getElem?_getD, List.getElem?_eq_getElem hpj]; rfl
      have hlen : ((st.drop p).take j).length = j := by rw [List.length_take, List.length_drop]; omega
      have HG : Hid (ge ((st.drop p).take (j + 1)) = ge ((st.drop p).take j) + 256 ^ j * st.getD (p + j) 0) := by
        show _ = _
        rw [List.take_add_one, hgl]
        show ge (_ ++ [_]) = _
        rw [ge_snoc, hlen]
      have hy : ge ((st.drop p).take j) < 256 ^ j := by
        have h := ge_lt (l := (st.drop p).take j) (fun z hz => hst z (List.mem_of_mem_drop (List.mem_of_mem_take hz)))
        rwa [hlen] at h
      have HO := Lib.hid (or_i j (by omega) hy hx)
      generalize ge ((st.drop p).take j) = Y at *
      generalize st.getD (p + j) 0 = X at *
      clear hgl hlen hcN hsN hpj
      rcases (by omega : j = 0 ∨ j = 1 ∨ j = 2 ∨ j = 3) with rfl | rfl | rfl | rfl
      · rw [Nat.add_zero] at hc
        go_wp2
        exact ⟨⟨1, by omega, rfl, by rw [HG.out, ← HO.out]; simp⟩, by simp [intOf]; omega⟩
      · skip
        go_wp2
        exact ⟨⟨2, by omega, rfl, by rw [HG.out, ← HO.out]; simp⟩, by simp [intOf]; omega⟩
      · skip
        go_wp2
        exact ⟨⟨3, by omega, rfl, by rw [HG.out, ← HO.out]; simp⟩, by simp [intOf]; omega⟩
      · skip
        go_wp2
        exact ⟨⟨4, by omega, rfl, by rw [HG.out, ← HO.out]; simp⟩, by simp [intOf]; omega⟩
    · obtain rfl : j = k := by omega
      go_wp2
      go_ret
      exact ⟨rfl, HW.out, HL.out⟩
theorem Row.lt {W : World} {b : Nat} {st : List Nat} (h : Row W b st) (h0 : 0 < st.length) : b < W.heap.size := block_lt_of_cell (h 0 h0)
theorem Row.reads {W : World} {b : Nat} {st : List Nat} (h : Row W b st) (p k : Nat) (hk : p + k ≤ st.length) (A : Option Addr) (hA : 0 < k → A = some ⟨b, p, none⟩) : Reads W W.heap.size 1 A k (u8s ((st.drop p).take k)) := by
  refine ⟨by rw [u8s_len, List.length_take, List.length_drop]; omega, fun hn => ⟨_, hA hn, h.lt (by omega), fun j u hu => ?_⟩⟩
  rw [add_plain]
  have hj : j < k := by
    have := (List.getElem?_eq_some_iff.1 hu).1
    rw [u8s_len, List.length_take] at this
    omega
  rw [h (p + j) (by omega), ← hu]
  simp only [u8s, List.getElem?_map, List.getElem?_take_of_lt hj, List.getElem?_drop]
  rw [List.getElem?_eq_getElem (by omega), List.getD_eq_getElem?_getD, List.getElem?_eq_getElem (by omega)]
  rfl
set_option maxRecDepth 100000 in
set_option maxHeartbeats 1000000 in
theorem Clone_any (A : Option Addr) (n c : Nat) (l : List Nat) (w : World) (hR : Reads w w.heap.size 1 A n (u8s l)) (hn : n ≤ 100000) :
    Calls Try.prog 40 #[.slice A n c] w fun e w' => (∃ v, e = .returned v ∧ w'.ownsRow w.heap.size 5 1 v n (u8s l)) ∧ Below w.heap.size w w' := by
  obtain ⟨i0, hi0, hz0, hz1, hz2⟩ := info_parts info5b
  have HI := Lib.hid (And.intro hi0 (And.intro hz0 (And.intro hz1 hz2)))
  have hlen : l.length = n := by have := hR.1; rw [u8s_len] at this; omega
  have HL := Lib.hid hlen
  clear hi0 hz0 hz1 hz2 hlen
  have hb0 : Below w.heap.size w (w.alloc (.cells #[] 5)) := (Below.refl _ w).alloc (Nat.le_refl _) _
  have hnil := fun (w : World) (a : Option Addr) (n c : Nat) => Lib.run_eql_slice_nil (P := Try.prog) w 25 5 a n c 0 0 Try.underlying25
  cases A with
  | none =>
    have h0 : n = 0 := by
      rcases Nat.eq_zero_or_pos n with h | h
      · exact h
      · obtain ⟨_, e, _⟩ := hR.2 h; cases e
    subst h0
    have hl : l = [] := List.eq_nil_of_length_eq_zero HL.out
    subst hl
    go_enter Try.func40, Try.ntmps40
    go_wp2
    go_ret
    exact ⟨⟨_, rfl, World.ownsRow_nil w _ 5 1⟩, Below.refl _ _⟩
  | some ad =>
    go_enter Try.func40, Try.ntmps40
    go_wp2_with (at_builtin; refine wpList_append_any _ rfl (.tmp 5) (.tmp 6) _ rfl w.heap.size 5 i0 _ 1 1 Try.underlying25 HI.out.1 HI.out.2.1 HI.out.2.2.1 HI.out.2.2.2 rfl (by omega) (.slice (some ⟨w.heap.size, 0, none⟩) 0 0) 0 [] rfl (own_empty _ _ _) w.heap.size (some ad) n c (u8s l) rfl (Reads.below hR hb0) (u8s_one _) (by simp only [maxLen]; omega) (by omega) (by simp) ?_; intro v1 w1 hown1 hg1 _; simp only [Nat.zero_add, List.nil_append] at hown1)
    go_ret
    exact ⟨⟨_, rfl, hown1⟩, hb0.grown hg1 (by simp) (by intro k hk; simp [Value.ownBlock] at hk; omega)⟩
def nzB (x : Nat) : Bool := x != 0
theorem nz_any (x : Nat) (w : World) : Calls Try.prog 43 #[.int .u8 x] w fun e w' => e = .returned (.bool (nzB x)) ∧ w = w' := by
  by_cases h : x = 0
  · subst h
    go_enter Try.func43, Try.ntmps43
    go_wp2
    go_ret
    exact ⟨rfl, rfl⟩
  · have e : nzB x = true := by simp [nzB, h]
    rw [e]
    have h' : ((x : Int) == 0) = false := by simp; omega
    go_enter Try.func43, Try.ntmps43
    go_wp2
    go_ret
    exact ⟨by simp; omega, rfl⟩
set_option maxRecDepth 100000 in
set_option maxHeartbeats 1000000 in
theorem idx_any (A : Option Addr) (n c : Nat) (l : List Nat) (w : World) (hR : Reads w w.heap.size 1 A n (u8s l)) (hn : n ≤ 100000) :
    Calls Try.prog 46 #[.slice A n c, .func (.func 43) #[] #[]] w fun e w' => (∃ v : Int, e = .returned (.int .i64 v) ∧ decide (0 ≤ v) = l.any nzB) ∧ w = w' := by
  have hlen : l.length = n := by have := hR.1; rw [u8s_len] at this; omega
  have HL := Lib.hid hlen
  have HR := Lib.hid hR
  clear hlen hR
  go_enter Try.func46, Try.ntmps46
  go_wp2_with fail
  go_loopw [8] (fun i wr => ∃ k : Nat, k ≤ n ∧ i = .int .i64 k ∧ (l.drop k).any nzB = l.any nzB ∧ wr = w) (fun i _ => n - (intOf i).toNat)
  case atStart => exact ⟨0, by omega, rfl, rfl, rfl⟩
  case round =>
    obtain ⟨k, hk, rfl, hf, rfl⟩ := hrel
    have HF := Lib.hid hf
    clear hf
    by_cases hlt : k < n
    · have hkl : k < l.length := by rw [HL.out]; exact hlt
      obtain ⟨ad, u, rfl, hb, hu, d0⟩ := HR.out.at_ hlt
      have hu' : u = .int .u8 (l[k] : Int) := by
        simp [u8s, List.getElem?_eq_getElem hkl] at hu
        exact hu.symm
      subst hu'
      clear hu
      have HS : Hid ((l.drop k).any nzB = (nzB l[k] || (l.drop (k + 1)).any nzB)) := by show _ = _; rw [List.drop_eq_getElem_cons hkl, List.any_cons]
      generalize l[k] = x at *
      have ik : (k : Int) < n := by omega
      go_wp2_with fail
      refine (nz_any x _).mono ?_
      rintro e w1 ⟨rfl, rfl⟩
      rcases Bool.eq_false_or_eq_true (nzB x) with hx | hx
      · rw [hx]
        go_wp2_with fail
        go_ret
        refine ⟨⟨_, rfl, ?_⟩, rfl⟩
        rw [← HF.out, HS.out, hx, Bool.true_or]
        exact decide_eq_true (by omega)
      · rw [hx]
        go_wp2_with fail
        go_roundw
        case rel => exact ⟨k + 1, by omega, by go_num, by rw [← HF.out, HS.out, hx, Bool.false_or], trivial⟩
        case measure => simp [intOf]; omega
    · go_wp2_with fail
      go_ret
      refine ⟨⟨_, rfl, ?_⟩, rfl⟩
      rw [← HF.out, List.drop_of_length_le (by rw [HL.out]; omega)]
      rfl
theorem contains_any (A : Option Addr) (n c : Nat) (l : List Nat) (w : World) (hR : Reads w w.heap.size 1 A n (u8s l)) (hn : n ≤ 100000) :
    Calls Try.prog 42 #[.slice A n c, .func (.func 43) #[] #[]] w fun e w' => e = .returned (.bool (l.any nzB)) ∧ w = w' := by
  go_enter Try.func42, Try.ntmps42
  go_wp2_with fail
  refine (idx_any A n c l w hR hn).mono ?_
  rintro e w1 ⟨⟨v, rfl, hv⟩, rfl⟩
  by_cases h0 : 0 ≤ v
  · rw [decide_eq_true h0] at hv
    go_wp2_with fail
    go_ret
    exact ⟨by rw [← hv]; rfl, rfl⟩
  · go_wp2_with fail
    go_ret
    exact ⟨by rw [← hv]; rfl, rfl⟩
end Go.Proofs.Ytbiiahbhgjjhgaa
