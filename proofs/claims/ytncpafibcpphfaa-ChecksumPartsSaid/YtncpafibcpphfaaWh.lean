/- The walks of the reference's Digest, of Sectors and Pair. Conditions: the bytes are bytes, at most 1000000 of them. -/
import Derived.Test.YtncpafibcpphfaaWf
import Derived.Test.YtncpafibcpphfaaLibB
namespace Go.Proofs.Ytncpafibcpphfaa
open Go.RowKit Go.Shelf
set_option maxHeartbeats 400000 in
theorem refDigest_any (n cap : Nat) (A : Option Addr) (xs : List B8) (w : World) (hn : n ≤ 1000000) (hR : Reads w w.heap.size 1 A n (b8s xs)) :
    Calls Try.prog 16 #[.slice A n cap] w fun e w' => e = .returned (.int .u64 (dig xs : Nat)) ∧ w = w' := by
  have hl : xs.length = n := by have := hR.1; rw [b8s_len] at this; omega
  have HL := Lib.hid hl
  clear hl
  go_enter Try.func16, Try.ntmps16
  go_wp2
  go_loop [3, 4] (fun h i => ∃ k : Nat, k ≤ n ∧ i = .int .i64 k ∧ h = .int .u64 (fnvL fnv0 (xs.take k) : Nat)) (fun _ i => n - (intOf i).toNat)
  case atStart => exact ⟨0, by omega, rfl, rfl⟩
  case round =>
    obtain ⟨k, hk, rfl, rfl⟩ := hrel
    have hh : fnvL fnv0 (xs.take k) < 18446744073709551616 := fnvL_lt (by unfold fnv0; omega) _
    by_cases hlt : k < n
    · obtain ⟨ad, u, rfl, hb, hu, hc⟩ := hR.at_ hlt
      have hkl : k < xs.length := by rw [HL.out]; exact hlt
      rw [b8s_get xs k hkl] at hu
      obtain rfl := Option.some.inj hu
      clear hu
      have HS : Hid (fnvL fnv0 (xs.take (k + 1)) = fnv1 (fnvL fnv0 (xs.take k)) xs[k].1) := by
        show _ = _
        rw [← List.take_append_getElem hkl, fnvL_snoc]
      have hx := xs[k].2
      generalize xs[k].1 = x at *
      generalize fnvL fnv0 (xs.take k) = y at *
      have HH := Lib.hid hh
      clear hh
      go_wp2
      go_round
      case rel => exact ⟨k + 1, by omega, by go_num, by rw [HS.out, ← fnv1_go HH.out hx]⟩
      case measure => simp [intOf]; omega
    · have hkn : k = n := by omega
      subst hkn
      rw [List.take_of_length_le (by rw [HL.out]; exact Nat.le_refl _)] at hh ⊢
      have HD : Hid (dig xs = fnvEnd (fnvL fnv0 xs)) := rfl
      generalize fnvL fnv0 xs = y at *
      have HH := Lib.hid hh
      clear hh
      go_wp2
      go_ret
      rw [HD.out, ← fnvEnd_go HH.out]
      exact ⟨rfl, rfl⟩
theorem info5s : (Try.prog.info? 5).map (·.size) = some 1 := by kernel_rfl
attribute [local go_sem] Oper.semAt_some
set_option maxRecDepth 100000 in
set_option maxHeartbeats 2000000 in
theorem sect1_in (n : Nat) (hn : 1 ≤ n) (l Bs n₀ len cap : Nat) (A : Option Addr) (xs : List B8) (hlen : len ≤ 1000000) (J Jx : List B8 → World → Prop)
    (hY : ∀ pre x W, J pre W → pre.length < len * 8 → YieldAt Fence.wide (n - 1) Try.prog l #[.int .u8 (x.1 : Int)] W fun e W' =>
      (e = .returned (.bool true) ∧ J (pre ++ [x]) W' ∧ Below n₀ W W') ∨ (e = .returned (.bool false) ∧ Jx (pre ++ [x]) W'))
    (W : World) (hn₀ : n₀ ≤ W.heap.size) (hJ : AbidesFrom W.heap.size J) (hBs : W.cell? ⟨Bs, 0, none⟩ = some (.slice A len cap)) (hR : Reads W n₀ 8 A len (b8s xs)) (h0 : J [] W) :
    CallsIn Fence.wide n Try.prog 25 #[.func (.yield l) #[] #[], .pointer (some ⟨Bs, 0, none⟩)] W fun e W' => (∃ v, e = .returned v) ∧
      ((∃ ys, ys = xs ∧ J ys W') ∨ (∃ pre, pre <+: xs ∧ Jx pre W')) := by
  have hl : xs.length = len * 8 := by have := hR.1; rw [b8s_len] at this; omega
  have HL := Lib.hid hl
  have HJ := Lib.hid hJ
  clear hl hJ
  refine callsIn_of_wp Try.func25 rfl trivial ?_ rfl
  simp only [Try.ntmps25, List.size_toArray, List.length_cons, List.length_nil, Nat.reduceAdd, Nat.reduceSub, Array.replicate_succ, Array.replicate_zero, List.push_toArray, List.append_toArray, List.nil_append, List.cons_append]
  gi_wp2
  gi_loopw [9] (fun i wr => ∃ k : Nat, k ≤ len ∧ i = .int .i64 k ∧ J (xs.take (k * 8)) wr ∧ Below n₀ W wr ∧ W.heap.size ≤ wr.heap.size)
    (fun i _ => len - (intOf i).toNat)
  case atStart => exact ⟨0, Nat.zero_le _, rfl, by simpa using h0, Below.refl _ _, Nat.le_refl _⟩
  case round =>
    obtain ⟨k, hk, rfl, hJs, hnx, hsz⟩ := hrel
    by_cases hlt : k < len
    · obtain ⟨b, off, rfl, hb, hc⟩ := (hR.below hnx).plain (by omega) (by omega)
      have hkl : ∀ j, j < 8 → k * 8 + j < xs.length := by intro j hj; rw [HL.out]; omega
      have hcj : ∀ j, (hj : j < 8) → wr.cell? ⟨b, off + k * 8 + j, none⟩ = some (.int .u8 ((xs[k * 8 + j]'(hkl j hj)).1 : Int)) := by
        intro j hj
        rw [Nat.add_assoc]
        exact hc _ _ (b8s_get xs _ (hkl j hj))
      have c0 : wr.cell? ⟨b, off + k * 8, none⟩ = some (.int .u8 ((xs[k * 8]'(hkl 0 (by omega))).1 : Int)) := hcj 0 (by omega)
      have c1 := hcj 1 (by omega)
      have c2 := hcj 2 (by omega)
      have c3 := hcj 3 (by omega)
      have c4 := hcj 4 (by omega)
      have c5 := hcj 5 (by omega)
      have c6 := hcj 6 (by omega)
      have c7 := hcj 7 (by omega)
      have HC := Lib.hid hc
      clear hcj hc
      obtain ⟨cs, hcs⟩ : ∃ cs : Array Value, cs = #[.int .u8 ((xs[k * 8]'(hkl 0 (by omega))).1 : Int), .int .u8 ((xs[k * 8 + 1]'(hkl 1 (by omega))).1 : Int), .int .u8 ((xs[k * 8 + 2]'(hkl 2 (by omega))).1 : Int), .int .u8 ((xs[k * 8 + 3]'(hkl 3 (by omega))).1 : Int), .int .u8 ((xs[k * 8 + 4]'(hkl 4 (by omega))).1 : Int), .int .u8 ((xs[k * 8 + 5]'(hkl 5 (by omega))).1 : Int), .int .u8 ((xs[k * 8 + 6]'(hkl 6 (by omega))).1 : Int), .int .u8 ((xs[k * 8 + 7]'(hkl 7 (by omega))).1 : Int)] := ⟨_, rfl⟩
      have hget : ∀ j, (hj : j < 8) → cs[j]? = some (.int .u8 ((xs[k * 8 + j]'(hkl j hj)).1 : Int)) := by
        intro j hj
        rw [hcs]
        have : j = 0 ∨ j = 1 ∨ j = 2 ∨ j = 3 ∨ j = 4 ∨ j = 5 ∨ j = 6 ∨ j = 7 := by omega
        rcases this with rfl | rfl | rfl | rfl | rfl | rfl | rfl | rfl <;> rfl
      have HGET := Lib.hid hget
      have HCS := Lib.hid hcs
      clear hget hcs
      gi_wp2
      rw [← HCS.out]
      clear HCS c0 c1 c2 c3 c4 c5 c6 c7
      have hJ1 := HJ.out _ _ _ none hJs (World.grownBy_alloc wr (.cells cs 44) none) (fun r e => by cases e)
      have hb1 : Below n₀ W (wr.alloc (.cells cs 44)) := hnx.alloc (by omega) _
      have hz1 : W.heap.size ≤ (wr.alloc (.cells cs 44)).heap.size := by simp; omega
      generalize wr.alloc (.cells cs 44) = wa at *
      gi_loopw [14] (fun i wr => ∃ j : Nat, j ≤ 8 ∧ i = .int .i64 j ∧ J (xs.take (k * 8 + j)) wr ∧ Below n₀ W wr ∧ W.heap.size ≤ wr.heap.size)
        (fun i _ => 8 - (intOf i).toNat)
      case atStart => exact ⟨0, by omega, rfl, hJ1, hb1, hz1⟩
      case round =>
        obtain ⟨j, hj, rfl, hJw, hbw, hzw⟩ := hrel
        by_cases hj8 : j < 8
        · have hx : xs.take (k * 8 + (j + 1)) = xs.take (k * 8 + j) ++ [xs[k * 8 + j]'(hkl j hj8)] := by
            rw [← Nat.add_assoc, List.take_append_getElem]
          have HX := Lib.hid hx
          clear hx
          obtain ⟨fn, tmps, assign, body, hy, hRd⟩ := hY (xs.take (k * 8 + j)) (xs[k * 8 + j]'(hkl j hj8)) _ hJw (by rw [List.length_take]; omega)
          have hix := fun W' => run_index_arr (P := Try.prog) (t := 44) (k := .i64) (w := W') Try.underlying44 Try.underlying5 rfl info5s hj8 (HGET.out j hj8)
          gi_wp2
          refine hRd.mono ?_
          rintro e W3 (⟨rfl, hJ3, hk3⟩ | ⟨rfl, hJx3⟩)
          · have hz3 := Nat.le_trans hzw hk3.size
            gi_wp2
            go_roundw
            case rel => exact ⟨j + 1, by omega, by simp, by rw [HX.out]; exact hJ3, hbw.trans hk3, hz3⟩
            case measure => simp [intOf]; omega
          · gi_wp2
            refine bodyPost_ret (results_none rfl _ _ _) rfl ?_
            exact ⟨⟨_, rfl⟩, .inr ⟨_, List.take_prefix (k * 8 + (j + 1)) xs, by rw [HX.out]; exact hJx3⟩⟩
        · have hj' : j = 8 := by omega
          have hJw' : J (xs.take ((k + 1) * 8)) wr := by rw [show (k + 1) * 8 = k * 8 + j by omega]; exact hJw
          gi_wp2
          go_roundw
          case rel => exact ⟨k + 1, by omega, by simp, hJw', hbw, hzw⟩
          case measure => simp [intOf]; omega
    · have hkl : k = len := by omega
      gi_wp2
      go_end0
      rw [List.take_of_length_le (by rw [HL.out, hkl]; exact Nat.le_refl _)] at hJs
      exact ⟨⟨_, rfl⟩, .inl ⟨_, rfl, hJs⟩⟩
theorem enters25 : ∀ (args : Array Value) (w : World), (callFunc 25 args).run Try.prog w = .ok (.enter 25 args) w := enters_of Try.func25 (by kernel_rfl) rfl
theorem sect1_stops (n : Nat) (hn : 1 ≤ n) (Bs n₀ len cap : Nat) (A : Option Addr) (xs : List B8) (hlen : len ≤ 1000000) (w : World) (hBs : Bs < w.heap.size) (hn₀ : n₀ ≤ w.heap.size)
    (hc : w.cell? ⟨Bs, 0, none⟩ = some (.slice A len cap)) (hR : Reads w n₀ 8 A len (b8s xs)) :
    SeqStopsK Fence.wide n Try.prog 25 #[.pointer (some ⟨Bs, 0, none⟩)] (fun x : B8 => #[Value.int .u8 (x.1 : Int)]) (Below n₀) (fun ys => ys = xs) (fun pre => pre <+: xs) (len * 8) w := fun l J Jx W hW hJ _ hY h0 =>
  sect1_in n hn l Bs n₀ len cap A xs hlen J Jx hY W (Nat.le_trans hn₀ hW.size) hJ ((hW.cell (p := ⟨Bs, 0, none⟩) hBs).trans hc) (hR.below (hW.mono hn₀)) h0
set_option maxHeartbeats 400000 in
theorem Sectors_any (n cap : Nat) (A : Option Addr) (xs : List B8) (w : World) (hn : n ≤ 1000000) (hR : Reads w w.heap.size 8 A n (b8s xs)) :
    Calls Try.prog 17 #[.slice A n cap] w fun e w' => e = .returned (.int .u64 (dig xs : Nat)) ∧ Below w.heap.size w w' := by
  have hb : Below w.heap.size w (w.alloc (.cells #[.slice A n cap] 37)) := (Below.refl _ w).alloc (Nat.le_refl _) _
  have hc := (cell_new_l w (.slice A n cap) 37).1
  have h := callsIn_wide.1 (digest_in 25 #[.pointer (some ⟨w.heap.size, 0, none⟩)] w.heap.size (n * 8) xs (w.alloc (.cells #[.slice A n cap] 37)) (by simp) enters25 (fun w1 hw1 =>
    sect1_stops 2 (by omega) w.heap.size w.heap.size n cap A xs hn w1 (by have := hw1.size; simp at this; omega) (by have := hw1.size; simp at this; omega) ((hw1.cell (p := ⟨w.heap.size, 0, none⟩) (by simp)).trans hc) ((hR.below hb).below (hw1.mono (by simp)))))
  have H := Lib.hid h
  clear h hc
  go_enter Try.func17, Try.ntmps17
  go_wp2_with (go_at_call 23; refine (H.out).mono ?_; rintro e w1 ⟨rfl, hb1⟩)
  go_ret
  exact ⟨rfl, hb.trans (hb1.mono (by simp))⟩
end Go.Proofs.Ytncpafibcpphfaa
