/- The walks of the reference's Update and Sum, of Same, SameSectors and fit. Conditions: bytes, at most 1000000 of them. -/
import Derived.Test.YtbiiahbhgjjhgaaWj
import Derived.Test.YtbiiahbhgjjhgaaWa
import Derived.Laws.BytesArg
namespace Go.Proofs.Ytbiiahbhgjjhgaa
open Go.RowKit
theorem not32_mx {r : Nat} (hr : r < 4294967296) : bits .xor .u32 IntKind.u32.max (r : Int) = (not32 r : Nat) := not32_go hr
set_option maxRecDepth 100000 in
set_option maxHeartbeats 400000 in
theorem refUpdate_any (s n cap : Nat) (A : Option Addr) (l : List Nat) (w : World) (hs : s < 4294967296) (hn : n ≤ 1000000) (hR : Reads w w.heap.size 1 A n (u8s l)) (hl : AllB l) :
    Calls Try.prog 36 #[.int .u32 s, .slice A n cap] w fun e w' => e = .returned (.int .u32 (updS s l : Nat)) ∧ w = w' := by
  have hlen : l.length = n := by have := hR.1; rw [u8s_len] at this; omega
  have HL := Lib.hid hlen
  clear hlen
  have hns := not32_lt hs
  have E0 := Lib.hid (not32_mx hs)
  go_enter Try.func36, Try.ntmps36
  go_wp2
  go_loop [5, 6] (fun r i => ∃ k : Nat, k ≤ n ∧ i = .int .i64 k ∧ r = .int .u32 (updL (not32 s) (l.take k) : Nat)) (fun _ i => n - (intOf i).toNat)
  case atStart => exact ⟨0, by omega, rfl, by rw [E0.out]; simp [updL]⟩
  case round =>
    obtain ⟨k, hk, rfl, rfl⟩ := hrel
    have hr : updL (not32 s) (l.take k) < 4294967296 := updL_lt hns (fun x hx => hl x (List.mem_of_mem_take hx))
    by_cases hlt : k < n
    · obtain ⟨ad, u, rfl, hb, hu, hc⟩ := hR.at_ hlt
      have hkl : k < l.length := by rw [HL.out]; exact hlt
      have hx := hl l[k] (List.getElem_mem _)
      have hu' : u = .int .u8 (l[k] : Int) := by
        simp [u8s, List.getElem?_eq_getElem hkl] at hu
        exact hu.symm
      subst hu'
      have HS : Hid (updL (not32 s) (l.take (k + 1)) = crc8 (updL (not32 s) (l.take k) ^^^ l[k])) := by
        show _ = _
        rw [← List.take_append_getElem hkl, updL_snoc]
        rfl
      generalize l[k] = x at *
      generalize hy : updL (not32 s) (l.take k) = y at *
      have HY := Lib.hid hy
      clear hy hu
      go_wp2_with fail
      refine (register_any y x w hr hx).mono ?_
      rintro e w1 ⟨rfl, rfl⟩
      rw [← HS.out]
      go_wp2_with fail
      go_round
      case rel => exact ⟨k + 1, by omega, by go_num, rfl⟩
      case measure => simp [intOf]; omega
    · have hkn : k = n := by omega
      go_wp2
      go_ret
      subst hkn
      rw [List.take_of_length_le (by rw [HL.out]; exact Nat.le_refl _)] at hr ⊢
      exact ⟨congrArg _ (congrArg _ (not32_mx hr)), rfl⟩
theorem refSum_any (n cap : Nat) (A : Option Addr) (l : List Nat) (w : World) (hn : n ≤ 1000000) (hR : Reads w w.heap.size 1 A n (u8s l)) (hl : AllB l) :
    Calls Try.prog 28 #[.slice A n cap] w fun e w' => e = .returned (.int .u32 (updS 0 l : Nat)) ∧ w = w' := by
  have h := refUpdate_any 0 n cap A l w (by omega) hn hR hl
  have H := Lib.hid h
  clear h
  go_enter Try.func28, Try.ntmps28
  go_wp2_with fail
  refine (H.out).mono ?_
  rintro e w1 ⟨rfl, rfl⟩
  go_wp2_with fail
  go_ret
  exact ⟨rfl, rfl⟩
/-- the string of bytes -/
def strB (l : List Nat) : ByteArray := strOfNums (l.map fun x : Nat => (x : Int))
theorem run_str (w : World) (n c : Nat) (A : Option Addr) (l : List Nat) (hR : Reads w w.heap.size 1 A n (u8s l)) : (convert 25 9 (.slice A n c)).run Try.prog w = .ok (.string (strB l)) w := by
  have hlen : l.length = n := by have := hR.1; rw [u8s_len] at this; omega
  rcases Nat.eq_zero_or_pos n with h0 | h0
  · subst h0
    have hl : l = [] := List.eq_nil_of_length_eq_zero hlen
    subst hl
    cases A with
    | none => exact run_convert_bytes_nil w 25 5 Try.underlying25 Try.underlying5 0 c 9 Try.underlying9
    | some a =>
      rw [run_convert_bytes_string w 25 9 5 _ 0 c Try.underlying25 Try.underlying5 Try.underlying9]
      exact run_bytesToString w a 0 c [] (run_loadCells_list (P := Try.prog) w a [] (fun j v hj => by simp at hj))
  · obtain ⟨b, off, rfl, _, hc⟩ := hR.plain h0 (by omega)
    refine run_convert_bytes_arg w 25 5 Try.underlying25 Try.underlying5 b off n c (l.map fun x : Nat => (x : Int)) (by simpa using hlen) (fun i hi => ?_) 9 Try.underlying9
    refine hc i _ ?_
    have hil : i < l.length := by omega
    simp [u8s, List.getD, hil]
/-- a record as a value -/
def recV (k q : Int) (A : Option Addr) (n c : Nat) : Value := .agg #[.int .i64 k, .int .i64 q, .slice A n c]
/-- whether two records are the same -/
def sameB (k q : Int) (p : List Nat) (k' q' : Int) (p' : List Nat) : Bool := k == k' && q == q' && ((strB p).toList == (strB p').toList)
theorem sameB_refl (k q : Int) (p : List Nat) : sameB k q p k q p = true := by simp [sameB]
set_option maxHeartbeats 1000000 in
theorem Same_any (k q k' q' : Int) (n c n' c' : Nat) (A A' : Option Addr) (p p' : List Nat) (w : World) (hR : Reads w w.heap.size 1 A n (u8s p)) (hR' : Reads w w.heap.size 1 A' n' (u8s p')) :
    Calls Try.prog 19 #[recV k q A n c, recV k' q' A' n' c'] w fun e w' => e = .returned (.bool (sameB k q p k' q' p')) ∧ Below w.heap.size w w' := by
  have hb : Below w.heap.size w ((w.alloc (.cells #[.int .i64 k, .int .i64 q, .slice A n c] 27)).alloc (.cells #[.int .i64 k', .int .i64 q', .slice A' n' c'] 27)) := ((Below.refl _ w).alloc (Nat.le_refl _) _).alloc (by simp) _
  have r1 := run_str _ n c A p ((hR.below hb).more hb.size)
  have r2 := run_str _ n' c' A' p' ((hR'.below hb).more hb.size)
  unfold recV
  by_cases h1 : k = k'
  · by_cases h2 : q = q'
    · subst h1 h2
      go_enter Try.func19, Try.ntmps19
      go_wp2
      go_ret
      exact ⟨by simp [sameB], hb⟩
    · subst h1
      go_enter Try.func19, Try.ntmps19
      go_wp2
      go_ret
      exact ⟨by simp [sameB, h2], hb⟩
  · go_enter Try.func19, Try.ntmps19
    go_wp2
    go_ret
    exact ⟨by simp [sameB, h1], hb⟩
/-- what fit makes -/
def fitN (x m : Int) : Nat := (Int.natAbs (x.tmod m)) + 1
theorem fit_one (x m : Int) (hm : 0 < m) : (fitN x m : Int) = (if x.tmod m < 0 then -(x.tmod m) else x.tmod m) + 1 ∧ fitN x m ≤ m := by
  have h1 : x.tmod m < m ∧ -m < x.tmod m := ⟨Int.tmod_lt_of_pos x hm, Int.lt_tmod_of_pos x hm⟩
  unfold fitN
  split <;> omega
set_option maxHeartbeats 1000000 in
theorem fit_any (k q : Int) (n c : Nat) (A : Option Addr) (w : World) :
    Calls Try.prog 20 #[recV k q A n c] w fun e w' => e = .returned (recV (fitN k 255 : Nat) (fitN q 1000000 : Nat) A n c) ∧ Below w.heap.size w w' := by
  unfold recV
  obtain ⟨e1, b1⟩ := fit_one k 255 (by omega)
  obtain ⟨e2, b2⟩ := fit_one q 1000000 (by omega)
  by_cases h1 : k.tmod 255 < 0
  · by_cases h2 : q.tmod 1000000 < 0
    · rw [if_pos h1] at e1
      rw [if_pos h2] at e2
      go_enter Try.func20, Try.ntmps20
      go_wp2
      rw [← e1, ← e2]
      have hblk := Blk.new (w.alloc (.cells #[.int .i64 k, .int .i64 q, .slice A n c] 27)) 27 #[.int .i64 (fitN k 255 : Nat), .int .i64 (fitN q 1000000 : Nat), .slice A n c]
      simp only [World.size_alloc] at hblk
      refine bodyPost_ret (results_cell_row rfl _ _ (w.heap.size + 1) 27 #[.int .i64 (fitN k 255 : Nat), .int .i64 (fitN q 1000000 : Nat), .slice A n c] (0, 0) _ rfl hblk Try.underlying27 rfl info27s) rfl ⟨rfl, ?_⟩
      exact ((Below.refl _ w).alloc (Nat.le_refl _) _).alloc (by simp) _
    · rw [if_pos h1] at e1
      rw [if_neg h2] at e2
      go_enter Try.func20, Try.ntmps20
      go_wp2
      rw [← e1, ← e2]
      have hblk := Blk.new (w.alloc (.cells #[.int .i64 k, .int .i64 q, .slice A n c] 27)) 27 #[.int .i64 (fitN k 255 : Nat), .int .i64 (fitN q 1000000 : Nat), .slice A n c]
      simp only [World.size_alloc] at hblk
      refine bodyPost_ret (results_cell_row rfl _ _ (w.heap.size + 1) 27 #[.int .i64 (fitN k 255 : Nat), .int .i64 (fitN q 1000000 : Nat), .slice A n c] (0, 0) _ rfl hblk Try.underlying27 rfl info27s) rfl ⟨rfl, ?_⟩
      exact ((Below.refl _ w).alloc (Nat.le_refl _) _).alloc (by simp) _
  · by_cases h2 : q.tmod 1000000 < 0
    · rw [if_neg h1] at e1
      rw [if_pos h2] at e2
      go_enter Try.func20, Try.ntmps20
      go_wp2
      rw [← e1, ← e2]
      have hblk := Blk.new (w.alloc (.cells #[.int .i64 k, .int .i64 q, .slice A n c] 27)) 27 #[.int .i64 (fitN k 255 : Nat), .int .i64 (fitN q 1000000 : Nat), .slice A n c]
      simp only [World.size_alloc] at hblk
      refine bodyPost_ret (results_cell_row rfl _ _ (w.heap.size + 1) 27 #[.int .i64 (fitN k 255 : Nat), .int .i64 (fitN q 1000000 : Nat), .slice A n c] (0, 0) _ rfl hblk Try.underlying27 rfl info27s) rfl ⟨rfl, ?_⟩
      exact ((Below.refl _ w).alloc (Nat.le_refl _) _).alloc (by simp) _
    · rw [if_neg h1] at e1
      rw [if_neg h2] at e2
      go_enter Try.func20, Try.ntmps20
      go_wp2
      rw [← e1, ← e2]
      have hblk := Blk.new (w.alloc (.cells #[.int .i64 k, .int .i64 q, .slice A n c] 27)) 27 #[.int .i64 (fitN k 255 : Nat), .int .i64 (fitN q 1000000 : Nat), .slice A n c]
      simp only [World.size_alloc] at hblk
      refine bodyPost_ret (results_cell_row rfl _ _ (w.heap.size + 1) 27 #[.int .i64 (fitN k 255 : Nat), .int .i64 (fitN q 1000000 : Nat), .slice A n c] (0, 0) _ rfl hblk Try.underlying27 rfl info27s) rfl ⟨rfl, ?_⟩
      exact ((Below.refl _ w).alloc (Nat.le_refl _) _).alloc (by simp) _
end Go.Proofs.Ytbiiahbhgjjhgaa
