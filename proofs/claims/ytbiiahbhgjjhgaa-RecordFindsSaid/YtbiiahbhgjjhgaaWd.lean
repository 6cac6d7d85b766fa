/- The walks of Update and Sum. Conditions: the register is a 32-bit number, the bytes are bytes, at most 1000000 of them. -/
import Derived.Test.YtbiiahbhgjjhgaaWb
import Derived.Test.YtbiiahbhgjjhgaaLib
namespace Go.Proofs.Ytbiiahbhgjjhgaa
open Go.RowKit
theorem not32_max {r : Nat} (hr : r < 4294967296) : bits .xor .u32 IntKind.u32.max (r : Int) = (not32 r : Nat) := not32_go hr
set_option maxRecDepth 100000 in
set_option maxHeartbeats 400000 in
theorem update_any (s n cap : Nat) (A : Option Addr) (l : List Nat) (w : World) (hs : s < 4294967296) (hn : n ≤ 1000000) (hR : Reads w w.heap.size 1 A n (u8s l)) (hl : ∀ x ∈ l, x < 256) :
    Calls Try.prog 34 #[.int .u32 s, .slice A n cap] w fun e w' => e = .returned (.int .u32 (updS s l : Nat)) ∧ Below w.heap.size w w' := by
  have hz := zero83
  have hlen : l.length = n := by have := hR.1; simpa [u8s] using this
  have HL := Lib.hid hlen
  clear hlen
  have hns := not32_lt hs
  go_enter Try.func34, Try.ntmps34
  go_wp2_with (first | (go_at_call 44; refine (registers_any _).mono ?_; rintro e w1 ⟨rfl, hb1⟩) | (refine wpList_store_row rfl 83 _ _ rfl _ (Tab crc8) rfl rfl 83 _ (heap_alloc_new _ _) (by rw [Tab_size]; exact info83) (by rw [Tab_size, Tab_size]) (Tab_one _) ?_))
  have hW : Blk ((w1.alloc (Obj.cells (Tab fun _ => 0) 83)).setRow w1.heap.size (Tab crc8)) w1.heap.size 83 (Tab crc8) := (Blk.new _ _ _).setRow _
  have hB : Below w.heap.size w ((w1.alloc (Obj.cells (Tab fun _ => 0) 83)).setRow w1.heap.size (Tab crc8)) := below_setRow (hb1.alloc hb1.size _) hb1.size _
  generalize ((w1.alloc (Obj.cells (Tab fun _ => 0) 83)).setRow w1.heap.size (Tab crc8)) = W at *
  generalize w1.heap.size = g at *
  have hR' := hR.below hB
  have hlen := HL.out
  have e0 := not32_max hs
  have E0 := Lib.hid e0
  clear e0
  go_loop [6, 14] (fun r i => ∃ k : Nat, k ≤ n ∧ i = .int .i64 k ∧ r = .int .u32 (updL (not32 s) (l.take k) : Nat)) (fun _ i => n - (intOf i).toNat)
  case atStart => exact ⟨0, by omega, rfl, by rw [E0.out]; simp [updL]⟩
  case round =>
    obtain ⟨k, hk, rfl, rfl⟩ := hrel
    have hr : updL (not32 s) (l.take k) < 4294967296 := updL_lt hns (fun x hx => hl x (List.mem_of_mem_take hx))
    by_cases hlt : k < n
    · obtain ⟨ad, u, rfl, hb, hu, hc⟩ := hR'.at_ hlt
      have hkl : k < l.length := by omega
      have hx := hl l[k] (List.getElem_mem _)
      have hu' : u = .int .u8 (l[k] : Int) := by
        simp [u8s, List.getElem?_eq_getElem hkl] at hu
        exact hu.symm
      subst hu'
      have HS : Hid (updL (not32 s) (l.take (k + 1)) = updB (updL (not32 s) (l.take k)) l[k]) := by
        show _ = _
        rw [← List.take_append_getElem hkl, updL_snoc]
      generalize l[k] = x at *
      generalize hy : updL (not32 s) (l.take k) = y at *
      have HY := Lib.hid hy
      clear hy hu hlen
      have hi : y % 256 ^^^ x < 256 := Nat.xor_lt_two_pow (n := 8) (by omega) hx
      have hcell : W.cell? ⟨g, y % 256 ^^^ x, none⟩ = some (.int .u32 (crc8 (y % 256 ^^^ x) : Nat)) := by rw [hW.cell, Tab_get _ _ hi]
      have hxx : bits .xor .u8 ((y : Int) % 256) (x : Int) = ((y % 256 ^^^ x : Nat) : Int) := u8_xor_nat (y % 256) x (by omega) hx
      go_wp2
      go_round
      case rel => exact ⟨k + 1, by omega, by go_num, by rw [HS.out, ← upd_go]; exact congrArg _ (u32_xor_nat (y / 256) (crc8 (y % 256 ^^^ x)) (by omega) (crcN_lt (by omega) 8))⟩
      case measure => simp [intOf]; omega
    · have hkn : k = n := by omega
      go_wp2
      go_ret
      subst hkn
      rw [List.take_of_length_le (by omega)] at hr ⊢
      exact ⟨congrArg _ (congrArg _ (not32_max hr)), hB⟩
set_option maxHeartbeats 400000 in
theorem sum_any (n cap : Nat) (A : Option Addr) (l : List Nat) (w : World) (hn : n ≤ 1000000) (hR : Reads w w.heap.size 1 A n (u8s l)) (hl : ∀ x ∈ l, x < 256) :
    Calls Try.prog 24 #[.slice A n cap] w fun e w' => e = .returned (.int .u32 (updS 0 l : Nat)) ∧ Below w.heap.size w w' := by
  have h := update_any 0 n cap A l w (by omega) hn hR hl
  have H := Lib.hid h
  clear h
  go_enter Try.func24, Try.ntmps24
  go_wp2_with (go_at_call 34; refine (H.out).mono ?_; rintro e w1 ⟨rfl, hb1⟩)
  go_ret
  exact ⟨rfl, hb1⟩
end Go.Proofs.Ytbiiahbhgjjhgaa
