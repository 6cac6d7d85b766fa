/- The walks of number, the reference's Number and get. Conditions: bytes. -/
import Derived.Test.YtbiiahbhgjjhgaaWf
namespace Go.Proofs.Ytbiiahbhgjjhgaa
open Go.RowKit
/-- a sector as cells -/
def encS (s : Sec) : List Value := [.int .u8 (s.a : Int), .int .u8 (s.b : Int), .int .u8 (s.c : Int), .int .u8 (s.d : Int), .int .u8 (s.e : Int), .int .u8 (s.f : Int), .int .u8 (s.g : Int), .int .u8 (s.h : Int)]
theorem encS_len (s : Sec) : (encS s).length = 8 := rfl
theorem or_num {a b c d : Nat} (ha : a < 256) (hb : b < 256) (hc : c < 256) : ((a ||| b * 256) ||| c * 65536) ||| d * 16777216 = a + 256 * b + 65536 * c + 16777216 * d := by
  have h1 : a ||| b * 256 = b * 256 + a := by
    have := Nat.two_pow_add_eq_or_of_lt (i := 8) (b := a) (by omega) b
    rw [Nat.or_comm, Nat.mul_comm b]
    exact this.symm
  rw [h1]
  have h2 : (b * 256 + a) ||| c * 65536 = c * 65536 + (b * 256 + a) := by
    have := Nat.two_pow_add_eq_or_of_lt (i := 16) (b := b * 256 + a) (by omega) c
    rw [Nat.or_comm, Nat.mul_comm c]
    exact this.symm
  rw [h2]
  have h3 : (c * 65536 + (b * 256 + a)) ||| d * 16777216 = d * 16777216 + (c * 65536 + (b * 256 + a)) := by
    have := Nat.two_pow_add_eq_or_of_lt (i := 24) (b := c * 65536 + (b * 256 + a)) (by omega) d
    rw [Nat.or_comm, Nat.mul_comm d]
    exact this.symm
  rw [h3]
  omega
theorem i64_or_nat (a b : Nat) (ha : a < 4294967296) (hb : b < 4294967296) : bits .or .i64 (a : Int) (b : Int) = ((a ||| b : Nat) : Int) := by
  have hx : a ||| b < 2 ^ 32 := Nat.or_lt_two_pow (by omega) (by omega)
  show IntKind.i64.wrap ((BitVec.ofInt 64 (a : Int) ||| BitVec.ofInt 64 (b : Int)).toNat : Int) = _
  rw [BitVec.toNat_or, ofInt_u64 a (by omega), ofInt_u64 b (by omega)]
  rw [IntKind.wrap_i64]
  omega
theorem or_i64 {a b c d : Nat} (ha : a < 256) (hb : b < 256) (hc : c < 256) (hd : d < 256) :
    bits .or .i64 (bits .or .i64 (bits .or .i64 (a : Int) ((b : Int) * 256)) ((c : Int) * 65536)) ((d : Int) * 16777216) = ((a + 256 * b + 65536 * c + 16777216 * d : Nat) : Int) := by
  have x1 : a ||| b * 256 < 2 ^ 32 := Nat.or_lt_two_pow (by omega) (by omega)
  have x2 : (a ||| b * 256) ||| c * 65536 < 2 ^ 32 := Nat.or_lt_two_pow x1 (by omega)
  have e1 := i64_or_nat a (b * 256) (by omega) (by omega)
  have e2 := i64_or_nat (a ||| b * 256) (c * 65536) (by omega) (by omega)
  have e3 := i64_or_nat ((a ||| b * 256) ||| c * 65536) (d * 16777216) (by omega) (by omega)
  rw [or_num ha hb hc] at e3
  clear x1 x2
  rw [show (b : Int) * 256 = ((b * 256 : Nat) : Int) by omega, e1, show (c : Int) * 65536 = ((c * 65536 : Nat) : Int) by omega, e2, show (d : Int) * 16777216 = ((d * 16777216 : Nat) : Int) by omega, e3]
set_option maxHeartbeats 400000 in
theorem number_any (s : Sec) (w : World) (h : s.Ok) :
    Calls Try.prog 38 #[.agg (encS s).toArray] w fun e w' => e = .returned (.int .i64 (s.num : Nat)) ∧ Below w.heap.size w w' := by
  obtain ⟨ha, hb, hc, hd, _⟩ := h
  unfold encS
  go_enter Try.func38, Try.ntmps38
  go_wp2
  go_ret
  exact ⟨congrArg (fun x => Ending.returned (.int .i64 x)) (or_i64 ha hb hc hd), (Below.refl _ _).alloc (Nat.le_refl _) _⟩
theorem get_any (n c : Nat) (A : Option Addr) (l : List Nat) (w : World) (hn : n ≤ 4) (hR : Reads w w.heap.size 1 A n (u8s l)) (hl : AllB l) :
    Calls Try.prog 33 #[.slice A n c] w fun e w' => e = .returned (.int .i64 (ge l : Nat)) ∧ w = w' := by
  have hlen : l.length = n := by have := hR.1; rw [u8s_len] at this; omega
  have HL := Lib.hid hlen
  clear hlen
  go_enter Try.func33, Try.ntmps33
  go_wp2
  go_loop [3, 4] (fun x i => ∃ k : Nat, k ≤ n ∧ i = .int .i64 ((k : Int) - 1) ∧ x = .int .i64 (ge (l.drop k) : Nat)) (fun _ i => (intOf i + 1).toNat)
  case atStart => exact ⟨n, by omega, rfl, by rw [← HL.out]; simp [ge]⟩
  case round =>
    obtain ⟨k, hk, rfl, rfl⟩ := hrel
    by_cases hz : k = 0
    · subst hz
      go_wp2
      go_ret
      exact ⟨rfl, rfl⟩
    · obtain ⟨j, rfl⟩ : ∃ j, k = j + 1 := ⟨k - 1, by omega⟩
      have hd : ge (l.drop (j + 1)) < 16777216 := by
        have h := ge_lt (l := l.drop (j + 1)) (fun x hx => hl x (List.mem_of_mem_drop hx))
        refine Nat.lt_of_lt_of_le h ?_
        have : (l.drop (j + 1)).length ≤ 3 := by rw [List.length_drop, HL.out]; omega
        exact Nat.pow_le_pow_right (by omega) this
      have hj : j < l.length := by rw [HL.out]; omega
      have hx := hl l[j] (List.getElem_mem _)
      have HS : Hid (ge (l.drop j) = l[j] + 256 * ge (l.drop (j + 1))) := by show _ = _; rw [List.drop_eq_getElem_cons hj, ge]
      obtain ⟨ad, u, rfl, hb, hu, hc⟩ := hR.at_ (k := j) (by omega)
      have hu' : u = .int .u8 (l[j] : Int) := by
        simp [u8s, List.getElem?_eq_getElem hj] at hu
        exact hu.symm
      subst hu'
      clear hu
      have e1 : ((j + 1 : Nat) : Int) - 1 = (j : Int) := by omega
      generalize l[j] = x at *
      generalize ge (l.drop (j + 1)) = y at *
      rw [e1]
      have hj0 : (0 : Int) ≤ j := by omega
      have hjn : (j : Int) < n := by omega
      go_wp2
      go_round
      case rel => exact ⟨j, by omega, by go_num, by rw [HS.out]; go_num⟩
      case measure => simp [intOf]
theorem refNumber_any (s : Sec) (w : World) (h : s.Ok) :
    Calls Try.prog 32 #[.agg (encS s).toArray] w fun e w' => e = .returned (.int .i64 (s.num : Nat)) ∧ Below w.heap.size w w' := by
  have hA : AllB [s.a, s.b, s.c, s.d] := by
    obtain ⟨h1, h2, h3, h4, _⟩ := h
    intro x hx
    simp at hx
    rcases hx with rfl | rfl | rfl | rfl <;> assumption
  have hR : Reads (w.alloc (.cells (encS s).toArray 47)) (w.alloc (.cells (encS s).toArray 47)).heap.size 1 (some ⟨w.heap.size, 0, none⟩) 4 (u8s [s.a, s.b, s.c, s.d]) := (Blk.new w 47 (encS s).toArray).reads_take (size := 1) (n := 4) (by simp [encS_len])
  have HR := Lib.hid hR
  clear hR
  have hnum : ge [s.a, s.b, s.c, s.d] = s.num := by simp [ge, Sec.num]; omega
  go_enter Try.func32, Try.ntmps32
  go_wp2_with fail
  refine (get_any 4 8 _ [s.a, s.b, s.c, s.d] _ (by omega) HR.out hA).mono ?_
  rintro e w1 ⟨rfl, rfl⟩
  go_wp2_with fail
  go_ret
  exact ⟨rfl, (Below.refl _ _).alloc (Nat.le_refl _) _⟩
end Go.Proofs.Ytbiiahbhgjjhgaa
