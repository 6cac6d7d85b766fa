/- The walk of Encode, with its errors. Condition: at most 100000 bytes. -/
import Derived.Test.YtbiiahbhgjjhgaaWm
namespace Go.Proofs.Ytbiiahbhgjjhgaa
open Go.RowKit Go.Shelf
attribute [local go_sem] Oper.semAt_some
def badK (k q : Int) : Bool := decide (k < 1 ∨ 255 < k ∨ q < 1 ∨ 4294967295 < q)
/-- what Encode answers -/
def encE (k q : Int) (p : List Nat) : Nat × List Sec := if badK k q = true then (2, []) else if 4096 < p.length then (5, []) else (0, encR k.toNat q.toNat p)
structure EncRes (w : World) (r : Nat × List Sec) (e : Ending) (w' : World) : Prop where
  bel : Below w.heap.size w w'
  val : ∃ A c, e = .returned (.tuple #[.slice A r.2.length c, .int .i64 (r.1 : Nat)]) ∧ Reads w' w'.heap.size 8 A r.2.length (r.2.flatMap encS) ∧ r.2.length ≤ c ∧ c ≤ maxLen
theorem encRes_err {w w' : World} {k : Nat} (hb : Below w.heap.size w w') : EncRes w (k, []) (.returned (.tuple #[.slice none 0 0, .int .i64 (k : Nat)])) w' :=
  ⟨hb, none, 0, rfl, Reads.none_, Nat.le_refl _, Nat.zero_le _⟩
set_option maxHeartbeats 1000000 in
theorem Encode_bad (k q : Int) (n c : Nat) (A : Option Addr) (w : World) (h : badK k q = true) :
    Calls Try.prog 14 #[.agg #[.int .i64 k, .int .i64 q, .slice A n c]] w (EncRes w (2, [])) := by
  have h' : k < 1 ∨ 255 < k ∨ q < 1 ∨ 4294967295 < q := of_decide_eq_true h
  clear h
  by_cases h1 : k < 1
  · clear h'
    go_enter Try.func14, Try.ntmps14
    go_wp2_with fail
    refine bodyPost_ret (v := .tuple #[.slice none 0 0, .int .i64 2]) (by simp [results, Try.results14]) rfl ?_
    exact encRes_err ((Below.refl _ _).alloc (Nat.le_refl _) _)
  by_cases h2 : 255 < k
  · clear h'
    go_enter Try.func14, Try.ntmps14
    go_wp2_with fail
    refine bodyPost_ret (v := .tuple #[.slice none 0 0, .int .i64 2]) (by simp [results, Try.results14]) rfl ?_
    exact encRes_err ((Below.refl _ _).alloc (Nat.le_refl _) _)
  by_cases h3 : q < 1
  · clear h'
    go_enter Try.func14, Try.ntmps14
    go_wp2_with fail
    refine bodyPost_ret (v := .tuple #[.slice none 0 0, .int .i64 2]) (by simp [results, Try.results14]) rfl ?_
    exact encRes_err ((Below.refl _ _).alloc (Nat.le_refl _) _)
  have h4 : 4294967295 < q := by omega
  · clear h'
    go_enter Try.func14, Try.ntmps14
    go_wp2_with fail
    refine bodyPost_ret (v := .tuple #[.slice none 0 0, .int .i64 2]) (by simp [results, Try.results14]) rfl ?_
    exact encRes_err ((Below.refl _ _).alloc (Nat.le_refl _) _)
theorem Encode_long (k q : Int) (n c : Nat) (A : Option Addr) (w : World) (h : badK k q = false) (hn : 4096 < n) :
    Calls Try.prog 14 #[.agg #[.int .i64 k, .int .i64 q, .slice A n c]] w (EncRes w (5, [])) := by
  have h' : ¬ (k < 1 ∨ 255 < k ∨ q < 1 ∨ 4294967295 < q) := of_decide_eq_false h
  have h1 : ¬ k < 1 := by omega
  have h2 : ¬ 255 < k := by omega
  have h3 : ¬ q < 1 := by omega
  have h4 : ¬ 4294967295 < q := by omega
  have h5 : (4096 : Int) < n := by omega
  clear h h'
  · go_enter Try.func14, Try.ntmps14
    go_wp2_with fail
    refine bodyPost_ret (v := .tuple #[.slice none 0 0, .int .i64 5]) (by simp [results, Try.results14]) rfl ?_
    exact encRes_err ((Below.refl _ _).alloc (Nat.le_refl _) _)
theorem Encode_any (k q : Int) (n c : Nat) (A : Option Addr) (p : List Nat) (w : World) (hR : Reads w w.heap.size 1 A n (u8s p)) (hp : AllB p) :
    Calls Try.prog 14 #[.agg #[.int .i64 k, .int .i64 q, .slice A n c]] w (EncRes w (encE k q p)) := by
  have hlen : p.length = n := by have := hR.1; rw [u8s_len] at this; omega
  unfold encE
  by_cases hb : badK k q = true
  · rw [if_pos hb]
    exact Encode_bad k q n c A w hb
  · rw [if_neg hb]
    have hb' : badK k q = false := by simpa using hb
    by_cases hl : 4096 < p.length
    · rw [if_pos hl]
      exact Encode_long k q n c A w hb' (by omega)
    · rw [if_neg hl]
      have h' : ¬ (k < 1 ∨ 255 < k ∨ q < 1 ∨ 4294967295 < q) := of_decide_eq_false hb'
      obtain ⟨k, rfl⟩ := Int.eq_ofNat_of_zero_le (by omega : 0 ≤ k)
      obtain ⟨q, rfl⟩ := Int.eq_ofNat_of_zero_le (by omega : 0 ≤ q)
      refine (callsIn_wide.1 (Encode_in k q n c A p w (by omega) (by omega) (by omega) (by omega) hR (by omega) hp)).mono ?_
      rintro e w' ⟨⟨A', c', rfl, h1, h2, h3⟩, hb'⟩
      have e1 : (encR (k : Int).toNat (q : Int).toNat p).length = szN n := by rw [enc_len, hlen]
      exact ⟨hb', A', c', by dsimp only; rw [e1]; rfl, by dsimp only; rw [e1]; exact h1, by dsimp only; rw [e1]; exact h2, h3⟩
end Go.Proofs.Ytbiiahbhgjjhgaa
