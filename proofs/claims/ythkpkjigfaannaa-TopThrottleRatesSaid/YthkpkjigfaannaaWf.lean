/- The walks of Same, advance, Backlog. Condition: at most 1000 marks. -/
import Derived.Test.YthkpkjigfaannaaWc
import Derived.Test.YthkpkjigfaannaaWe
import Derived.Test.YthkpkjigfaannaaLibC
namespace Go.Proofs.Ythkpkjigfaannaa
open Go.RowKit
set_option maxRecDepth 100000 in
set_option maxHeartbeats 1000000 in
theorem Same_true (o r t b : Int) (A B : Option Addr) (n m c d : Nat) (l : List Mk) (w : World) (hA : RdM w A n l) (hB : RdM w B m l) (hn : n ≤ 1000) :
    Calls Try.prog 14 #[.agg #[.int .i64 o, .int .i64 r, .int .i64 t, .int .i64 b, .slice A n c], .agg #[.int .i64 o, .int .i64 r, .int .i64 t, .int .i64 b, .slice B m d]] w fun e w' => e = .returned (.bool true) ∧ Below w.heap.size w w' := by
  have hlen := hA.len
  subst hlen
  have hlen := hB.len
  subst hlen
  obtain ⟨X, hX⟩ : ∃ X, (w.alloc (.cells #[.int .i64 o, .int .i64 r, .int .i64 t, .int .i64 b, .slice A l.length c] 24)).alloc (.cells #[.int .i64 o, .int .i64 r, .int .i64 t, .int .i64 b, .slice B l.length d] 24) = X := ⟨_, rfl⟩
  have hbX : Below w.heap.size w X := by rw [← hX]; exact ((Below.refl _ w).alloc (Nat.le_refl _) _).alloc (by simp) _
  have hK0 : Blk X w.heap.size 24 #[.int .i64 o, .int .i64 r, .int .i64 t, .int .i64 b, .slice A l.length c] := by rw [← hX]; exact (Blk.new _ _ _).alloc _
  have hK1 : Blk X (w.heap.size + 1) 24 #[.int .i64 o, .int .i64 r, .int .i64 t, .int .i64 b, .slice B l.length d] := by
    have := Blk.new (w.alloc (.cells #[.int .i64 o, .int .i64 r, .int .i64 t, .int .i64 b, .slice A l.length c] 24)) 24 #[.int .i64 o, .int .i64 r, .int .i64 t, .int .i64 b, .slice B l.length d]
    rw [World.size_alloc] at this
    rw [← hX]; exact this
  obtain ⟨g1, o1, hg1, hc1⟩ := (hA.up hbX).cells
  obtain ⟨g2, o2, hg2, hc2⟩ := (hB.up hbX).cells
  have H := Lib.hid (And.intro hg1 (And.intro hc1 (And.intro hg2 hc2)))
  have HX := Lib.hid hX
  clear hg1 hc1 hg2 hc2 hA hB hX
  have hq := neq74
  go_enter Try.func14, Try.ntmps14
  go_wp2_with fail
  rw [HX.out]
  obtain ⟨a0, a1, a2, a3, a4, _⟩ := blk5 (Below.refl _ X) hK0 hK0.lt
  obtain ⟨b0, b1, b2, b3, b4, _⟩ := blk5 (Below.refl _ X) hK1 hK1.lt
  clear HX hK0 hK1
  go_loopw [5] (fun i wr => ∃ k q : Nat, k ≤ l.length ∧ i = .int .i64 k ∧ wr = X.drewN q) (fun i _ => l.length - (intOf i).toNat)
  case atStart => exact ⟨0, 0, by omega, rfl, rfl⟩
  case round =>
    obtain ⟨k, q, hk, rfl, rfl⟩ := hrel
    by_cases hlt : k < l.length
    · obtain ⟨rfl, hb1⟩ := H.out.1 (by omega)
      obtain ⟨rfl, hb2⟩ := H.out.2.2.1 (by omega)
      obtain ⟨d0, d1⟩ := H.out.2.1 k hlt
      obtain ⟨e0, e1⟩ := H.out.2.2.2 k hlt
      generalize atM l k = s at *
      have i0 : (k : Int) < l.length := by omega
      go_wp2
      go_quiet (fail)
      go_wp2
      go_roundw
      case rel => exact ⟨k + 1, _, by omega, by go_num, (by first | rfl | (rw [drewN_drewN]))⟩
      case measure => simp [intOf]; omega
    · go_wp2
      go_ret
      exact ⟨rfl, below_drewN hbX _⟩
/-- the error of advance -/
def advE (o r t b : Int) (l : List Mk) (now : Int) : Int := if chkTh o r t b l = 0 then (if betwB now t 1073741824 then 0 else 24) else chkTh o r t b l
set_option maxRecDepth 100000 in
set_option maxHeartbeats 2000000 in
theorem advance_any (P : Nat) (o r t b now : Int) (A : Option Addr) (n c : Nat) (l : List Mk) (w : World) (hP : Blk w P 76 #[.int .i64 o, .int .i64 r, .int .i64 t, .int .i64 b, .slice A n c]) (hR0 : Reads w P 2 A n (l.flatMap encM)) (hn : n ≤ 1000) :
    Calls Try.prog 33 #[.pointer (some ⟨P, 0, none⟩), .int .i64 now] w fun e w' => e = .returned (.int .i64 (advE o r t b l now)) ∧ Below P w w' ∧
      (advE o r t b l now = 0 → ∃ A' c', Blk w' P 76 #[.int .i64 o, .int .i64 r, .int .i64 now, .int .i64 b, .slice A' n c'] ∧ w'.ownsRow (P + 1) 74 2 (.slice A' n c') n (l.flatMap encM)) := by
  have hlP := hP.lt
  obtain ⟨a0, a1, a2, a3, a4, _⟩ := blk5 (Below.refl _ w) hP hlP
  have HP := Lib.hid hP
  have hR : RdM w A n l := Reads.more hR0 (by omega)
  have HR := Lib.hid hR0
  have hCk := Check_any o r t b A n c l w hR hn
  obtain ⟨v, hv⟩ : ∃ v, chkTh o r t b l = v := ⟨_, rfl⟩
  rw [hv] at hCk
  have HCk := Lib.hid hCk
  clear hP hR hR0 hCk
  by_cases hv0 : v = 0
  · subst hv0
    cases hbt : betwB now t 1073741824
    · have HE : Hid (advE o r t b l now = 24) := by rw [Hid, advE, if_pos hv, hbt]; rfl
      have HB := Lib.hid hbt
      clear hbt hv
      go_enter Try.func33, Try.ntmps33
      go_wp2_with fail
      refine HCk.out.mono ?_
      rintro e w1 ⟨rfl, hb1⟩
      obtain ⟨f0, f1, f2, f3, f4, _⟩ := blk5 hb1 HP.out hlP
      have l1 : P < w1.heap.size := Nat.lt_of_lt_of_le hlP hb1.size
      go_wp2_with fail
      refine (between_any now t 1073741824 _).mono ?_
      rintro e w2 ⟨rfl, rfl⟩
      rw [HB.out]
      go_wp2_with fail
      go_ret
      exact ⟨ret_int HE.out.symm, hb1.mono (by omega), fun h => by rw [HE.out] at h; cases h⟩
    · have HE : Hid (advE o r t b l now = 0) := by rw [Hid, advE, if_pos hv, hbt]; rfl
      have HB := Lib.hid hbt
      clear hbt hv
      go_enter Try.func33, Try.ntmps33
      go_wp2_with fail
      refine HCk.out.mono ?_
      rintro e w1 ⟨rfl, hb1⟩
      have HK1 := Lib.hid (HP.out.below hb1 hlP)
      obtain ⟨f0, f1, f2, f3, f4, _⟩ := blk5 hb1 HP.out hlP
      have l1 : P < w1.heap.size := Nat.lt_of_lt_of_le hlP hb1.size
      have z2 : w1.frozen? ⟨P, 2, none⟩ = false := HK1.out.frozen 2
      have HBP := Lib.hid (hb1.mono (show P ≤ w.heap.size by omega))
      have HCl := Lib.hid (fun (W2 : World) (h2 : Below P w W2) => Clone_any A n c l W2 (Reads.more (HR.out.below h2) (by have := h2.size; omega)) hn)
      go_wp2_with fail
      refine (between_any now t 1073741824 _).mono ?_
      rintro e w2 ⟨rfl, rfl⟩
      rw [HB.out]
      go_wp2_with fail
      have hb2 : Below P w (w1.setCell ⟨P, 2, none⟩ (.int .i64 now)) := HBP.out.setCell (p := ⟨P, 2, none⟩) (Nat.le_refl _) _
      have hk2 : Blk (w1.setCell ⟨P, 2, none⟩ (.int .i64 now)) P 76 #[.int .i64 o, .int .i64 r, .int .i64 now, .int .i64 b, .slice A n c] := HK1.out.set_ 2 (.int .i64 now)
      generalize (w1.setCell ⟨P, 2, none⟩ (.int .i64 now)) = W2 at *
      refine (HCl.out W2 hb2).mono ?_
      rintro e w3 ⟨⟨v, rfl, hown⟩, hb3⟩
      have hk3 := hk2.below hb3 hk2.lt
      have hl2 := hk2.lt
      have hs3 := hb3.size
      obtain ⟨A', c', rfl, _, _, _⟩ := own_slice hown
      obtain ⟨g0, g1, g2, g3, g4, _⟩ := blk5 (Below.refl _ w3) hk3 hk3.lt
      have z4 : w3.frozen? ⟨P, 4, none⟩ = false := hk3.frozen 4
      have HF := Lib.hid (And.intro hk3 (And.intro (hb2.trans (hb3.mono (by omega))) hown))
      have l3 : P < w3.heap.size := hk3.lt
      clear hb2 hk2 hb3 hk3 hown f0 f1 f2 f3 f4 z2
      go_wp2_with fail
      go_ret
      refine ⟨ret_int HE.out.symm, HF.out.2.1.setCell (p := ⟨P, 4, none⟩) (Nat.le_refl _) _, fun _ => ⟨A', c', HF.out.1.set_ 4 (.slice A' n c'), ?_⟩⟩
      refine own_far (own_base HF.out.2.2 (by omega)) (p := ⟨P, 4, none⟩) (fun q => ?_) _
      have := own_block_ge HF.out.2.2 P q
      omega
  · have hv0' : (v != 0) = true := by simpa using hv0
    have HE : Hid (advE o r t b l now = v) := by rw [Hid, advE, if_neg (by rw [hv]; exact hv0), hv]
    clear hv
    go_enter Try.func33, Try.ntmps33
    go_wp2_with fail
    refine HCk.out.mono ?_
    rintro e w1 ⟨rfl, hb1⟩
    go_wp2_with fail
    go_ret
    exact ⟨ret_int HE.out.symm, hb1.mono (by omega), fun h => by rw [HE.out] at h; exact absurd h hv0⟩
end Go.Proofs.Ythkpkjigfaannaa
