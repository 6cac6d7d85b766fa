/- The walks of Raise, Shut. No condition. -/
import Derived.Test.YtggaaajkbnhofaaWd
namespace Go.Proofs.Ytggaaajkbnhofaa
open Go.RowKit
def fenceV (x o : Int) (c : Bool) : Value := .agg #[.int .i64 x, .int .i64 o, .bool c]
def raiseV (x o n s : Int) : Int := if fenceB x o then (if fenceB n s then (if x < n then 0 else 13) else 2) else 2
def fenceR (v x o : Int) (c : Bool) : Value := if v = 0 then fenceV x o c else fenceV 0 0 false
set_option maxRecDepth 100000 in
set_option maxHeartbeats 1000000 in
theorem Raise_any (x o n s : Int) (c : Bool) (w : World) :
    Calls Try.prog 26 #[.agg #[.int .i64 x, .int .i64 o, .bool c], .int .i64 n, .int .i64 s] w fun e w' => e = .returned (.tuple #[fenceR (raiseV x o n s) n s false, .int .i64 (raiseV x o n s)]) ∧ Below w.heap.size w w' := by
  have hB0 : Below w.heap.size w ((((w.alloc (.cells #[.int .i64 x, .int .i64 o, .bool c] 37)).alloc (.cells #[.int .i64 n] 3)).alloc (.cells #[.int .i64 s] 3)).alloc (.cells #[.int .i64 0, .int .i64 0, .bool false] 37)) := (((((Below.refl _ w).alloc (by simp <;> omega) _).alloc (by simp <;> omega) _).alloc (by simp <;> omega) _).alloc (by simp <;> omega) _)
  have hK0 : Blk ((((w.alloc (.cells #[.int .i64 x, .int .i64 o, .bool c] 37)).alloc (.cells #[.int .i64 n] 3)).alloc (.cells #[.int .i64 s] 3)).alloc (.cells #[.int .i64 0, .int .i64 0, .bool false] 37)) (w.heap.size + 3) 37 #[.int .i64 0, .int .i64 0, .bool false] := by have := Blk.new (((w.alloc (.cells #[.int .i64 x, .int .i64 o, .bool c] 37)).alloc (.cells #[.int .i64 n] 3)).alloc (.cells #[.int .i64 s] 3)) 37 #[.int .i64 0, .int .i64 0, .bool false]; simpa using this
  have HK0 := Lib.hid hK0
  clear hK0
  obtain ⟨v, hvv⟩ : ∃ v, raiseV x o n s = v := ⟨_, rfl⟩
  rw [hvv]
  have HVV := Lib.hid hvv
  clear hvv
  go_enter Try.func26, Try.ntmps26
  go_wp2_with fail
  refine (order_any _ _ _ _).mono ?_
  rintro e w1 ⟨⟨B, hB, rfl, hB1, hc0, hc1⟩, hb1⟩
  have hB2 := hB0.trans (hb1.mono hB0.size)
  obtain ⟨hc, _⟩ := bcell hb1
  have hz := hb1.size
  simp only [World.size_alloc] at hz
  have HK1 := Lib.hid (HK0.out.below hb1 (by simp <;> omega))
  go_wp2_with fail
  refine (first_new [⟨41, #[.pointer (some ⟨B, 0, none⟩)], fenceB x o, 2⟩, ⟨34, #[.pointer (some ⟨w.heap.size + 1, 0, none⟩), .pointer (some ⟨w.heap.size + 2, 0, none⟩)], fenceB n s, 2⟩, ⟨37, #[.pointer (some ⟨w.heap.size + 1, 0, none⟩), .pointer (some ⟨w.heap.size, 0, none⟩)], decide (x < n), 13⟩] 3 w1 _ rfl 3 rfl (by decide) ?_).mono ?_
  · intro r hr
    simp only [List.mem_cons, List.not_mem_nil, or_false] at hr
    rcases hr with rfl | rfl | rfl
    · exact order1_ok B x o w1 hB1 hc0 hc1
    · exact rai1_ok _ _ n s w1 (by omega) (by omega) ((hc _ _ (by simp <;> omega)).trans (by go_simp)) ((hc _ _ (by simp <;> omega)).trans (by go_simp))
    · exact rai2_ok _ _ n x w1 (by omega) (by omega) ((hc _ _ (by simp <;> omega)).trans (by go_simp)) ((hc _ _ (by simp <;> omega)).trans (by go_simp))
  · rintro e w2 ⟨rfl, hb2⟩
    have hv : firstV [⟨41, #[.pointer (some ⟨B, 0, none⟩)], fenceB x o, 2⟩, ⟨34, #[.pointer (some ⟨w.heap.size + 1, 0, none⟩), .pointer (some ⟨w.heap.size + 2, 0, none⟩)], fenceB n s, 2⟩, ⟨37, #[.pointer (some ⟨w.heap.size + 1, 0, none⟩), .pointer (some ⟨w.heap.size, 0, none⟩)], decide (x < n), 13⟩] = v := by
      rw [← HVV.out]
      simp only [firstV, raiseV]
      (repeat' split) <;> simp_all
    rw [hv]
    have HK2 := Lib.hid (HK1.out.below hb2 (by omega))
    have e1 : w2.cell? ⟨w.heap.size + 1, 0, none⟩ = some (.int .i64 n) := (hb2.cell (p := ⟨w.heap.size + 1, 0, none⟩) (by show w.heap.size + 1 < _; omega)).trans ((hc _ _ (by simp <;> omega)).trans (by go_simp))
    have e2 : w2.cell? ⟨w.heap.size + 2, 0, none⟩ = some (.int .i64 s) := (hb2.cell (p := ⟨w.heap.size + 2, 0, none⟩) (by show w.heap.size + 2 < _; omega)).trans ((hc _ _ (by simp <;> omega)).trans (by go_simp))
    have hB3 := hB2.trans (hb2.mono hB2.size)
    have c0 := HK2.out.cell 0
    have c1 := HK2.out.cell 1
    have c2 := HK2.out.cell 2
    have f0 := HK2.out.frozen 0
    have f1 := HK2.out.frozen 1
    have f2 := HK2.out.frozen 2
    simp only [List.getElem?_toArray, List.getElem?_cons_zero, List.getElem?_cons_succ] at c0 c1 c2
    clear hv hc
    by_cases cv : v = 0
    · subst cv
      go_wp2_with fail
      refine bodyPost_ret (results_cell_tmp rfl _ _ _ _ _ _ rfl (set3 HK2.out) Try.underlying37 rfl info37) rfl ?_
      exact ⟨rfl, bel3 hB3 (by omega)⟩
    · have hne : (v != 0) = true := by rw [bne_iff_ne]; exact cv
      have HV := Lib.hid cv
      clear cv
      go_wp2_with fail
      refine bodyPost_ret (results_cell_tmp rfl _ _ _ _ _ _ rfl (set3 HK2.out) Try.underlying37 rfl info37) rfl ?_
      exact ⟨by unfold fenceR; rw [if_neg HV.out]; rfl, bel3 hB3 (by omega)⟩
end Go.Proofs.Ytggaaajkbnhofaa
