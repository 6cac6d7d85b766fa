/- The walks of Or, compare. No condition. -/
import Derived.Test.YtknedclejhiegaaWa
import Derived.Test.YtknedclejhiegaaLibX
import Derived.StillTailTactics
namespace Go.Proofs.Ytknedclejhiegaa
open Go.RowKit
def orI (x y : Int) : Int := if x = 0 then y else x
theorem cmp_still (x y : Int) (w : World) : Calls Try.prog 45 #[.int .i64 x, .int .i64 y] w fun e w' => e = .returned (.int .i64 (cmpI x y)) ∧ w' = w := (cmp_any x y w).mono fun _ _ ⟨a, b⟩ => ⟨a, b.symm⟩
theorem or_left {x : Int} (y : Int) (h : ¬ x = 0) : orI x y = x := by unfold orI; rw [if_neg h]
set_option maxHeartbeats 1000000 in
theorem Or_two (g : Nat) (x y : Int) (w : World) (h0 : w.cell? ⟨g, 0, none⟩ = some (.int .i64 x)) (h1 : w.cell? ⟨g, 1, none⟩ = some (.int .i64 y)) :
    Calls Try.prog 44 #[.slice (some ⟨g, 0, none⟩) 2 2] w fun e w' => e = .returned (.int .i64 (orI x y)) ∧ w = w' := by
  by_cases hx : x = 0
  · subst hx
    by_cases hy : y = 0
    · subst hy
      go_enter Try.func44, Try.ntmps44
      go_wp2_with fail
      go_loop [8] (fun i => ∃ k : Nat, k ≤ 2 ∧ i = .int .i64 k) (fun i => 2 - (intOf i).toNat)
      case atStart => exact ⟨0, by omega, rfl⟩
      case round =>
        obtain ⟨k, hk, rfl⟩ := hrel
        rcases (by omega : k = 0 ∨ k = 1 ∨ k = 2) with rfl | rfl | rfl
        · go_wp2_with fail
          go_round
          case rel => exact ⟨1, by omega, rfl⟩
          case measure => simp [intOf]
        · go_wp2_with fail
          go_round
          case rel => exact ⟨2, by omega, rfl⟩
          case measure => simp [intOf]
        · go_wp2_with fail
          go_ret
          exact ⟨by simp [orI], rfl⟩
    · have hy1 : (y != 0) = true := by simpa using hy
      go_enter Try.func44, Try.ntmps44
      go_wp2_with fail
      go_loop [8] (fun i => ∃ k : Nat, k ≤ 1 ∧ i = .int .i64 k) (fun i => 2 - (intOf i).toNat)
      case atStart => exact ⟨0, by omega, rfl⟩
      case round =>
        obtain ⟨k, hk, rfl⟩ := hrel
        rcases (by omega : k = 0 ∨ k = 1) with rfl | rfl
        · go_wp2_with fail
          go_round
          case rel => exact ⟨1, by omega, rfl⟩
          case measure => simp [intOf]
        · go_wp2_with fail
          go_ret
          exact ⟨by simp [orI], rfl⟩
  · have hx1 : (x != 0) = true := by simpa using hx
    have HO := Lib.hid (or_left y hx)
    go_enter Try.func44, Try.ntmps44
    go_wp2_with fail
    go_loop [8] (fun i => i = .int .i64 0) (fun i => 2 - (intOf i).toNat)
    case atStart => rfl
    case round =>
      subst hrel
      go_wp2_with fail
      go_ret
      exact ⟨ret_int HO.out.symm, rfl⟩
set_option maxHeartbeats 1000000 in
theorem compare_any (t n k o t' n' k' o' : Int) (A A' : Option Addr) (m c m' c' : Nat) (w : World) :
    Calls Try.prog 30 #[.agg (evC t n k o A m c), .agg (evC t' n' k' o' A' m' c')] w fun e w' => e = .returned (.int .i64 (orI (cmpI t t') (cmpI n n'))) ∧ Below w.heap.size w w' := by
  unfold evC
  have hb : Below w.heap.size w ((w.alloc (.cells #[.int .i64 t, .int .i64 n, .int .i64 k, .int .i64 o, .slice A m c] 61)).alloc (.cells #[.int .i64 t', .int .i64 n', .int .i64 k', .int .i64 o', .slice A' m' c'] 61)) := ((Below.refl _ _).alloc (Nat.le_refl _) _).alloc (by simp) _
  have g0 : Blk ((w.alloc (.cells #[.int .i64 t, .int .i64 n, .int .i64 k, .int .i64 o, .slice A m c] 61)).alloc (.cells #[.int .i64 t', .int .i64 n', .int .i64 k', .int .i64 o', .slice A' m' c'] 61)) w.heap.size 61 _ := (Blk.new w 61 #[.int .i64 t, .int .i64 n, .int .i64 k, .int .i64 o, .slice A m c]).alloc _
  have g1 := Blk.new (w.alloc (.cells #[.int .i64 t, .int .i64 n, .int .i64 k, .int .i64 o, .slice A m c] 61)) 61 #[.int .i64 t', .int .i64 n', .int .i64 k', .int .i64 o', .slice A' m' c']
  rw [World.size_alloc] at g1
  have HB := Lib.hid hb
  clear hb
  go_enter Try.func30, Try.ntmps30
  go_wp2_with fail
  generalize ((w.alloc (.cells #[.int .i64 t, .int .i64 n, .int .i64 k, .int .i64 o, .slice A m c] 61)).alloc (.cells #[.int .i64 t', .int .i64 n', .int .i64 k', .int .i64 o', .slice A' m' c'] 61)) = W at *
  refine wp_region_still_tail 10 (by kernel_rfl) (by kernel_rfl) ?_
  simp only [List.take_succ_cons, List.take_zero, List.drop_succ_cons, List.drop_zero]
  change wpStill _ _ W.drew _ _ _
  have x0 : W.drew.cell? ⟨w.heap.size, 0, none⟩ = some (.int .i64 t) := g0.cell 0
  have x1 : W.drew.cell? ⟨w.heap.size, 1, none⟩ = some (.int .i64 n) := g0.cell 1
  have y0 : W.drew.cell? ⟨w.heap.size + 1, 0, none⟩ = some (.int .i64 t') := g1.cell 0
  have y1 : W.drew.cell? ⟨w.heap.size + 1, 1, none⟩ = some (.int .i64 n') := g1.cell 1
  have hbd : Below w.heap.size w W.drew := HB.out.drew
  have HD := Lib.hid hbd
  clear hbd g0 g1
  repeat still_step
  still_call (cmp_still _ _ _)
  repeat still_step
  still_call (cmp_still _ _ _)
  refine wpStill_nil ?_
  obtain ⟨x, hx⟩ : ∃ x, cmpI t t' = x := ⟨_, rfl⟩
  obtain ⟨y, hy⟩ : ∃ y, cmpI n n' = y := ⟨_, rfl⟩
  rw [hx, hy]
  have HX := Lib.hid (And.intro hx hy)
  clear hx hy
  clear x0 x1 y0 y1
  go_wp2_with fail
  have q0 : ((W.alloc (.cells #[.int .i64 x, .int .i64 y] 3)).drew).cell? ⟨W.heap.size, 0, none⟩ = some (.int .i64 x) := (Blk.new W 3 #[.int .i64 x, .int .i64 y]).cell 0
  have q1 : ((W.alloc (.cells #[.int .i64 x, .int .i64 y] 3)).drew).cell? ⟨W.heap.size, 1, none⟩ = some (.int .i64 y) := (Blk.new W 3 #[.int .i64 x, .int .i64 y]).cell 1
  have hbv : Below w.heap.size w ((W.alloc (.cells #[.int .i64 x, .int .i64 y] 3)).drew) := (HB.out.alloc HB.out.size _).drew
  have HV := Lib.hid hbv
  clear hbv
  generalize (W.alloc (.cells #[.int .i64 x, .int .i64 y] 3)).drew = V2 at *
  generalize W.heap.size = g at *
  have HO := Or_two g x y V2 q0 q1
  obtain ⟨z, hz⟩ : ∃ z, orI x y = z := ⟨_, rfl⟩
  rw [hz] at HO
  have HZ := Lib.hid hz
  clear hz
  refine HO.mono ?_
  rintro e w1 ⟨rfl, rfl⟩
  clear q0 q1 HO
  go_wp2_with fail
  go_ret
  exact ⟨ret_int (by rw [HX.out.1, HX.out.2, HZ.out]), HV.out⟩
/-- an event does not stand behind another -/
theorem compare_bef (e f : Em) : decide (0 ≤ orI (cmpI e.t f.t) (cmpI e.n f.n)) = !befB e f := by
  unfold orI cmpI befB
  rcases Int.lt_trichotomy e.t f.t with h | h | h
  · have h1 : ¬ f.t < e.t := by omega
    simp [h]
  · by_cases h2 : e.n < f.n
    · simp [h, h2]
    · have h3 : ¬ (e.t < f.t ∨ (e.t = f.t ∧ e.n < f.n)) := by omega
      rw [decide_eq_false h3]
      simp [h, h2]
      split <;> simp
  · have h1 : ¬ e.t < f.t := by omega
    have h3 : ¬ (e.t < f.t ∨ (e.t = f.t ∧ e.n < f.n)) := by omega
    rw [decide_eq_false h3]
    simp [h, h1]
end Go.Proofs.Ytknedclejhiegaa
