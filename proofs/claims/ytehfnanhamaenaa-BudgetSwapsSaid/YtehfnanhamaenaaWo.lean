/- The walk of the reference's Path. Conditions: at most 1000 buckets, parents are below their children. -/
import Derived.Test.YtehfnanhamaenaaWn
namespace Go.Proofs.Ytehfnanhamaenaa
open Go.RowKit Go.Shelf
theorem info3 : (Try.prog.info? 3).map (fun i => (i.zero, i.size, i.bytes)) = some (some (.int .i64 0), 1, 8) := by kernel_rfl
def ints (l : List Nat) : List Value := l.map fun i : Nat => .int .i64 (i : Int)
theorem ints_len (l : List Nat) : (ints l).length = l.length := by simp [ints]
theorem ints_snoc (l : List Nat) (i : Nat) : ints (l ++ [i]) = ints l ++ (#[Value.int .i64 (i : Int)] : Array Value).toList := by simp [ints]
theorem ints_get (l : List Nat) (k : Nat) (h : k < l.length) : (ints l)[k]? = some (.int .i64 (l[k] : Int)) := by simp [ints, h]
set_option maxHeartbeats 1000000 in
theorem refPath_any (t : Int) (k : Nat) (A : Option Addr) (c : Nat) (l : List Bk) (w : World) (hR : RdB w A l.length l) (hn : l.length ≤ 1000) (hu : Up l) (hk : k < l.length) :
    Calls Try.prog 35 #[budV t A l.length c, .int .i64 k] w fun e w' => (∃ v, e = .returned v ∧ w'.ownsRow w.heap.size 3 1 v (pathL l k).length (ints (pathL l k))) ∧ Below w.heap.size w w' := by
  obtain ⟨i0, hi0, hz0, hz1, hz2⟩ := info_parts info3
  have HI := Lib.hid (And.intro hi0 (And.intro hz0 (And.intro hz1 hz2)))
  clear hi0 hz0 hz1 hz2
  have hB0 : Below w.heap.size w (w.alloc (.cells #[.int .i64 t, .slice A l.length c] 24)) := (Below.refl _ w).alloc (Nat.le_refl _) _
  have hK0 := Blk.new w 24 #[.int .i64 t, .slice A l.length c]
  have hsA : (w.alloc (.cells #[.int .i64 t, .slice A l.length c] 24)).heap.size = w.heap.size + 1 := by simp
  have HSA := Lib.hid hsA
  have hle := Lib.hid (pathL_le hu k (by omega))
  clear hsA
  go_enter Try.func35, Try.ntmps35
  go_wp2_with fail
  generalize (w.alloc (.cells #[.int .i64 t, .slice A l.length c] 24)) = WA at *
  go_loopw [1, 5] (fun i v wr => ∃ (pre : List Nat) (j : Int), i = .int .i64 j ∧ -1 ≤ j ∧ j < l.length ∧ pre ++ pathL l j = pathL l k ∧ wr.ownsRow WA.heap.size 3 1 v pre.length (ints pre) ∧ Blk wr w.heap.size 24 #[.int .i64 t, .slice A l.length c] ∧ Below w.heap.size w wr) (fun i _ _ => (intOf i + 1).toNat)
  case atStart => exact ⟨[], k, rfl, by omega, by omega, rfl, World.ownsRow_nil _ _ 3 1, hK0, hB0⟩
  case round =>
    obtain ⟨pre, j, rfl, hj1, hj2, hp, ho, hKb, hbr⟩ := hrel
    by_cases cj : j < 0
    · rw [pathL_neg l cj, List.append_nil] at hp
      subst hp
      have HO := Lib.hid ho
      clear ho
      go_wp2_with fail
      go_ret
      exact ⟨⟨_, rfl, own_base HO.out (by rw [HSA.out]; omega)⟩, hbr⟩
    · obtain ⟨i, rfl⟩ : ∃ i : Nat, j = i := ⟨j.toNat, by omega⟩
      have hi : i < l.length := by omega
      have hui := hu i hi
      have hst := pathL_step hu i hi
      rw [hst] at hp
      have hplen : pre.length < l.length := by
        have := congrArg List.length hp
        have h2 := hle.out
        simp at this
        omega
      have HP := Lib.hid hp
      obtain ⟨b, off, rfl, hbb, hc⟩ := hR.cells (by omega)
      obtain ⟨d0, _, _, _⟩ := hc i hi
      rw [← bkAt_lt l i hi] at d0
      clear hc hp hst
      have hszr := hKb.lt
      have HK := Lib.hid (And.intro hKb (And.intro ho (ints_snoc pre i)))
      have hWA : WA.heap.size ≤ wr.heap.size := by rw [HSA.out]; omega
      clear hKb ho
      go_wp2_with (at_builtin; go_must (refine wpList_append_elem wr rfl (.tmp 8) (.tmp 10) _ rfl WA.heap.size 3 i0 _ 1 8 Try.underlying76 HI.out.1 HI.out.2.1 HI.out.2.2.1 HI.out.2.2.2 rfl (by omega) _ pre.length (ints pre) #[.int .i64 (i : Int)] rfl rfl rfl HK.out.2.1 (by simp [Value.oneCell']) (by simp only [maxLen]; omega) (by omega) hWA ?_; intro v2 w2 hown2 hb2; rw [← HK.out.2.2] at hown2; have hK2 := HK.out.1.below hb2 (by rw [HSA.out]; omega); have kc1 : w2.cell? ⟨w.heap.size, 1, none⟩ = some (.slice (some ⟨b, off, none⟩) l.length c) := hK2.cell 1; have d0' := (hb2.cell (p := ⟨b, off + i * 4, none⟩) (by rw [HSA.out]; exact Nat.lt_succ_of_lt hbb)).trans ((hbr.cell (p := ⟨b, off + i * 4, none⟩) hbb).trans d0); have HK2 := Lib.hid (And.intro hK2 hown2); clear hK2 hown2))
      go_roundw
      case rel =>
        refine ⟨pre ++ [i], _, rfl, by omega, by omega, by rw [← HP.out]; simp, ?_, HK2.out.1, hbr.trans (hb2.mono (by rw [HSA.out]; omega))⟩
        rw [List.length_append]
        exact HK2.out.2
      case measure => simp [intOf]; omega
end Go.Proofs.Ytehfnanhamaenaa
