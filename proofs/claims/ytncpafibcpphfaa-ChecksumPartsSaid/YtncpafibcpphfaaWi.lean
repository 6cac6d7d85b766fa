/- The walks of the reference's Bytes and Sectors. Conditions: at most 10000 sectors. -/
import Derived.Test.YtncpafibcpphfaaWh
namespace Go.Proofs.Ytncpafibcpphfaa
open Go.RowKit
theorem info5b : (Try.prog.info? 5).map (fun i => (i.zero, i.size, i.bytes)) = some (some (.int .u8 0), 1, 1) := by kernel_rfl
theorem b8s_snoc (l : List B8) (x : B8) : b8s (l ++ [x]) = b8s l ++ [.int .u8 (x.1 : Int)] := by
  unfold b8s
  rw [List.map_append]
  rfl
set_option maxHeartbeats 1000000 in
theorem refBytes_any (n cap : Nat) (A : Option Addr) (xs : List B8) (w : World) (hn : n ≤ 10000) (hR : Reads w w.heap.size 8 A n (b8s xs)) :
    Calls Try.prog 26 #[.slice A n cap] w fun e w' => (∃ v, e = .returned v ∧ w'.ownsRow w.heap.size 5 1 v (n * 8) (b8s xs)) ∧ Below w.heap.size w w' := by
  have hl : xs.length = n * 8 := by have := hR.1; rw [b8s_len] at this; omega
  have HL := Lib.hid hl
  clear hl
  obtain ⟨i0, hi0, hz0, hz1, hz2⟩ := info_parts info5b
  have HI := Lib.hid (And.intro hi0 (And.intro hz0 (And.intro hz1 hz2)))
  clear hi0 hz0 hz1 hz2
  go_enter Try.func26, Try.ntmps26
  go_wp2
  go_loopw [3, 4] (fun v i wr => ∃ k : Nat, k ≤ n ∧ i = .int .i64 k ∧ wr.ownsRow w.heap.size 5 1 v (k * 8) (b8s (xs.take (k * 8))) ∧ Below w.heap.size w wr) (fun _ i _ => n - (intOf i).toNat)
  case atStart => exact ⟨0, by omega, rfl, by simpa [b8s] using World.ownsRow_nil w w.heap.size 5 1, Below.refl _ _⟩
  case round =>
    obtain ⟨k, hk, rfl, hown, hb⟩ := hrel
    obtain ⟨wo, rfl⟩ : ∃ wo : World, wo = wr := ⟨_, rfl⟩
    by_cases hlt : k < n
    · obtain ⟨b, off, rfl, hbb, hc⟩ := hR.plain (by omega) (by omega)
      go_wp2
      go_loopw [3, 5] (fun v i wr => ∃ j : Nat, j ≤ 8 ∧ i = .int .i64 j ∧ wr.ownsRow w.heap.size 5 1 v (k * 8 + j) (b8s (xs.take (k * 8 + j))) ∧ Below w.heap.size w wr) (fun _ i _ => 8 - (intOf i).toNat)
      case atStart => exact ⟨0, by omega, rfl, hown, hb⟩
      case round =>
        obtain ⟨j, hj, rfl, hown1, hb1⟩ := hrel
        by_cases hj8 : j < 8
        · have hkl : k * 8 + j < xs.length := by rw [HL.out]; omega
          have hcell : wr.cell? ⟨b, off + k * 8 + j, none⟩ = some (.int .u8 ((xs[k * 8 + j]).1 : Int)) := by
            rw [hb1.cell hbb, Nat.add_assoc]
            exact hc _ _ (b8s_get xs _ hkl)
          have hnext : b8s (xs.take (k * 8 + (j + 1))) = b8s (xs.take (k * 8 + j)) ++ [.int .u8 ((xs[k * 8 + j]).1 : Int)] := by
            rw [← Nat.add_assoc, ← List.take_append_getElem hkl, b8s_snoc]
          have HN := Lib.hid hnext
          have HC := Lib.hid hc
          have HO := Lib.hid hown1
          clear hnext hc hown1
          generalize (xs[k * 8 + j]).1 = x at *
          go_wp2_with (at_builtin; refine wpList_append_elem wr rfl (.tmp 16) (.tmp 23) _ rfl w.heap.size 5 i0 _ 1 1 Try.underlying26 HI.out.1 HI.out.2.1 HI.out.2.2.1 HI.out.2.2.2 rfl (by omega) u3 (k * 8 + j) (b8s (xs.take (k * 8 + j))) #[.int .u8 (x : Int)] rfl rfl rfl HO.out (by simp [Value.oneCell']) (by simp only [maxLen]; omega) (by omega) hb1.size ?_; intro v2 w2 hown2 hb2)
          rw [← HN.out] at hown2
          go_roundw
          case rel => exact ⟨j + 1, by omega, by go_num, hown2, hb1.trans hb2⟩
          case measure => simp [intOf]; omega
        · have hj' : j = 8 := by omega
          have hown2 : wr.ownsRow w.heap.size 5 1 u3 ((k + 1) * 8) (b8s (xs.take ((k + 1) * 8))) := by rw [show (k + 1) * 8 = k * 8 + j by omega]; exact hown1
          have HO := Lib.hid hown2
          clear hown1 hown2
          go_wp2
          go_roundw
          case rel => exact ⟨k + 1, by omega, by go_num, HO.out, hb1⟩
          case measure => simp [intOf]; omega
    · have hkn : k = n := by omega
      go_wp2
      go_ret
      subst hkn
      rw [List.take_of_length_le (by rw [HL.out]; exact Nat.le_refl _)] at hown
      exact ⟨⟨_, rfl, hown⟩, hb⟩
set_option maxHeartbeats 400000 in
theorem refSectors_any (n cap : Nat) (A : Option Addr) (xs : List B8) (w : World) (hn : n ≤ 10000) (hR : Reads w w.heap.size 8 A n (b8s xs)) :
    Calls Try.prog 18 #[.slice A n cap] w fun e w' => e = .returned (.int .u64 (dig xs : Nat)) ∧ Below w.heap.size w w' := by
  go_enter Try.func18, Try.ntmps18
  go_wp2_with fail
  refine (refBytes_any n cap A xs w hn hR).mono ?_
  rintro e w1 ⟨⟨v, rfl, hown⟩, hb1⟩
  obtain ⟨A2, c2, rfl, _, _, hr2⟩ := own_slice hown
  clear hown
  go_wp2_with fail
  refine (refDigest_any (n * 8) c2 A2 xs w1 (by omega) hr2).mono ?_
  rintro e w2 ⟨rfl, rfl⟩
  go_wp2_with fail
  go_ret
  exact ⟨rfl, hb1⟩
end Go.Proofs.Ytncpafibcpphfaa
