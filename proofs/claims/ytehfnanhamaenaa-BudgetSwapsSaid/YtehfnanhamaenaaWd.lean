/- The walks of Clone and of New. Conditions: at most 1000 buckets. -/
import Derived.Test.YtehfnanhamaenaaWc
namespace Go.Proofs.Ytehfnanhamaenaa
open Go.RowKit
theorem info64 : (Try.prog.info? 64).map (fun i => (i.zero, i.size, i.bytes)) = some (some (.agg #[.int .i64 0, .int .i64 0, .int .i64 0, .int .i64 0]), 4, 32) := by kernel_rfl
theorem encBs_one (l : List Bk) : ∀ u ∈ encBs l, u.oneCell' = true := by
  intro u hu
  obtain ⟨b, _, hb⟩ := List.mem_flatMap.1 hu
  simp [encB] at hb
  rcases hb with rfl | rfl | rfl | rfl <;> rfl
/-- a slice of the call's own that holds the buckets l -/
def OwnB (base : Nat) (l : List Bk) (e : Ending) (w' : World) : Prop := ∃ v, e = .returned v ∧ w'.ownsRow base 64 4 v l.length (encBs l)
set_option maxHeartbeats 400000 in
theorem Clone_any (A : Option Addr) (n c : Nat) (l : List Bk) (w : World) (hR : RdB w A n l) (hn : n ≤ 1000) :
    Calls Try.prog 28 #[.slice A n c] w fun e w' => OwnB w.heap.size l e w' ∧ Below w.heap.size w w' := by
  have hlen := hR.len
  obtain ⟨i0, hi0, hz0, hz1, hz2⟩ := info_parts info64
  have HI := Lib.hid (And.intro hi0 (And.intro hz0 (And.intro hz1 hz2)))
  have HL := Lib.hid hlen
  clear hi0 hz0 hz1 hz2 hlen
  have hb0 : Below w.heap.size w (w.alloc (.cells #[] 64)) := (Below.refl _ w).alloc (Nat.le_refl _) _
  cases A with
  | none =>
    have h0 : n = 0 := by
      rcases Nat.eq_zero_or_pos n with h | h
      · exact h
      · obtain ⟨_, e, _⟩ := hR.2 h; cases e
    subst h0
    have hl : l = [] := List.eq_nil_of_length_eq_zero HL.out
    subst hl
    have hnil := fun (w : World) (a : Option Addr) (n c : Nat) => Lib.run_eql_slice_nil (P := Try.prog) w 22 64 a n c 0 0 Try.underlying22
    go_enter Try.func28, Try.ntmps28
    go_wp2
    go_ret
    exact ⟨⟨_, rfl, World.ownsRow_nil w _ 64 4⟩, Below.refl _ _⟩
  | some ad =>
    have hnil := fun (w : World) (a : Option Addr) (n c : Nat) => Lib.run_eql_slice_nil (P := Try.prog) w 22 64 a n c 0 0 Try.underlying22
    go_enter Try.func28, Try.ntmps28
    go_wp2_with (at_builtin; refine wpList_append_any _ rfl (.tmp 5) (.tmp 6) _ rfl w.heap.size 64 i0 _ 4 32 Try.underlying22 HI.out.1 HI.out.2.1 HI.out.2.2.1 HI.out.2.2.2 rfl (by omega) (.slice (some ⟨w.heap.size, 0, none⟩) 0 0) 0 [] rfl (own_empty _ _ _) w.heap.size (some ad) n c (encBs l) rfl (Reads.below hR hb0) (encBs_one _) (by simp only [maxLen]; omega) (by omega) (by simp) ?_; intro v1 w1 hown1 hg1 _; simp only [Nat.zero_add, List.nil_append] at hown1)
    go_ret
    exact ⟨⟨_, rfl, by rw [HL.out]; exact hown1⟩, hb0.grown hg1 (by simp) (by intro k hk; simp [Value.ownBlock] at hk; omega)⟩
end Go.Proofs.Ytehfnanhamaenaa
