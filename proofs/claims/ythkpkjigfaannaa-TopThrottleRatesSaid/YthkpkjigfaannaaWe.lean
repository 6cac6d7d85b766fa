/- The walks of the reference's Total and tidy; Same; Clone; few. Condition: at most 1000 marks. -/
import Derived.Test.YthkpkjigfaannaaWa
import Derived.Test.YthkpkjigfaannaaLibC
namespace Go.Proofs.Ythkpkjigfaannaa
open Go.RowKit
theorem encM_one (l : List Mk) : ∀ u ∈ l.flatMap encM, u.oneCell' = true := by
  intro u hu
  obtain ⟨b, _, hb⟩ := List.mem_flatMap.1 hu
  simp [encM] at hb
  rcases hb with rfl | rfl <;> rfl
theorem one2 (a b : Int) : ∀ u ∈ [Value.int .i64 a, .int .i64 b], u.oneCell' = true := by simp [Value.oneCell']
theorem info74 : (Try.prog.info? 74).map (fun i => (i.zero, i.size, i.bytes)) = some (some (.agg #[.int .i64 0, .int .i64 0]), 2, 16) := by kernel_rfl
theorem RdM.of_own {w : World} {base : Nat} {v : Value} {n : Nat} {l : List Mk} (h : w.ownsRow base 74 2 v n (l.flatMap encM)) : ∃ A c, v = .slice A n c ∧ RdM w A n l ∧ n ≤ c ∧ c ≤ maxLen := by
  obtain ⟨A, c, hv, h1, h2, hr⟩ := own_slice h
  exact ⟨A, c, hv, hr, h1, h2⟩
theorem RdM.nil (w : World) : RdM w none 0 [] := Reads.none_
set_option maxRecDepth 100000 in
set_option maxHeartbeats 1000000 in
theorem refTotal_any (o r t b : Int) (A : Option Addr) (n c : Nat) (l : List Mk) (w : World) (hR : RdM w A n l) (hn : n ≤ 1000) :
    Calls Try.prog 37 #[.agg #[.int .i64 o, .int .i64 r, .int .i64 t, .int .i64 b, .slice A n c]] w fun e w' => e = .returned (.int .i64 (totM l)) ∧ Below w.heap.size w w' := by
  have hlen := hR.len
  subst hlen
  by_cases h0 : l.length = 0
  · have hl : l = [] := List.eq_nil_of_length_eq_zero h0
    subst hl
    clear hR
    go_enter Try.func37, Try.ntmps37
    go_wp2_with fail
    go_ret
    exact ⟨rfl, (Below.refl _ _).alloc (Nat.le_refl _) _⟩
  · obtain ⟨g, off, j, hj, rfl, hgw, d0, d1⟩ := hR.last h0 ⟨-1, 0⟩
    clear hR h0
    obtain ⟨⟨x, y⟩, hx⟩ : ∃ m, lastM ⟨-1, 0⟩ l = m := ⟨_, rfl⟩
    have HT : Hid (totM l = y) := by rw [Hid, totM, hx]
    rw [hx] at d0 d1
    rw [hj] at hn ⊢
    have jw : IntKind.i64.wrap ((j : Int) + 1 - 1) = j := by rw [IntWalk.i64_in _ (by omega)]; omega
    have jw2 : IntKind.i64.wrap (j : Int) = j := IntWalk.i64_in _ (by omega)
    clear hj hx
    go_enter Try.func37, Try.ntmps37
    go_wp2_with fail
    go_ret
    exact ⟨ret_int HT.out.symm, (Below.refl _ _).alloc (Nat.le_refl _) _⟩
/-- marks without those that are confirmed, but for the last one -/
def tidyM (x : Int) : List Mk → List Mk
  | [] => []
  | m :: l => if l = [] ∨ x < m.n then m :: tidyM x l else tidyM x l
theorem tidyM_len (x : Int) (l : List Mk) : (tidyM x l).length ≤ l.length := by
  induction l with
  | nil => exact Nat.le_refl _
  | cons m l ih =>
    simp only [tidyM]
    split <;> simp <;> omega
theorem tidyM_drop (x : Int) (l : List Mk) (k : Nat) (h : k < l.length) : tidyM x (l.drop k) = if k + 1 = l.length ∨ x < (atM l k).n then atM l k :: tidyM x (l.drop (k + 1)) else tidyM x (l.drop (k + 1)) := by
  have ha : atM l k = l[k] := by simp [atM, h]
  have he : (l.drop (k + 1) = []) ↔ k + 1 = l.length := by
    rw [List.drop_eq_nil_iff]
    omega
  rw [List.drop_eq_getElem_cons h, ha, tidyM]
  simp only [he]
set_option maxRecDepth 100000 in
set_option maxHeartbeats 2000000 in
theorem tidy_any (A : Option Addr) (n c : Nat) (x : Int) (l : List Mk) (w : World) (hR : RdM w A n l) (hn : n ≤ 1000) :
    Calls Try.prog 36 #[.slice A n c, .int .i64 x] w fun e w' => (∃ v, e = .returned v ∧ w'.ownsRow w.heap.size 74 2 v (tidyM x l).length ((tidyM x l).flatMap encM)) ∧ Below w.heap.size w w' := by
  have hlen := hR.len
  subst hlen
  obtain ⟨g, off, hg, hc⟩ := hR.cells
  obtain ⟨i0, hi0, hz0, hz1, hz2⟩ := info_parts info74
  have HI := Lib.hid (And.intro hi0 (And.intro hz0 (And.intro hz1 hz2)))
  clear hi0 hz0 hz1 hz2
  have HG := Lib.hid hg
  have HC := Lib.hid hc
  clear hg hc hR
  go_enter Try.func36, Try.ntmps36
  go_wp2_with fail
  go_loopw [5, 6] (fun v i wr => ∃ (k : Nat) (P : List Mk), k ≤ l.length ∧ P.length ≤ k ∧ i = .int .i64 k ∧ tidyM x l = P ++ tidyM x (l.drop k) ∧ wr.ownsRow w.heap.size 74 2 v P.length (P.flatMap encM) ∧ Below w.heap.size w wr) (fun _ i _ => l.length - (intOf i).toNat)
  case atStart => exact ⟨0, [], by omega, by simp, rfl, rfl, World.ownsRow_nil _ _ 74 2, Below.refl _ _⟩
  case round =>
    obtain ⟨k, P, hk, hP, rfl, ht, hown, hb⟩ := hrel
    have HO := Lib.hid (And.intro hown ht)
    clear hown ht
    have hbs := hb.size
    by_cases hlt : k < l.length
    · obtain ⟨rfl, hgw⟩ := HG.out (by omega)
      obtain ⟨d0, d1⟩ := HC.out k hlt
      replace d0 := (hb.cell (p := ⟨g, off + k * 2, none⟩) hgw).trans d0
      replace d1 := (hb.cell (p := ⟨g, off + k * 2 + 1, none⟩) hgw).trans d1
      have ik : (k : Int) < l.length := by omega
      have HS := Lib.hid (tidyM_drop x l k hlt)
      generalize atM l k = m at *
      obtain ⟨mt, mn⟩ := m
      change wr.cell? ⟨g, off + k * 2, none⟩ = some (.int .i64 mt) at d0
      change wr.cell? ⟨g, off + k * 2 + 1, none⟩ = some (.int .i64 mn) at d1
      by_cases hl1 : k + 1 = l.length
      · have HK : Hid (tidyM x (l.drop k) = ⟨mt, mn⟩ :: tidyM x (l.drop (k + 1))) := by rw [Hid, HS.out, if_pos (.inl hl1)]
        have i1 : (k : Int) + 1 = l.length := by omega
        have i2 : ((k : Int) + 1 == (l.length : Int)) = true := by rw [beq_iff_eq]; exact i1
        clear hl1 i1
        go_wp2_with (at_builtin; go_must (refine wpList_append_elem wr rfl (.tmp 27) (.tmp 32) _ rfl w.heap.size 74 i0 _ 2 16 Try.underlying22 HI.out.1 HI.out.2.1 HI.out.2.2.1 HI.out.2.2.2 rfl (by omega) u5 P.length (P.flatMap encM) #[.int .i64 mt, .int .i64 mn] rfl rfl rfl HO.out.1 (one2 _ _) (by simp only [maxLen]; omega) (by omega) hbs ?_; intro v2 w2 h2 hb2; have HT := Lib.hid (And.intro h2 hb2); clear h2 hb2))
        go_roundw
        case rel => exact ⟨k + 1, P ++ [⟨mt, mn⟩], by omega, by simp; omega, by go_num, by rw [HO.out.2, HK.out]; simp, by have h9 := HT.out.1; simpa [encM] using h9, hb.trans HT.out.2⟩
        case measure => simp [intOf]; omega
      · have i2 : ((k : Int) + 1 == (l.length : Int)) = false := by rw [beq_eq_false_iff_ne]; omega
        by_cases hx : x < mn
        · have HK : Hid (tidyM x (l.drop k) = ⟨mt, mn⟩ :: tidyM x (l.drop (k + 1))) := by rw [Hid, HS.out, if_pos (.inr hx)]
          clear hl1
          go_wp2_with (at_builtin; go_must (refine wpList_append_elem wr rfl (.tmp 27) (.tmp 32) _ rfl w.heap.size 74 i0 _ 2 16 Try.underlying22 HI.out.1 HI.out.2.1 HI.out.2.2.1 HI.out.2.2.2 rfl (by omega) u5 P.length (P.flatMap encM) #[.int .i64 mt, .int .i64 mn] rfl rfl rfl HO.out.1 (one2 _ _) (by simp only [maxLen]; omega) (by omega) hbs ?_; intro v2 w2 h2 hb2; have HT := Lib.hid (And.intro h2 hb2); clear h2 hb2))
          go_roundw
          case rel => exact ⟨k + 1, P ++ [⟨mt, mn⟩], by omega, by simp; omega, by go_num, by rw [HO.out.2, HK.out]; simp, by have h9 := HT.out.1; simpa [encM] using h9, hb.trans HT.out.2⟩
          case measure => simp [intOf]; omega
        · have HK : Hid (tidyM x (l.drop k) = tidyM x (l.drop (k + 1))) := by rw [Hid, HS.out, if_neg (by rintro (h | h); exact hl1 h; exact hx h)]
          clear hl1
          go_wp2_with fail
          go_roundw
          case rel => exact ⟨k + 1, P, by omega, by omega, by go_num, by rw [HO.out.2, HK.out], HO.out.1, hb⟩
          case measure => simp [intOf]; omega
    · go_wp2_with fail
      go_ret
      have hPe : tidyM x l = P := by rw [HO.out.2, List.drop_of_length_le (by omega)]; simp [tidyM]
      exact ⟨⟨_, rfl, by rw [hPe]; exact HO.out.1⟩, hb⟩
set_option maxRecDepth 100000 in
set_option maxHeartbeats 1000000 in
theorem Clone_any (A : Option Addr) (n c : Nat) (l : List Mk) (w : World) (hR : RdM w A n l) (hn : n ≤ 1000) :
    Calls Try.prog 50 #[.slice A n c] w fun e w' => (∃ v, e = .returned v ∧ w'.ownsRow w.heap.size 74 2 v n (l.flatMap encM)) ∧ Below w.heap.size w w' := by
  obtain ⟨i0, hi0, hz0, hz1, hz2⟩ := info_parts info74
  have HI := Lib.hid (And.intro hi0 (And.intro hz0 (And.intro hz1 hz2)))
  have HL := Lib.hid hR.len
  clear hi0 hz0 hz1 hz2
  have hb0 : Below w.heap.size w (w.alloc (.cells #[] 74)) := (Below.refl _ w).alloc (Nat.le_refl _) _
  have hnil := fun (w : World) (a : Option Addr) (n c : Nat) => Lib.run_eql_slice_nil (P := Try.prog) w 22 74 a n c 0 0 Try.underlying22
  cases A with
  | none =>
    have h0 : n = 0 := by
      rcases Nat.eq_zero_or_pos n with h | h
      · exact h
      · obtain ⟨_, e, _⟩ := hR.2 h; cases e
    subst h0
    have hl : l = [] := List.eq_nil_of_length_eq_zero HL.out
    subst hl
    go_enter Try.func50, Try.ntmps50
    go_wp2
    go_ret
    exact ⟨⟨_, rfl, World.ownsRow_nil w _ 74 2⟩, Below.refl _ _⟩
  | some ad =>
    go_enter Try.func50, Try.ntmps50
    go_wp2_with (at_builtin; refine wpList_append_any _ rfl (.tmp 5) (.tmp 6) _ rfl w.heap.size 74 i0 _ 2 16 Try.underlying22 HI.out.1 HI.out.2.1 HI.out.2.2.1 HI.out.2.2.2 rfl (by omega) (.slice (some ⟨w.heap.size, 0, none⟩) 0 0) 0 [] rfl (own_empty _ _ _) w.heap.size (some ad) n c (l.flatMap encM) rfl (Reads.below hR hb0) (encM_one _) (by simp only [maxLen]; omega) (by omega) (by simp) ?_; intro v1 w1 hown1 hg1 _; simp only [Nat.zero_add, List.nil_append] at hown1)
    go_ret
    exact ⟨⟨_, rfl, hown1⟩, hb0.grown hg1 (by simp) (by intro k hk; simp [Value.ownBlock] at hk; omega)⟩
theorem eq3 (d : Nat) (x z : Int) (w : World) : (Op.equalIn (d + 1) 3 (.int .i64 x) (.int .i64 z)).run Try.prog w = .ok (x == z) w := by
  simp [Op.equalIn, run_underlying Try.underlying3]
theorem part3 (cs : Array Value) (i : Nat) (v : Value) (w : World) (h : cs[i]? = some v) : (part 3 cs i).run Try.prog w = .ok v w := by
  simp [part, isAgg, run_underlying Try.underlying3, h]
theorem eql74 (p r p' r' : Int) (w : World) : (Op.equalIn (9998 + 1 + 1) 74 (.agg #[.int .i64 p, .int .i64 r]) (.agg #[.int .i64 p', .int .i64 r'])).run Try.prog w = .ok (p == p' && (r == r')) w := by
  rw [run_equalIn_struct (P := Try.prog) w (9998 + 1) 74 _ _ (by kernel_rfl) (by kernel_rfl)]
  have hf : (Try.prog.fieldsOf 74).toList = [⟨"Time", 3, 0, false, "", "", 0⟩, ⟨"Total", 3, 1, false, "", "", 8⟩] := by kernel_rfl
  rw [hf]
  simp [Op.eqFields, Sem.run_bind, part3, eq3]
  by_cases h0 : p = p' <;> by_cases h1 : r = r' <;> simp [h0, h1]
theorem neq74 (p r : Int) (w : World) : (binOp .neq 74 (.agg #[.int .i64 p, .int .i64 r]) (.agg #[.int .i64 p, .int .i64 r])).run Try.prog w = .ok (.bool false) w := by
  simp only [binOp]
  simp [Op.equal, Op.maxDepth, eql74]
end Go.Proofs.Ythkpkjigfaannaa
