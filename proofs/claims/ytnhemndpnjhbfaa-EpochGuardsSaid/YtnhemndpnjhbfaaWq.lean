/- The walks of the references EpochOf, End; Same, tail, Clone. Condition: at most 1000 spans. -/
import Derived.Test.YtnhemndpnjhbfaaWp
namespace Go.Proofs.Ytnhemndpnjhbfaa
open Go.RowKit Go.Shelf
/-- the last span -/
def lastS (l : List Span) : Span := prevS l l.length
theorem refEpoch_ret {l : List Span} {k : Nat} {y : Int} (hlin : epochAt y l = epochAt y (l.drop k)) (h : k < l.length) (hc : (atS l k).f ≤ y ∧ y ≤ (atS l k).t) : epochAt y l = ((atS l k).e, true) := by
  rw [hlin, epochAt_drop y l k h, if_pos hc]
theorem refEpoch_go {l : List Span} {k : Nat} {y : Int} (hlin : epochAt y l = epochAt y (l.drop k)) (h : k < l.length) (hc : ¬((atS l k).f ≤ y ∧ y ≤ (atS l k).t)) : epochAt y l = epochAt y (l.drop (k + 1)) := by
  rw [hlin, epochAt_drop y l k h, if_neg hc]
set_option maxRecDepth 100000 in
set_option maxHeartbeats 1000000 in
theorem refEpochOf_any (A : Option Addr) (n c : Nat) (y : Int) (l : List Span) (w : World) (hR : RdS w A n l) (hl : n ≤ 1000) :
    Calls Try.prog 22 #[.slice A n c, .int .i64 y] w fun e w' => e = .returned (.tuple #[.int .i64 (epochV l y).1, .bool (epochV l y).2]) ∧ Below w.heap.size w w' := by
  have HCL := Lib.hid (refCheckLineage_any A n c l w hR hl)
  by_cases hz : lineageE l = 0
  · have hlen := hR.len
    subst hlen
    obtain ⟨g, off, hg, hc⟩ := hR.cells
    rw [show epochV l y = epochAt y l from if_pos hz]
    rw [hz] at HCL
    have HG := Lib.hid hg
    have HC := Lib.hid hc
    clear hg hc hR hz
    go_enter Try.func22, Try.ntmps22
    go_wp2_with fail
    refine HCL.out.mono ?_
    rintro e w1 ⟨rfl, hb1⟩
    go_wp2_with fail
    go_loopw [6] (fun i wr => ∃ k : Nat, k ≤ l.length ∧ i = .int .i64 k ∧ epochAt y l = epochAt y (l.drop k) ∧ wr = w1) (fun i _ => l.length - (intOf i).toNat)
    case atStart => exact ⟨0, by omega, rfl, rfl, rfl⟩
    case round =>
      obtain ⟨k, hk, rfl, hlin, rfl⟩ := hrel
      by_cases hlt : k < l.length
      · obtain ⟨rfl, hgw⟩ := HG.out (by omega)
        have i0 : (k : Int) < l.length := by omega
        obtain ⟨d0, d1, d2⟩ := HC.out k hlt
        replace d0 := (hb1.cell (p := ⟨g, off + k * 3, none⟩) hgw).trans d0
        replace d1 := (hb1.cell (p := ⟨g, off + k * 3 + 1, none⟩) hgw).trans d1
        replace d2 := (hb1.cell (p := ⟨g, off + k * 3 + 2, none⟩) hgw).trans d2
        have HR := Lib.hid (refEpoch_ret hlin hlt)
        have HN := Lib.hid (refEpoch_go hlin hlt)
        clear hlin
        generalize atS l k = s at *
        by_cases c0 : s.f ≤ y ∧ y ≤ s.t
        · have HX := Lib.hid (HR.out c0)
          obtain ⟨c0, c1⟩ := c0
          clear HR HN
          go_wp2
          go_ret2
          refine ⟨?_, hb1⟩
          rw [HX.out]
          rfl
        · have HX := Lib.hid (HN.out c0)
          clear HR HN
          by_cases c2 : s.f ≤ y
          · have c3 : ¬ y ≤ s.t := fun h => c0 ⟨c2, h⟩
            clear c0
            go_wp2
            go_roundw
            case rel => exact ⟨k + 1, by omega, by go_num, HX.out, trivial⟩
            case measure => simp [intOf]; omega
          · clear c0
            go_wp2
            all_goals
              go_roundw
              case rel => exact ⟨k + 1, by omega, by go_num, HX.out, trivial⟩
              case measure => simp [intOf]; omega
      · have hkm : k = l.length := by omega
        subst hkm
        rw [List.drop_length] at hlin
        have HX := Lib.hid hlin
        clear hlin
        go_wp2
        go_ret2
        refine ⟨?_, hb1⟩
        rw [HX.out]
        rfl
  · rw [show epochV l y = (0, false) from if_neg hz]
    obtain ⟨v, hvv⟩ : ∃ v, lineageE l = v := ⟨_, rfl⟩
    rw [hvv] at HCL hz
    have hz' : (v != 0) = true := by simpa using hz
    clear hvv hR
    go_enter Try.func22, Try.ntmps22
    go_wp2_with fail
    refine HCL.out.mono ?_
    rintro e w1 ⟨rfl, hb1⟩
    go_wp2_with fail
    go_ret2
    exact ⟨rfl, hb1⟩
theorem RdS.last {w : World} {A : Option Addr} {l : List Span} (hR : RdS w A l.length l) (h : l.length ≠ 0) : ∃ g off j, l.length = j + 1 ∧ A = some ⟨g, off, none⟩ ∧ g < w.heap.size ∧ w.cell? ⟨g, off + j * 3, none⟩ = some (.int .i64 (lastS l).e) ∧ w.cell? ⟨g, off + j * 3 + 1, none⟩ = some (.int .i64 (lastS l).f) ∧ w.cell? ⟨g, off + j * 3 + 2, none⟩ = some (.int .i64 (lastS l).t) := by
  obtain ⟨g, off, hg, hc⟩ := hR.cells
  obtain ⟨j, hj⟩ : ∃ j, l.length = j + 1 := ⟨l.length - 1, by omega⟩
  obtain ⟨hA, hgw⟩ := hg (by omega)
  have hl : lastS l = atS l j := by rw [lastS, hj]; rfl
  rw [hl]
  exact ⟨g, off, j, hj, hA, hgw, hc j (by omega)⟩
set_option maxRecDepth 100000 in
set_option maxHeartbeats 1000000 in
theorem End_any (A : Option Addr) (n c : Nat) (l : List Span) (w : World) (hR : RdS w A n l) (hl : n ≤ 1000) :
    Calls Try.prog 55 #[.slice A n c] w fun e w' => e = .returned (.tuple #[.int .i64 (lastS l).e, .int .i64 (lastS l).t]) ∧ Below w.heap.size w w' := by
  have hlen := hR.len
  subst hlen
  by_cases h0 : l.length = 0
  · have hn : l = [] := List.eq_nil_of_length_eq_zero h0
    subst hn
    clear hR
    go_enter Try.func55, Try.ntmps55
    go_wp2_with fail
    go_ret2
    exact ⟨rfl, Below.refl _ _⟩
  · obtain ⟨g, off, j, hj, rfl, hgw, d0, d1, d2⟩ := hR.last h0
    clear hR h0
    generalize lastS l = s at *
    rw [hj] at hl ⊢
    have jw : IntKind.i64.wrap ((j : Int) + 1 - 1) = j := by rw [IntWalk.i64_in _ (by omega)]; omega
    have jw2 : IntKind.i64.wrap (j : Int) = j := IntWalk.i64_in _ (by omega)
    clear hj
    go_enter Try.func55, Try.ntmps55
    go_wp2_with fail
    go_quiet (fail)
    go_wp2_with fail
    go_ret2
    exact ⟨rfl, below_drewN (Below.refl _ _) _⟩
set_option maxRecDepth 100000 in
set_option maxHeartbeats 1000000 in
theorem tail_any (A : Option Addr) (n c : Nat) (l : List Span) (w : World) (hR : RdS w A n l) (hl : n ≤ 1000) :
    Calls Try.prog 50 #[.slice A n c] w fun e w' => e = .returned (spanV (lastS l)) ∧ Below w.heap.size w w' := by
  have hlen := hR.len
  subst hlen
  by_cases h0 : l.length = 0
  · have hn : l = [] := List.eq_nil_of_length_eq_zero h0
    subst hn
    clear hR
    go_enter Try.func50, Try.ntmps50
    go_wp2_with fail
    refine bodyPost_ret (v := spanV ⟨0, 0, 0⟩) (by simp [results, Try.results50, go_sem, spanV]) rfl ⟨rfl, (Below.refl _ _).alloc (Nat.le_refl _) _⟩
  · obtain ⟨g, off, j, hj, rfl, hgw, d0, d1, d2⟩ := hR.last h0
    clear hR h0
    generalize lastS l = s at *
    rw [hj] at hl ⊢
    have jw : IntKind.i64.wrap ((j : Int) + 1 - 1) = j := by rw [IntWalk.i64_in _ (by omega)]; omega
    have jw2 : IntKind.i64.wrap (j : Int) = j := IntWalk.i64_in _ (by omega)
    clear hj
    go_enter Try.func50, Try.ntmps50
    go_wp2_with fail
    refine bodyPost_ret (v := spanV s) (by simp [results, Try.results50, go_sem, spanV]) rfl ⟨rfl, (Below.refl _ _).alloc (Nat.le_refl _) _⟩
theorem encS_one (l : List Span) : ∀ u ∈ l.flatMap encS, u.oneCell' = true := by
  intro u hu
  obtain ⟨b, _, hb⟩ := List.mem_flatMap.1 hu
  simp [encS] at hb
  rcases hb with rfl | rfl | rfl <;> rfl
set_option maxRecDepth 100000 in
set_option maxHeartbeats 1000000 in
theorem Clone_any (A : Option Addr) (n c : Nat) (l : List Span) (w : World) (hR : RdS w A n l) (hn : n ≤ 1000) :
    Calls Try.prog 54 #[.slice A n c] w fun e w' => (∃ v, e = .returned v ∧ w'.ownsRow w.heap.size 68 3 v n (l.flatMap encS)) ∧ Below w.heap.size w w' := by
  obtain ⟨i0, hi0, hz0, hz1, hz2⟩ := info_parts info68
  have HI := Lib.hid (And.intro hi0 (And.intro hz0 (And.intro hz1 hz2)))
  have HL := Lib.hid hR.len
  clear hi0 hz0 hz1 hz2
  have hb0 : Below w.heap.size w (w.alloc (.cells #[] 68)) := (Below.refl _ w).alloc (Nat.le_refl _) _
  have hnil := fun (w : World) (a : Option Addr) (n c : Nat) => Lib.run_eql_slice_nil (P := Try.prog) w 39 68 a n c 0 0 Try.underlying39
  cases A with
  | none =>
    have h0 : n = 0 := by
      rcases Nat.eq_zero_or_pos n with h | h
      · exact h
      · obtain ⟨_, e, _⟩ := hR.2 h; cases e
    subst h0
    have hl : l = [] := List.eq_nil_of_length_eq_zero HL.out
    subst hl
    go_enter Try.func54, Try.ntmps54
    go_wp2
    go_ret
    exact ⟨⟨_, rfl, World.ownsRow_nil w _ 68 3⟩, Below.refl _ _⟩
  | some ad =>
    go_enter Try.func54, Try.ntmps54
    go_wp2_with (at_builtin; refine wpList_append_any _ rfl (.tmp 5) (.tmp 6) _ rfl w.heap.size 68 i0 _ 3 24 Try.underlying39 HI.out.1 HI.out.2.1 HI.out.2.2.1 HI.out.2.2.2 rfl (by omega) (.slice (some ⟨w.heap.size, 0, none⟩) 0 0) 0 [] rfl (own_empty _ _ _) w.heap.size (some ad) n c (l.flatMap encS) rfl (Reads.below hR hb0) (encS_one _) (by simp only [maxLen]; omega) (by omega) (by simp) ?_; intro v1 w1 hown1 hg1 _; simp only [Nat.zero_add, List.nil_append] at hown1)
    go_ret
    exact ⟨⟨_, rfl, hown1⟩, hb0.grown hg1 (by simp) (by intro k hk; simp [Value.ownBlock] at hk; omega)⟩
theorem eq3 (d : Nat) (x z : Int) (w : World) : (Op.equalIn (d + 1) 3 (.int .i64 x) (.int .i64 z)).run Try.prog w = .ok (x == z) w := by
  simp [Op.equalIn, run_underlying Try.underlying3]
theorem part3 (cs : Array Value) (i : Nat) (v : Value) (w : World) (h : cs[i]? = some v) : (part 3 cs i).run Try.prog w = .ok v w := by
  simp [part, isAgg, run_underlying Try.underlying3, h]
theorem eql68 (p r u p' r' u' : Int) (w : World) : (Op.equalIn (9998 + 1 + 1) 68 (.agg #[.int .i64 p, .int .i64 r, .int .i64 u]) (.agg #[.int .i64 p', .int .i64 r', .int .i64 u'])).run Try.prog w = .ok (p == p' && (r == r' && (u == u'))) w := by
  rw [run_equalIn_struct (P := Try.prog) w (9998 + 1) 68 _ _ (by kernel_rfl) (by kernel_rfl)]
  have hf : (Try.prog.fieldsOf 68).toList = [⟨"Epoch", 3, 0, false, "", "", 0⟩, ⟨"From", 3, 1, false, "", "", 8⟩, ⟨"To", 3, 2, false, "", "", 16⟩] := by kernel_rfl
  rw [hf]
  simp [Op.eqFields, Sem.run_bind, part3, eq3]
  by_cases h0 : p = p' <;> by_cases h1 : r = r' <;> by_cases h2 : u = u' <;> simp [h0, h1, h2]
theorem neq68 (p r u : Int) (w : World) : (binOp .neq 68 (.agg #[.int .i64 p, .int .i64 r, .int .i64 u]) (.agg #[.int .i64 p, .int .i64 r, .int .i64 u])).run Try.prog w = .ok (.bool false) w := by
  simp only [binOp]
  simp [Op.equal, Op.maxDepth, eql68]
set_option maxRecDepth 100000 in
set_option maxHeartbeats 1000000 in
theorem Same_true (A B : Option Addr) (n m c d : Nat) (l : List Span) (w : World) (hA : RdS w A n l) (hB : RdS w B m l) (hn : n ≤ 1000) :
    Calls Try.prog 25 #[.slice A n c, .slice B m d] w fun e w' => e = .returned (.bool true) ∧ Below w.heap.size w w' := by
  have hlen := hA.len
  subst hlen
  have hlen := hB.len
  subst hlen
  obtain ⟨g1, o1, hg1, hc1⟩ := hA.cells
  obtain ⟨g2, o2, hg2, hc2⟩ := hB.cells
  have H := Lib.hid (And.intro hg1 (And.intro hc1 (And.intro hg2 hc2)))
  clear hg1 hc1 hg2 hc2 hA hB
  have hq := neq68
  go_enter Try.func25, Try.ntmps25
  go_wp2_with fail
  go_loopw [5] (fun i wr => ∃ k q : Nat, k ≤ l.length ∧ i = .int .i64 k ∧ wr = w.drewN q) (fun i _ => l.length - (intOf i).toNat)
  case atStart => exact ⟨0, 0, by omega, rfl, rfl⟩
  case round =>
    obtain ⟨k, q, hk, rfl, rfl⟩ := hrel
    by_cases hlt : k < l.length
    · obtain ⟨rfl, hb1⟩ := H.out.1 (by omega)
      obtain ⟨rfl, hb2⟩ := H.out.2.2.1 (by omega)
      obtain ⟨d0, d1, d2⟩ := H.out.2.1 k hlt
      obtain ⟨e0, e1, e2⟩ := H.out.2.2.2 k hlt
      generalize atS l k = s at *
      have i0 : (k : Int) < l.length := by omega
      go_wp2
      go_quiet (fail)
      go_wp2
      go_roundw
      case rel => exact ⟨k + 1, _, by omega, by go_num, (by first | rfl | (rw [drewN_drewN]))⟩
      case measure => simp [intOf]; omega
    · go_wp2
      go_ret
      exact ⟨rfl, below_drewN (Below.refl _ _) _⟩
end Go.Proofs.Ytnhemndpnjhbfaa
