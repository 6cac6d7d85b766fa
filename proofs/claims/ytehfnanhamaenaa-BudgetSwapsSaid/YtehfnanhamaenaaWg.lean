/- The walk of Same where both budgets are equal; of the reference's copied. Conditions: at most 1000 buckets. -/
import Derived.Test.YtehfnanhamaenaaWf
namespace Go.Proofs.Ytehfnanhamaenaa
open Go.RowKit
theorem eq3 (d : Nat) (x z : Int) (w : World) : (Op.equalIn (d + 1) 3 (.int .i64 x) (.int .i64 z)).run Try.prog w = .ok (x == z) w := by
  simp [Op.equalIn, run_underlying Try.underlying3]
theorem part3 (cs : Array Value) (i : Nat) (v : Value) (w : World) (h : cs[i]? = some v) : (part 3 cs i).run Try.prog w = .ok v w := by
  simp [part, isAgg, run_underlying Try.underlying3, h]
theorem eql64 (p r u q p' r' u' q' : Int) (w : World) : (Op.equalIn (9998 + 1 + 1) 64 (.agg #[.int .i64 p, .int .i64 r, .int .i64 u, .int .i64 q]) (.agg #[.int .i64 p', .int .i64 r', .int .i64 u', .int .i64 q'])).run Try.prog w = .ok (p == p' && (r == r' && (u == u' && q == q'))) w := by
  rw [run_equalIn_struct (P := Try.prog) w (9998 + 1) 64 _ _ (by kernel_rfl) (by kernel_rfl)]
  have hf : (Try.prog.fieldsOf 64).toList = [⟨"Parent", 3, 0, false, "", "", 0⟩, ⟨"Rate", 3, 1, false, "", "", 8⟩, ⟨"Burst", 3, 2, false, "", "", 16⟩, ⟨"Tokens", 3, 3, false, "", "", 24⟩] := by kernel_rfl
  rw [hf]
  simp [Op.eqFields, Sem.run_bind, part3, eq3]
  by_cases h0 : p = p' <;> by_cases h1 : r = r' <;> by_cases h2 : u = u' <;> by_cases h3 : q = q' <;> simp [h0, h1, h2, h3]
theorem neq64 (p r u q : Int) (w : World) : (binOp .neq 64 (.agg #[.int .i64 p, .int .i64 r, .int .i64 u, .int .i64 q]) (.agg #[.int .i64 p, .int .i64 r, .int .i64 u, .int .i64 q])).run Try.prog w = .ok (.bool false) w := by
  simp only [binOp]
  simp [Op.equal, Op.maxDepth, eql64]
set_option maxHeartbeats 1000000 in
theorem Same_true (t : Int) (A B : Option Addr) (n c d : Nat) (l : List Bk) (w : World) (hA : RdB w A n l) (hB : RdB w B n l) (hn : n ≤ 1000) :
    Calls Try.prog 14 #[budV t A n c, budV t B n d] w fun e w' => e = .returned (.bool true) ∧ Below w.heap.size w w' := by
  have hlen := hA.len
  subst hlen
  have hb : Below w.heap.size w ((w.alloc (.cells #[.int .i64 t, .slice A l.length c] 24)).alloc (.cells #[.int .i64 t, .slice B l.length d] 24)) := ((Below.refl _ w).alloc (Nat.le_refl _) _).alloc (by simp) _
  have h1 := (Blk.new w 24 #[.int .i64 t, .slice A l.length c]).alloc (.cells #[.int .i64 t, .slice B l.length d] 24)
  have h2 := Blk.new (w.alloc (.cells #[.int .i64 t, .slice A l.length c] 24)) 24 #[.int .i64 t, .slice B l.length d]
  rw [World.size_alloc] at h2
  have hq := neq64
  have H := Lib.hid (And.intro h1 h2)
  clear h1 h2
  go_enter Try.func14, Try.ntmps14
  go_wp2_with fail
  generalize ((w.alloc (.cells #[.int .i64 t, .slice A l.length c] 24)).alloc (.cells #[.int .i64 t, .slice B l.length d] 24)) = W0 at *
  go_loopw [5] (fun i wr => ∃ k : Nat, k ≤ l.length ∧ i = .int .i64 k ∧ Below W0.heap.size W0 wr) (fun i _ => l.length - (intOf i).toNat)
  case atStart => exact ⟨0, by omega, rfl, Below.refl _ _⟩
  case round =>
    obtain ⟨k, hk, rfl, hbw⟩ := hrel
    have hbb := hb.trans (hbw.mono hb.size)
    have k1 : wr.cell? ⟨w.heap.size, 1, none⟩ = some (.slice A l.length c) := (H.out.1.below hbw H.out.1.lt).cell 1
    have k2 : wr.cell? ⟨w.heap.size + 1, 1, none⟩ = some (.slice B l.length d) := (H.out.2.below hbw H.out.2.lt).cell 1
    by_cases hlt : k < l.length
    · obtain ⟨b1, o1, rfl, hb1, hc1⟩ := (hA.up hbb).cells (by omega)
      obtain ⟨b2, o2, rfl, hb2, hc2⟩ := (hB.up hbb).cells (by omega)
      obtain ⟨d0, d1, d2, d3⟩ := hc1 k hlt
      obtain ⟨e0, e1, e2, e3⟩ := hc2 k hlt
      clear hc1 hc2
      obtain ⟨⟨p, r, u, q⟩, hbk⟩ : ∃ bk, bk = l[k] := ⟨_, rfl⟩
      rw [← hbk] at d0 d1 d2 d3 e0 e1 e2 e3
      dsimp only at d0 d1 d2 d3 e0 e1 e2 e3
      clear hbk
      have i0 : (k : Int) < l.length := by omega
      go_wp2
      go_quiet (fail)
      go_wp2
      go_roundw
      case rel => exact ⟨k + 1, by omega, by go_num, below_drewN hbw _⟩
      case measure => simp [intOf]; omega
    · go_wp2
      go_ret
      exact ⟨rfl, hbb⟩
set_option maxHeartbeats 1000000 in
theorem copied_any (t : Int) (A : Option Addr) (n c : Nat) (l : List Bk) (w : World) (hR : RdB w A n l) (hn : n ≤ 1000) :
    Calls Try.prog 31 #[budV t A n c] w fun e w' => (∃ v, e = .returned (.agg #[.int .i64 t, v]) ∧ w'.ownsRow w.heap.size 64 4 v n (encBs l)) ∧ Below w.heap.size w w' := by
  obtain ⟨i0, hi0, hz0, hz1, hz2⟩ := info_parts info64
  have HI := Lib.hid (And.intro hi0 (And.intro hz0 (And.intro hz1 hz2)))
  clear hi0 hz0 hz1 hz2
  have hb : Below w.heap.size w (((w.alloc (.cells #[.int .i64 t, .slice A n c] 24)).alloc (.cells #[.int .i64 0, .slice none 0 0] 24)).alloc (.cells #[.int .i64 t, .slice none 0 0] 24)) := (((Below.refl _ w).alloc (Nat.le_refl _) _).alloc (by simp) _).alloc (by simp; omega) _
  have h1 := ((Blk.new (w.alloc (.cells #[.int .i64 t, .slice A n c] 24)) 24 #[.int .i64 0, .slice none 0 0])).alloc (.cells #[.int .i64 t, .slice none 0 0] 24)
  have h2 := Blk.new ((w.alloc (.cells #[.int .i64 t, .slice A n c] 24)).alloc (.cells #[.int .i64 0, .slice none 0 0] 24)) 24 #[.int .i64 t, .slice none 0 0]
  simp only [World.size_alloc] at h1 h2
  have hsz : (((w.alloc (.cells #[.int .i64 t, .slice A n c] 24)).alloc (.cells #[.int .i64 0, .slice none 0 0] 24)).alloc (.cells #[.int .i64 t, .slice none 0 0] 24)).heap.size = w.heap.size + 1 + 1 + 1 := by simp
  have H := Lib.hid (And.intro h1 (And.intro h2 hsz))
  clear h1 h2 hsz
  have hrr := Reads.below hR hb
  go_enter Try.func31, Try.ntmps31
  go_wp2_with (at_builtin; generalize (((w.alloc (.cells #[.int .i64 t, .slice A n c] 24)).alloc (.cells #[.int .i64 0, .slice none 0 0] 24)).alloc (.cells #[.int .i64 t, .slice none 0 0] 24)) = W3 at *; go_must (refine wpList_append_any _ rfl (.tmp 8) (.tmp 10) _ rfl W3.heap.size 64 i0 _ 4 32 Try.underlying22 HI.out.1 HI.out.2.1 HI.out.2.2.1 HI.out.2.2.2 rfl (by omega) (.slice none 0 0) 0 [] rfl (World.ownsRow_nil _ _ 64 4) w.heap.size A n c (encBs l) rfl hrr (encBs_one _) (by simp only [maxLen]; omega) (by omega) (Nat.le_refl _) ?_; intro v1 w1 hown1 hg1 _; simp only [Nat.zero_add, List.nil_append] at hown1; have hb1 : Below W3.heap.size W3 w1 := (Below.refl _ _).grown hg1 (Nat.le_refl _) (by intro k hk; simp [Value.ownBlock] at hk); obtain ⟨A2, c2, hv2, _, _, _⟩ := own_slice hown1; rw [hv2]; have hk1 := H.out.1.below hb1 (by rw [H.out.2.2]; omega); have hk2 := H.out.2.1.below hb1 (by rw [H.out.2.2]; omega); have a0 : w1.cell? ⟨w.heap.size + 1, 0, none⟩ = some (.int .i64 0) := hk1.cell 0; have a1 : w1.cell? ⟨w.heap.size + 1, 1, none⟩ = some (.slice none 0 0) := hk1.cell 1; have g0 : w1.frozen? ⟨w.heap.size + 1, 0, none⟩ = false := hk1.frozen 0; have g1 : w1.frozen? ⟨w.heap.size + 1, 1, none⟩ = false := hk1.frozen 1; have b0 : w1.cell? ⟨w.heap.size + 1 + 1, 0, none⟩ = some (.int .i64 t) := hk2.cell 0; have b1 : w1.cell? ⟨w.heap.size + 1 + 1, 1, none⟩ = some (.slice none 0 0) := hk2.cell 1; have g2 : w1.frozen? ⟨w.heap.size + 1 + 1, 1, none⟩ = false := hk2.frozen 1; have HK := Lib.hid (And.intro hk1 (And.intro hk2 (And.intro hown1 hv2))); clear hk1 hk2 hown1 hv2))
  have hK4 := ((HK.out.1.far (p := ⟨w.heap.size + 1 + 1, 1, none⟩) (by simp) (.slice A2 n c2)).set_ 0 (.int .i64 t)).set_ 1 (.slice A2 n c2)
  refine bodyPost_ret (results_cell_row rfl _ _ _ _ _ _ _ rfl hK4 Try.underlying24 rfl info24) rfl ⟨⟨.slice A2 n c2, rfl, ?_⟩, ?_⟩
  · have ho := HK.out.2.2.1
    rw [HK.out.2.2.2] at ho
    have hge := own_block_ge ho
    rw [H.out.2.2] at hge
    refine own_base (base := W3.heap.size) (own_far (own_far (own_far ho ?_ _) ?_ _) ?_ _) hb.size
    · intro e; have h9 := hge _ e; dsimp only at h9; omega
    · intro e; have h9 := hge _ e; dsimp only at h9; omega
    · intro e; have h9 := hge _ e; dsimp only at h9; omega
  · exact (((hb.trans (hb1.mono hb.size)).setCell (p := ⟨w.heap.size + 1 + 1, 1, none⟩) (by simp; omega) _).setCell (p := ⟨w.heap.size + 1, 0, none⟩) (by simp) _).setCell (p := ⟨w.heap.size + 1, 1, none⟩) (by simp) _
end Go.Proofs.Ytehfnanhamaenaa
