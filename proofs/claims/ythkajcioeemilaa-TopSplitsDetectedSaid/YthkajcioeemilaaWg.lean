/- The walk of extend. No condition. -/
import Derived.Test.YthkajcioeemilaaWf
namespace Go.Proofs.Ythkajcioeemilaa
open Go.RowKit
theorem set_last (l : List Sp) (x : Sp) (n : Int) : ((l ++ [x]).flatMap encSp).set (l.length * 3 + 2) (.int .i64 n) = (l ++ [(⟨x.e, x.f, n⟩ : Sp)]).flatMap encSp := by
  induction l with
  | nil => rfl
  | cons y l ih =>
    simp only [List.cons_append, List.flatMap_cons, List.length_cons]
    rw [show (l.length + 1) * 3 + 2 = (l.length * 3 + 2) + 1 + 1 + 1 by omega]
    simp only [encSp, List.cons_append, List.nil_append, List.set_cons_succ]
    rw [ih]
theorem hdS_snoc (l : List Sp) (x : Sp) : hdS (l ++ [x]) = x := by
  rw [hdS_at _ (by simp)]
  simp
set_option linter.unusedSimpArgs false in
set_option maxRecDepth 100000 in
set_option maxHeartbeats 4000000 in
theorem extNew_ok (w W : World) (tb : Nat) (s : Si) (e b n : Int) (h : TrI w tb s W) (hl : s.l = [] ∨ (hdS s.l).e ≠ e) (hn : s.l.length ≤ 100) (hb : 0 ≤ b ∧ b ≤ 1073741824) : Calls Try.prog 24 #[.pointer (some ⟨tb, 0, none⟩), .int .i64 e, .int .i64 b, .int .i64 n] W fun x W' => x = .returned (.tuple #[]) ∧ TrI w tb { s with l := s.l ++ [⟨e, b + 1, n⟩] } W' := by
  obtain ⟨i0, hi0, hz0, hz1, hz2⟩ := info_parts info65b
  have HII := Lib.hid (And.intro hi0 (And.intro hz0 (And.intro hz1 hz2)))
  clear hi0 hz0 hz1 hz2
  obtain ⟨A, c, hB, hL⟩ := h.blk
  have hgl := hB.lt
  have HB := Lib.hid (And.intro hB hL)
  clear hB hL
  obtain ⟨num, role, ep, ap, l, src, al, co⟩ := s
  dsimp only at hl hn
  have kb : IntKind.i64.wrap (b + 1) = b + 1 := IntWalk.i64_in _ (by omega)
  rcases Nat.eq_zero_or_pos l.length with hl0 | hl0
  · have hnil : l = [] := List.eq_nil_of_length_eq_zero hl0
    subst hnil
    have x4 : W.cell? ⟨tb, 4, none⟩ = some (.slice A 0 c) := HB.out.1.cell 4
    clear hl hn hl0
    go_enter Try.func24, Try.ntmps24
    have hr2 := own_alloc HB.out.2 (.cells #[.int .i64 e, .int .i64 (b + 1), .int .i64 n] 65)
    have her := elem_reads W #[.int .i64 e, .int .i64 (b + 1), .int .i64 n] 65
    have hs2 : (W.alloc (.cells #[.int .i64 e, .int .i64 (b + 1), .int .i64 n] 65)).heap.size = W.heap.size + 1 := by simp
    have hB2 := HB.out.1.alloc (.cells #[.int .i64 e, .int .i64 (b + 1), .int .i64 n] 65)
    have hbA := h.bel.alloc h.bel.size (.cells #[.int .i64 e, .int .i64 (b + 1), .int .i64 n] 65)
    have HA := Lib.hid (And.intro hr2 (And.intro her (And.intro hs2 (And.intro hB2 hbA))))
    clear hr2 her hs2 hB2 hbA
    have HZ := Lib.hid h
    clear h
    go_wp2_with (at_builtin; go_must (refine wpList_append_any (W.alloc (.cells #[.int .i64 e, .int .i64 (b + 1), .int .i64 n] 65)) rfl (.tmp 46) (.tmp 52) _ rfl w.heap.size 65 i0 _ 3 24 Try.underlying32 HII.out.1 HII.out.2.1 HII.out.2.2.1 HII.out.2.2.2 rfl (by omega) (.slice A 0 c) 0 [] rfl HA.out.1 (W.heap.size + 1) (some ⟨W.heap.size, 0, none⟩) 1 1 (encSp ⟨e, b + 1, n⟩) rfl HA.out.2.1 (by simp [encSp, Value.oneCell']) (by simp only [maxLen]; omega) (by omega) (by have := HA.out.2.2.1; have := HZ.out.bel.size; omega) ?_; intro v9 w9 ho9 hg9 hv9; have k9 := HA.out.2.2.2.1.grown hg9 (fun e9 => tag_ne HA.out.1 HA.out.2.2.2.1 (by decide) _ e9.symm rfl); have c9 : w9.cell? ⟨tb, 4, none⟩ = some (.slice A 0 c) := k9.cell 4; have f9 : w9.frozen? ⟨tb, 4, none⟩ = false := k9.frozen 4; obtain ⟨A9, c9', rfl, _, _, _⟩ := own_slice ho9))
    have hz9 := HA.out.2.2.1
    have hg9s := hg9.size
    have hng : (Value.slice A9 (0 + 1) c9').ownBlock ≠ some tb := fun e9 => tag_ne ho9 k9 (by decide) _ e9 rfl
    have hb9 := HA.out.2.2.2.2.grown hg9 (by have := HZ.out.bel.size; omega) (fun q hq => own_block_ge HB.out.2 q hq)
    go_wp2_with fail
    refine bodyPost_end (v := .tuple #[]) (by simp [results, Try.f24, go_sem]) rfl ⟨rfl, ⟨A9, c9', ?_, ?_⟩, HZ.out.gw, hb9.setCell HZ.out.gw _⟩
    · have h9 := k9.set_ 4 (.slice A9 (0 + 1) c9')
      unfold trV at h9 ⊢
      dsimp only at h9 ⊢
      skip
      exact h9
    · have h9 := own_far ho9 (p := ⟨tb, 4, none⟩) hng (.slice A9 (0 + 1) c9')
      dsimp only
      skip
      exact h9
  · have hh : (hdS l).e ≠ e := by
      rcases hl with hl | hl
      · rw [hl] at hl0; exact absurd hl0 (by simp)
      · exact hl
    clear hl
    have hat := hdS_at l hl0
    obtain ⟨bb, off, hAA, hbb, hcc⟩ := (Reads.of_own HB.out.2).elems (E := encSp) (fun _ => rfl) (by omega) hl0
    have k1 : l.length - 1 < l.length := by omega
    have e0 := hcc _ k1 0 _ rfl
    clear hcc
    rw [← hat] at e0
    rw [Nat.add_zero] at e0
    subst hAA
    clear hat k1
    obtain ⟨ye, hye⟩ : ∃ ye, (hdS l).e = ye := ⟨_, rfl⟩
    rw [hye] at e0 hh
    clear hye
    obtain ⟨m, hm⟩ : ∃ m, l.length = m + 1 := ⟨l.length - 1, by omega⟩
    rw [hm, Nat.add_sub_cancel] at e0
    have HB := Lib.hid (show Blk W tb 60 #[.int .i64 num, .int .i64 role, .int .i64 ep, .int .i64 ap, .slice (some ⟨bb, off, none⟩) (m + 1) c, .int .i64 src, .bool al, .bool co, .int .i64 0] ∧ W.ownsRow w.heap.size 65 3 (.slice (some ⟨bb, off, none⟩) (m + 1) c) (m + 1) (l.flatMap encSp) from by rw [← hm]; exact HB.out)
    have x4 : W.cell? ⟨tb, 4, none⟩ = some (.slice (some ⟨bb, off, none⟩) (m + 1) c) := HB.out.1.cell 4
    have kw : IntKind.i64.wrap (((m + 1 : Nat) : Int) - 1) = (m : Int) := by rw [show ((m + 1 : Nat) : Int) - 1 = m by omega]; exact IntWalk.i64_in _ (by omega)
    have kz : (0 : Int) < ((m + 1 : Nat) : Int) := by omega
    have ki : (m : Int) < ((m + 1 : Nat) : Int) := by omega
    have kh : (ye == e) = false := by rw [beq_eq_false_iff_ne]; exact hh
    have HM := Lib.hid hm
    rw [hm] at hn
    clear hm hl0 hh
    go_enter Try.func24, Try.ntmps24
    have hr2 := own_alloc HB.out.2 (.cells #[.int .i64 e, .int .i64 (b + 1), .int .i64 n] 65)
    have her := elem_reads W #[.int .i64 e, .int .i64 (b + 1), .int .i64 n] 65
    have hs2 : (W.alloc (.cells #[.int .i64 e, .int .i64 (b + 1), .int .i64 n] 65)).heap.size = W.heap.size + 1 := by simp
    have hB2 := HB.out.1.alloc (.cells #[.int .i64 e, .int .i64 (b + 1), .int .i64 n] 65)
    have hbA := h.bel.alloc h.bel.size (.cells #[.int .i64 e, .int .i64 (b + 1), .int .i64 n] 65)
    have HA := Lib.hid (And.intro hr2 (And.intro her (And.intro hs2 (And.intro hB2 hbA))))
    clear hr2 her hs2 hB2 hbA
    have HZ := Lib.hid h
    clear h
    go_wp2_with (at_builtin; go_must (refine wpList_append_any (W.alloc (.cells #[.int .i64 e, .int .i64 (b + 1), .int .i64 n] 65)) rfl (.tmp 46) (.tmp 52) _ rfl w.heap.size 65 i0 _ 3 24 Try.underlying32 HII.out.1 HII.out.2.1 HII.out.2.2.1 HII.out.2.2.2 rfl (by omega) (.slice (some ⟨bb, off, none⟩) (m + 1) c) (m + 1) (l.flatMap encSp) rfl HA.out.1 (W.heap.size + 1) (some ⟨W.heap.size, 0, none⟩) 1 1 (encSp ⟨e, b + 1, n⟩) rfl HA.out.2.1 (by simp [encSp, Value.oneCell']) (by simp only [maxLen]; omega) (by omega) (by have := HA.out.2.2.1; have := HZ.out.bel.size; omega) ?_; intro v9 w9 ho9 hg9 hv9; have k9 := HA.out.2.2.2.1.grown hg9 (fun e9 => tag_ne HA.out.1 HA.out.2.2.2.1 (by decide) _ e9.symm rfl); have c9 : w9.cell? ⟨tb, 4, none⟩ = some (.slice (some ⟨bb, off, none⟩) (m + 1) c) := k9.cell 4; have f9 : w9.frozen? ⟨tb, 4, none⟩ = false := k9.frozen 4; obtain ⟨A9, c9', rfl, _, _, _⟩ := own_slice ho9))
    have hz9 := HA.out.2.2.1
    have hg9s := hg9.size
    have hng : (Value.slice A9 ((m + 1) + 1) c9').ownBlock ≠ some tb := fun e9 => tag_ne ho9 k9 (by decide) _ e9 rfl
    have hb9 := HA.out.2.2.2.2.grown hg9 (by have := HZ.out.bel.size; omega) (fun q hq => own_block_ge HB.out.2 q hq)
    go_wp2_with fail
    refine bodyPost_end (v := .tuple #[]) (by simp [results, Try.f24, go_sem]) rfl ⟨rfl, ⟨A9, c9', ?_, ?_⟩, HZ.out.gw, hb9.setCell HZ.out.gw _⟩
    · have h9 := k9.set_ 4 (.slice A9 ((m + 1) + 1) c9')
      unfold trV at h9 ⊢
      dsimp only at h9 ⊢
      rw [List.length_append, List.length_singleton, HM.out]
      exact h9
    · have h9 := own_far ho9 (p := ⟨tb, 4, none⟩) hng (.slice A9 ((m + 1) + 1) c9')
      dsimp only
      rw [List.length_append, List.length_singleton, List.flatMap_append, HM.out]
      exact h9
end Go.Proofs.Ythkajcioeemilaa
