/- The walks of Rate's closures and of sort.Search. Condition: at most 40 cycles, each of at most 60 sectors. -/
import Derived.Test.YthkpkjigfaannaaXi
import Derived.Deep.RegionHeld3
namespace Go.Proofs.Ythkpkjigfaannaa
open Go.RowKit
theorem rdI_new2 (w : World) (P : Obj) (r : Int) : RdI ((w.alloc P).alloc (.cells #[.int .i64 r] 3)) (some ⟨w.heap.size + 1, 0, none⟩) 1 [r] := by
  have h := rdI_new (w.alloc P) [r]
  rw [World.size_alloc] at h
  exact h
theorem blk_new2 (w : World) (P : Obj) (cs : Array Value) (t : TypeId) : Blk ((w.alloc P).alloc (.cells cs t)) (w.heap.size + 1) t cs := by
  have h := Blk.new (w.alloc P) t cs
  rw [World.size_alloc] at h
  exact h
def KpCut (W : World) (B : Int) (s5 s6 : Value) (wx : World) : Prop := ∃ gz x0 x1 x2 x3, s5 = .pointer (some ⟨gz, 0, none⟩) ∧ s6 = .int .i64 0 ∧ Blk wx gz 61 #[x0, x1, x2, x3, .int .i64 B] ∧ Below W.heap.size W wx
theorem kp_way1 {W wB : World} {B : Int} {g : Nat} {a b c d e x0 x1 x2 x3 : Value} (h : Hid (Blk wB g 61 #[a, b, c, d, e])) (hg : W.heap.size ≤ g) (hb : Below W.heap.size W wB) :
    KpCut W B (.pointer (some ⟨g, 0, none⟩)) (.int .i64 0) (((((wB.setCell ⟨g, 0, none⟩ x0).setCell ⟨g, 1, none⟩ x1).setCell ⟨g, 2, none⟩ x2).setCell ⟨g, 3, none⟩ x3).setCell ⟨g, 4, none⟩ (.int .i64 B)) :=
  ⟨g, x0, x1, x2, x3, rfl, rfl, set5 h.out, bel5 hb hg⟩
theorem kp_way2 {W wB : World} {B : Int} {x0 x1 x2 x3 : Value} (hb : Below W.heap.size W wB) :
    KpCut W B (.pointer (some ⟨wB.heap.size, 0, none⟩)) (.int .i64 0) (wB.alloc (.cells #[x0, x1, x2, x3, .int .i64 B] 61)) :=
  ⟨_, x0, x1, x2, x3, rfl, rfl, Blk.new _ _ _, hb.alloc hb.size _⟩
set_option maxRecDepth 100000 in
set_option maxHeartbeats 2000000 in
theorem keeps_any (A : Option Addr) (m c gb go : Nat) (vc : Value) (o r : Int) (ws : List Int) (W : World) (hR : RdI W A m ws) (hT : Blk W gb 65 #[.slice A m c, vc, .int .i64 1, .int .i64 0, .int .i64 0]) (hO : Blk W go 3 #[.int .i64 o]) (hcm : m ≤ c) (hm : m ≤ 40) (hw : ∀ x ∈ ws, 0 ≤ x ∧ x ≤ 60) (hr : 1 ≤ r ∧ r ≤ 4096) :
    Calls Try.prog 45 #[.int .i64 r, .pointer (some ⟨gb, 0, none⟩), .pointer (some ⟨go, 0, none⟩)] W fun e w' => e = .returned (.bool (decide (boundP ws r m ≤ o))) ∧ Below W.heap.size W w' := by
  have HT := Lib.hid hT
  have HO := Lib.hid hO
  have HPl := Lib.hid (fun w9 g (h9 : Below W.heap.size W w9) (hC : CarI w9 g r) => plan_any A m c g vc r ws w9 (hR.up h9) hcm hm (getD_range hw) hr hC)
  obtain ⟨e0, e1, e2, e3, e4⟩ := tr5 hT
  have o0 := hO.cell 0
  have lt := hT.lt
  have lo := hO.lt
  clear hR hw hT hO
  go_enter Try.func45, Try.ntmps45
  go_upto_region 1 with fail
  go_cut [5, 6] from 7 to 15 (fun s5 s6 wx => KpCut W (boundP ws r m) s5 s6 wx)
  case first =>
    go_region_held3 (fun w' => w'.cell? ⟨gb, 0, none⟩ = some (.slice A m c) ∧ w'.cell? ⟨gb, 1, none⟩ = some vc ∧ w'.cell? ⟨gb, 2, none⟩ = some (.int .i64 1) ∧ w'.cell? ⟨gb, 3, none⟩ = some (.int .i64 0) ∧ w'.cell? ⟨gb, 4, none⟩ = some (.int .i64 0))
      (first
        | ((with_reducible (show World.cell? (World.setCell _ _ _) _ = _ ∧ _)); (first | with_reducible exact tr5 (Blk.far5 (HT.out.below hwB lt) (by omega)) | with_reducible exact tr5 (Blk.far5 (HT.out.below (hwB.alloc hwB.size _) lt) (by omega)) | (trace_state; sorry)))
        | with_reducible exact tr5 (HT.out.below (Below.refl _ W).drew HT.out.lt)
        | with_reducible exact tr5 (HT.out.below (((Below.refl _ W).alloc (Nat.le_refl _) _).drew) lt)
        | with_reducible exact tr5 (HT.out.below ((((Below.refl _ W).alloc (Nat.le_refl _) _).alloc (by simp) _).drew) lt)
        | with_reducible exact tr5 (HT.out.below hwA lt)
        | with_reducible exact tr5 (HT.out.below (hwA.alloc hwA.size _) lt)
        | with_reducible exact tr5 (HT.out.below hwB lt)
        | with_reducible exact tr5 (HT.out.below (hwB.alloc hwB.size _) lt))
      (first
        | (go_at_call 42; (with_reducible (show Calls _ _ _ (World.drew (World.alloc W _)) _)); refine (newCarrier_any _ _ r ((W.alloc (.cells #[.int .i64 r] 3)).drew) (rdI_new W [r]) (by omega)).mono ?_; rintro e wA ⟨gA, rfl, hgA, hcA, hbA⟩; have hwA := (((Below.refl _ W).alloc (Nat.le_refl _) _).drew).trans (hbA.mono (by simp)); have hzA := hwA.size; clear hbA hgA)
        | (go_at_call 42; (with_reducible (show Calls _ _ _ (World.drew (World.alloc (World.alloc W (Obj.cells #[Value.int IntKind.i64 r] 3)) _)) _)); refine (newCarrier_any _ _ r (((W.alloc (.cells #[.int .i64 r] 3)).alloc (.cells #[.slice none 0 0, .slice none 0 0, .slice none 0 0, .slice none 0 0, .int .i64 0] 61)).drew) ((rdI_new W [r]).up (((Below.refl _ _).alloc (Nat.le_refl _) _).drew)) (by omega)).mono ?_; rintro e wA ⟨gA, rfl, hgA, hcA, hbA⟩; have hwA := ((((Below.refl _ W).alloc (Nat.le_refl _) _).alloc (by simp) _).drew).trans (hbA.mono (by simp; omega)); have hPA := (blk_new2 W _ #[.slice none 0 0, .slice none 0 0, .slice none 0 0, .slice none 0 0, .int .i64 0] 61).drew.below hbA (by simp); have hzA := hwA.size; clear hbA hgA)
        | (go_at_call 42; (with_reducible (show Calls _ _ _ (World.drew (World.alloc (World.alloc W _) (Obj.cells #[Value.int IntKind.i64 r] 3))) _)); refine (newCarrier_any _ _ r (((W.alloc (.cells #[.slice none 0 0, .slice none 0 0, .slice none 0 0, .slice none 0 0, .int .i64 0] 61)).alloc (.cells #[.int .i64 r] 3)).drew) (rdI_new2 W _ r) (by omega)).mono ?_; rintro e wA ⟨gA, rfl, hgA, hcA, hbA⟩; have hwA := ((((Below.refl _ W).alloc (Nat.le_refl _) _).alloc (by simp) _).drew).trans (hbA.mono (by simp; omega)); have hPA := ((Blk.new W 61 #[.slice none 0 0, .slice none 0 0, .slice none 0 0, .slice none 0 0, .int .i64 0]).alloc _).drew.below hbA (by simp; omega); have hzA := hwA.size; clear hbA hgA)
        | (go_at_call 41; (with_reducible (show Calls _ _ _ wA _)); refine (HPl.out _ _ hwA hcA).mono ?_; rintro e wB ⟨⟨_, ⟨a0, n0, c0, a1, n1, c1, a2, n2, c2, a3, n3, c3, rfl⟩, rfl⟩, hbB⟩; have hwB := hwA.trans (hbB.mono hwA.size); have hzB := hwB.size; (first | (have hP9 := hPA.below hbB hPA.lt; have hq9 := tr5 hP9; obtain ⟨q0, q1, q2, q3, q4⟩ := hq9; have hy9 := fr5 hP9; obtain ⟨y0, y1, y2, y3, y4⟩ := hy9; have lp9 := hP9.lt; have HP9 := Lib.hid hP9; clear hP9) | skip))
        | (go_at_call 41; (with_reducible (show Calls _ _ _ (World.alloc wA _) _)); refine (HPl.out _ _ (hwA.alloc hwA.size _) (hcA.up ((Below.refl _ _).alloc (Nat.le_refl _) _))).mono ?_; rintro e wB ⟨⟨_, ⟨a0, n0, c0, a1, n1, c1, a2, n2, c2, a3, n3, c3, rfl⟩, rfl⟩, hbB⟩; have hwB := (hwA.alloc hwA.size _).trans (hbB.mono (hwA.alloc hwA.size _).size); have hzB := hwB.size; have hP9 := (Blk.new wA 61 #[.slice none 0 0, .slice none 0 0, .slice none 0 0, .slice none 0 0, .int .i64 0]).below hbB (by simp); have hq9 := tr5 hP9; obtain ⟨q0, q1, q2, q3, q4⟩ := hq9; have hy9 := fr5 hP9; obtain ⟨y0, y1, y2, y3, y4⟩ := hy9; have lp9 := hP9.lt; have HP9 := Lib.hid hP9; clear hP9))
    all_goals
      go_wp2_with fail
      go_meet
      first
        | with_reducible exact kp_way1 HP9 (by omega) hwB
        | with_reducible exact kp_way2 hwB
        | (trace_state; sorry)
  case rest =>
    obtain ⟨gz, x0, x1, x2, x3, rfl, rfl, hz, hb⟩ := hcut
    have z4 : wc.cell? ⟨gz, 4, none⟩ = some (.int .i64 (boundP ws r m)) := hz.cell 4
    have o1 := (hb.cell (p := ⟨go, 0, none⟩) lo).trans o0
    have HB := Lib.hid hb
    clear hz hb e0 e1 e2 e3 e4 o0
    go_wp2_with fail
    go_ret
    exact ⟨rfl, HB.out⟩
end Go.Proofs.Ythkpkjigfaannaa
