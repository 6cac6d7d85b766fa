/- The walk of data. Conditions: small. -/
import Derived.Test.YtanmndhdhlmjgaaWq
import Derived.Test.YtanmndhdhlmjgaaVf
namespace Go.Proofs.Ytanmndhdhlmjgaa
open Go.RowKit
set_option linter.unusedSimpArgs false in
set_option maxRecDepth 100000 in
set_option maxHeartbeats 2000000 in
theorem data_any (ses : Int) (g : Nat) (e : Oe) (base : Nat) (w : World) (h0 : w.cell? ⟨g, 0, none⟩ = some (.int .i64 ses)) (hg : g < w.heap.size) (hb : OeR w base e) (hpl : e.p.length ≤ 100000) (hbw : base ≤ w.heap.size) :
    Calls Try.prog 80 #[.pointer (some ⟨g, 0, none⟩), .agg (encO e).toArray] w fun z w' => (∃ pv, z = .returned pv ∧ PkV w' base (dataP ses e.om) pv) ∧ Below w.heap.size w w' := by
  obtain ⟨pl, hl⟩ : ∃ n, e.p.length = n := ⟨_, rfl⟩
  obtain ⟨eA, hA⟩ : ∃ n, e.A = n := ⟨_, rfl⟩
  obtain ⟨ec, hc⟩ : ∃ n, e.c = n := ⟨_, rfl⟩
  unfold encO
  unfold OeR Byt at hb
  rw [hl, hA] at hb
  rw [hl] at hpl
  rw [hl, hA, hc]
  have HL := Lib.hid (And.intro hl hb)
  clear hl hA hc hb
  have HW : Hid (Blk ((w.alloc (.cells #[.int .i64 e.seq, .int .i64 e.time, .int .i64 e.cnt, .bool e.ak, .slice eA pl ec] 82)).alloc (.cells #[.int .i64 0, .int .i64 0, .int .i64 0, .int .i64 0, .int .i64 0, .slice none 0 0, .slice none 0 0] 55)) w.heap.size 82 #[.int .i64 e.seq, .int .i64 e.time, .int .i64 e.cnt, .bool e.ak, .slice eA pl ec] ∧ Blk ((w.alloc (.cells #[.int .i64 e.seq, .int .i64 e.time, .int .i64 e.cnt, .bool e.ak, .slice eA pl ec] 82)).alloc (.cells #[.int .i64 0, .int .i64 0, .int .i64 0, .int .i64 0, .int .i64 0, .slice none 0 0, .slice none 0 0] 55)) (w.heap.size + 1) 55 #[.int .i64 0, .int .i64 0, .int .i64 0, .int .i64 0, .int .i64 0, .slice none 0 0, .slice none 0 0] ∧ Below w.heap.size w ((w.alloc (.cells #[.int .i64 e.seq, .int .i64 e.time, .int .i64 e.cnt, .bool e.ak, .slice eA pl ec] 82)).alloc (.cells #[.int .i64 0, .int .i64 0, .int .i64 0, .int .i64 0, .int .i64 0, .slice none 0 0, .slice none 0 0] 55))) := by
    have e1 := (Blk.new w 82 #[.int .i64 e.seq, .int .i64 e.time, .int .i64 e.cnt, .bool e.ak, .slice eA pl ec]).alloc (.cells #[.int .i64 0, .int .i64 0, .int .i64 0, .int .i64 0, .int .i64 0, .slice none 0 0, .slice none 0 0] 55)
    have e2 := Blk.new (w.alloc (.cells #[.int .i64 e.seq, .int .i64 e.time, .int .i64 e.cnt, .bool e.ak, .slice eA pl ec] 82)) 55 #[.int .i64 0, .int .i64 0, .int .i64 0, .int .i64 0, .int .i64 0, .slice none 0 0, .slice none 0 0]
    rw [World.size_alloc] at e2
    exact ⟨e1, e2, ((Below.refl _ w).alloc (Nat.le_refl _) _).alloc (by simp) _⟩
  go_enter Try.func80, Try.ntmps80
  go_wp2_with fail
  generalize ((w.alloc (.cells #[.int .i64 e.seq, .int .i64 e.time, .int .i64 e.cnt, .bool e.ak, .slice eA pl ec] 82)).alloc (.cells #[.int .i64 0, .int .i64 0, .int .i64 0, .int .i64 0, .int .i64 0, .slice none 0 0, .slice none 0 0] 55)) = W at *
  have xg0 : W.cell? ⟨g, 0, none⟩ = some (.int .i64 ses) := (HW.out.2.2.cell (p := ⟨g, 0, none⟩) hg).trans h0
  have xc0 : W.cell? ⟨w.heap.size, 0, none⟩ = some (.int .i64 e.seq) := HW.out.1.cell 0
  have xc4 : W.cell? ⟨w.heap.size, 4, none⟩ = some (.slice eA pl ec) := HW.out.1.cell 4
  have lE := HW.out.1.lt
  have lO := HW.out.2.1.lt
  have lg : g < W.heap.size := Nat.lt_trans hg lE
  clear h0
  go_upto_region 1 with fail
  refine wp_region_lexP [(0, 1), (4, 1), (6, 1), (1, 1), (5, 1), (7, 1), (2, 1), (3, 1), (8, 0), (9, 1), (10, 0)] [10] (fun w9 => w9.cell? ⟨g, 0, none⟩ = some (.int .i64 ses) ∧ w9.cell? ⟨w.heap.size, 0, none⟩ = some (.int .i64 e.seq) ∧ w9.cell? ⟨w.heap.size, 4, none⟩ = some (.slice eA pl ec)) (by kernel_rfl) (by kernel_rfl) (by kernel_rfl) (by kernel_rfl) (by kernel_rfl) ⟨xg0, xc0, xc4⟩ ?_
  repeat ((first | (refine lexP_read rfl (by rfl) (by first | exact wanted_none rfl | exact wanted_some (b := true) (c := true) rfl rfl rfl | exact wanted_some (b := false) (c := false) rfl rfl rfl) (by intro w9 hS9; (try dsimp only at hS9); go_simp <;> with_reducible rfl) ?_) | (refine lexP_skip rfl (fun _ => trivial) (by first | exact wanted_some (b := true) (c := false) rfl rfl rfl | exact wanted_some (b := false) (c := true) rfl rfl rfl) ?_) | (refine lexP_builtin rfl (fun _ => trivial) (by first | exact wanted_none rfl | exact wanted_some (b := true) (c := true) rfl rfl rfl | exact wanted_some (b := false) (c := false) rfl rfl rfl) (by intro w9 hS9; (try dsimp only at hS9); go_simp <;> with_reducible rfl) ?_)); (try simp only [Act.put, List.getElem_toArray, List.getElem_cons_succ, List.getElem_cons_zero, List.setIfInBounds_toArray, List.set_cons_zero, List.set_cons_succ]))
  refine lexP_eff rfl (fun _ => trivial) ?_
  go_simp
  refine CallsIn.mono ((callsIn_wide (n := 0)).2 (CloneB_any eA pl ec (u8s e.p) W.drew ((HL.out.2.up (HW.out.2.2.drew)).rd) hpl (u8s_one _))) ?_
  rintro e w1 ⟨⟨v3, rfl, hown3⟩, hb3⟩
  dsimp only
  obtain ⟨A3, c3, rfl, -, -, -⟩ := own_slice hown3
  have hb3' : Below W.heap.size W w1 := (Below.refl _ W).drew.trans hb3
  have hkO := HW.out.2.1.below hb3' lO
  refine ⟨⟨(hb3'.cell (p := ⟨g, 0, none⟩) lg).trans xg0, (hb3'.cell (p := ⟨w.heap.size, 0, none⟩) lE).trans xc0, (hb3'.cell (p := ⟨w.heap.size, 4, none⟩) lE).trans xc4⟩, ?_⟩
  (try simp only [Act.put, List.getElem_toArray, List.getElem_cons_succ, List.getElem_cons_zero, List.setIfInBounds_toArray, List.set_cons_zero, List.set_cons_succ])
  have xd0 : w1.cell? ⟨w.heap.size + 1, 0, none⟩ = some (.int .i64 0) := hkO.cell 0
  have xd1 : w1.cell? ⟨w.heap.size + 1, 1, none⟩ = some (.int .i64 0) := hkO.cell 1
  have xd2 : w1.cell? ⟨w.heap.size + 1, 2, none⟩ = some (.int .i64 0) := hkO.cell 2
  have xd3 : w1.cell? ⟨w.heap.size + 1, 3, none⟩ = some (.int .i64 0) := hkO.cell 3
  have xd4 : w1.cell? ⟨w.heap.size + 1, 4, none⟩ = some (.int .i64 0) := hkO.cell 4
  have xd5 : w1.cell? ⟨w.heap.size + 1, 5, none⟩ = some (.slice none 0 0) := hkO.cell 5
  have xd6 : w1.cell? ⟨w.heap.size + 1, 6, none⟩ = some (.slice none 0 0) := hkO.cell 6
  have xy0 := hkO.frozen 0
  have xy1 := hkO.frozen 1
  have xy2 := hkO.frozen 2
  have xy3 := hkO.frozen 3
  have xy4 := hkO.frozen 4
  have xy5 := hkO.frozen 5
  have xy6 := hkO.frozen 6
  have l1 := hkO.lt
  have hkF := set55_blk hkO (.int .i64 0) (.int .i64 ses) (.int .i64 e.seq) (.int .i64 0) (.int .i64 0) (.slice none 0 0) (.slice A3 pl c3)
  have hTF := set55_turn hkO (base := base) (by omega) (.int .i64 0) (.int .i64 ses) (.int .i64 e.seq) (.int .i64 0) (.int .i64 0) (.slice none 0 0) (.slice A3 pl c3)
  have hbF := set55_below (HW.out.2.2.trans (hb3'.mono HW.out.2.2.size)) (g := w.heap.size + 1) (by omega) (.int .i64 0) (.int .i64 ses) (.int .i64 e.seq) (.int .i64 0) (.int .i64 0) (.slice none 0 0) (.slice A3 pl c3)
  have hBy : Byt w1 base A3 e.p := byt_of_own hown3 HL.out.1
  have HF := Lib.hid (And.intro hkF (And.intro hbF (hBy.turn hTF (by simp))))
  clear hkF hTF hbF hBy hkO hown3 hb3 hb3' xg0 xc0 xc4
  repeat ((first | (refine lexP_read rfl (by rfl) (by first | exact wanted_none rfl | exact wanted_some (b := true) (c := true) rfl rfl rfl | exact wanted_some (b := false) (c := false) rfl rfl rfl) (by intro w9 hS9; (try dsimp only at hS9); go_simp <;> with_reducible rfl) ?_) | (refine lexP_skip rfl (fun _ => trivial) (by first | exact wanted_some (b := true) (c := false) rfl rfl rfl | exact wanted_some (b := false) (c := true) rfl rfl rfl) ?_) | (refine lexP_builtin rfl (fun _ => trivial) (by first | exact wanted_none rfl | exact wanted_some (b := true) (c := true) rfl rfl rfl | exact wanted_some (b := false) (c := false) rfl rfl rfl) (by intro w9 hS9; (try dsimp only at hS9); go_simp <;> with_reducible rfl) ?_)); (try simp only [Act.put, List.getElem_toArray, List.getElem_cons_succ, List.getElem_cons_zero, List.setIfInBounds_toArray, List.set_cons_zero, List.set_cons_succ]))
  refine lexP_eff rfl (fun _ => trivial) ?_
  go_simp
  (try simp only [Act.put, List.getElem_toArray, List.getElem_cons_succ, List.getElem_cons_zero, List.setIfInBounds_toArray, List.set_cons_zero, List.set_cons_succ])
  refine lexP_nil (panQ_normal ?_)
  go_wp2_with fail
  refine bodyPost_ret (results_cell1 (t := 55) rfl _ _ (w.heap.size + 1) _ _ rfl HF.out.1 Try.underlying55 rfl (by kernel_rfl)) rfl ?_
  refine ⟨⟨_, rfl, ⟨.slice none 0 0, .slice A3 e.p.length c3, ?_, Vec.nil, ⟨A3, c3, rfl, HF.out.2.2⟩⟩⟩, HF.out.2.1⟩
  rw [HL.out.1]
  rfl
end Go.Proofs.Ytanmndhdhlmjgaa
