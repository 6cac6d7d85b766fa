/- The walk of keep. Conditions: the receiver and the packet pass their checks. -/
import Derived.Test.YtanmndhdhlmjgaaWm
import Derived.Test.YtanmndhdhlmjgaaVf
import Derived.Test.YtanmndhdhlmjgaaWk
import Derived.Test.YtanmndhdhlmjgaaWg
namespace Go.Proofs.Ytanmndhdhlmjgaa
open Go.RowKit
/-- a receiver in its box, its row its own -/
structure RcO (w : World) (base low g : Nat) (r : Rm) (ve : Value) (es : List Ae) : Prop where
  blk : Blk w g 33 (rcC r ve)
  own : Own1 encA AeR 84 2 w base low ve es
  em : es.map Ae.am = r.early
structure KeepR (w : World) (base low g : Nat) (r' : Rm) (e : Ending) (w' : World) : Prop where
  ret : e = .returned (.tuple #[])
  box : ∃ ve es, RcO w' base low g r' ve es
  turn : ∀ b, b ≤ g → b ≤ low → Turn b [33, 84] w w'
  oth : ∀ k cs, k ≠ g → Blk w k 33 cs → Blk w' k 33 cs
theorem take_flat {α : Type} {E : α → List Value} {sz : Nat} (hE : ∀ a, (E a).length = sz) : ∀ (l : List α) (q : Nat), (l.flatMap E).take (q * sz) = (l.take q).flatMap E
  | [], q => by simp
  | a :: l, 0 => by simp
  | a :: l, q + 1 => by
    rw [List.flatMap_cons, List.take_succ_cons, List.flatMap_cons, List.take_append, hE, List.take_of_length_le (by rw [hE, Nat.add_mul]; omega), ← take_flat hE l q]
    congr 2
    rw [Nat.add_mul]; omega
theorem drop_flat {α : Type} {E : α → List Value} {sz : Nat} (hE : ∀ a, (E a).length = sz) : ∀ (l : List α) (q : Nat), (l.flatMap E).drop (q * sz) = (l.drop q).flatMap E
  | [], q => by simp
  | a :: l, 0 => by simp
  | a :: l, q + 1 => by
    rw [List.flatMap_cons, List.drop_succ_cons, List.drop_append, hE, List.drop_of_length_le (by rw [hE, Nat.add_mul]; omega), ← drop_flat hE l q, List.nil_append]
    congr 1
    rw [Nat.add_mul]; omega
/-- what Insert leaves, as an own row -/
theorem ins_own {w w' : World} {base low q : Nat} {v : Value} {l : List Ae} {b : Ae} {e : Ending} (h : Own1 encA AeR 84 2 w base low v l) (hl : base ≤ low) (hq : q ≤ l.length) (hb : AeR w base b)
    (hi : InsR w low v l.length ((l.flatMap encA).take (q * 2) ++ (encA b) ++ (l.flatMap encA).drop (q * 2)) e w') :
    ∃ v', e = .returned v' ∧ Own1 encA AeR 84 2 w' base low v' (l.take q ++ b :: l.drop q) ∧ Turn low [84] w w' := by
  obtain ⟨⟨v', rfl, ho, _⟩, hg⟩ := hi
  have hT : Turn base [84] w w' := (Turn.refl base [84] w).grown h.own hg (by simp) hl
  refine ⟨v', rfl, ⟨?_, fun x hx => ?_⟩, (Turn.refl low [84] w).grown h.own hg (by simp) (Nat.le_refl _)⟩
  · rw [take_flat encA_len, drop_flat encA_len] at ho
    simpa [Nat.min_eq_left hq, show q + (l.length - q + 1) = l.length + 1 by omega] using ho
  · refine aeR_ab (T := [84]) (by simp) _ _ _ _ hT ?_
    rcases List.mem_append.1 hx with hx | hx
    · exact h.el x (List.mem_of_mem_take hx)
    rcases List.mem_cons.1 hx with rfl | hx
    · exact hb
    · exact h.el x (List.mem_of_mem_drop hx)
set_option maxRecDepth 100000 in
set_option maxHeartbeats 800000 in
set_option linter.unusedSimpArgs false in
theorem keep_any (r : Rm) (p : Pm) (pv ve : Value) (es : List Ae) (g base low : Nat) (w : World) (h : RcO w base low g r ve es) (hp : PkV w base p pv) (hc : chkR r = 0) (hcp : chkP p = 0) (hbg : base ≤ g) (hbl : base ≤ low) (hlw : low ≤ w.heap.size) :
    Calls Try.prog 68 #[.pointer (some ⟨g, 0, none⟩), pv] w (KeepR w base low g (keepR r p)) := by
  have ho := (chkR_ok r).1 hc
  have hq : (0 ≤ p.seq ∧ p.seq ≤ 1073741824) ∧ p.p.length ≤ 4096 := by
    unfold chkP at hcp
    split at hcp
    · cases hcp
    split at hcp
    · cases hcp
    split at hcp
    · cases hcp
    split at hcp
    · cases hcp
    omega
  obtain ⟨vs, vp, rfl, hxs, Ap, cp, rfl, hby⟩ := hp
  have h1 := ho.ses
  have h2 := ho.lim
  have h3 := ho.next
  have hgl := h.blk.lt
  have hkP := Blk.new w 55 (pkC p vs (.slice Ap p.p.length cp))
  have hkG := h.blk.alloc (.cells (pkC p vs (.slice Ap p.p.length cp)) 55)
  have hb : Below w.heap.size w (w.alloc (.cells (pkC p vs (.slice Ap p.p.length cp)) 55)) := (Below.refl _ w).alloc (Nat.le_refl _) _
  have HH := Lib.hid (And.intro h (And.intro hby (And.intro ho (And.intro hkP (And.intro hkG hb)))))
  obtain ⟨q1, q2⟩ := hq
  obtain ⟨pl, hpl⟩ : ∃ n, p.p.length = n := ⟨_, rfl⟩
  have HPL := Lib.hid hpl
  unfold pkC at hkP hkG hb ⊢
  rw [hpl] at hkP hkG hb q2 ⊢
  unfold rcC at hkG
  clear h hc hcp ho hxs hby hpl
  have hgw : g < w.heap.size := hgl
  obtain ⟨mn, hmn⟩ : ∃ x, x = min (r.next + r.lim) 1073741824 := ⟨_, rfl⟩
  have hmin := min_run _ _ _ hmn
  have HB := Lib.hid (And.intro hgl hb)
  by_cases hlt : p.seq < r.next
  · have HM : Hid (keepR r p = r) := by show _ = _; unfold keepR; rw [if_pos (.inl hlt)]
    go_enter Try.func68, Try.ntmps68
    go_wp2_with fail
    have hWW : Below (w.alloc (.cells (pkC p vs (.slice Ap p.p.length cp)) 55)).heap.size (w.alloc (.cells (pkC p vs (.slice Ap p.p.length cp)) 55)) (w.alloc (.cells #[.int .i64 p.kind, .int .i64 p.ses, .int .i64 p.seq, .int .i64 p.ack, .int .i64 p.cred, vs, .slice Ap pl cp] 55)).drew := by rw [← HPL.out]; exact (Below.refl _ _).drew
    have HWW := Lib.hid hWW
    clear hWW
    generalize (w.alloc (.cells #[.int .i64 p.kind, .int .i64 p.ses, .int .i64 p.seq, .int .i64 p.ack, .int .i64 p.cred, vs, .slice Ap pl cp] 55)) = W at *
    have xc2 : W.cell? ⟨w.heap.size, 2, none⟩ = some (.int .i64 p.seq) := hkP.cell 2
    have xc6 : W.cell? ⟨w.heap.size, 6, none⟩ = some (.slice Ap pl cp) := hkP.cell 6
    have xd1 : W.cell? ⟨g, 1, none⟩ = some (.int .i64 r.lim) := hkG.cell 1
    have xd2 : W.cell? ⟨g, 2, none⟩ = some (.int .i64 r.next) := hkG.cell 2
    have xd3 : W.cell? ⟨g, 3, none⟩ = some ve := hkG.cell 3
    have hz3 := hkG.frozen 3
    have lW := hkP.lt
    clear hkP hkG hb
    go_upto_region 1 with fail
    refine wp_region_lexP [(0, 1), (2, 1), (1, 1), (3, 1), (4, 1), (5, 1), (6, 1), (7, 1), (8, 1), (10, 1), (14, 1), (9, 1), (11, 1), (15, 1), (12, 1), (16, 1), (13, 1), (17, 1), (18, 1), (19, 1), (20, 1), (21, 1)] [] (fun w9 => w9.cell? ⟨w.heap.size, 2, none⟩ = some (.int .i64 p.seq) ∧ w9.cell? ⟨g, 2, none⟩ = some (.int .i64 r.next) ∧ w9.cell? ⟨g, 1, none⟩ = some (.int .i64 r.lim)) (by kernel_rfl) (by kernel_rfl) (by kernel_rfl) (by kernel_rfl) (by kernel_rfl) ⟨xc2, xd2, xd1⟩ ?_
    repeat ((first | (refine lexP_read rfl (by rfl) (by first | exact wanted_none rfl | exact wanted_some (b := true) (c := true) rfl rfl rfl | exact wanted_some (b := false) (c := false) rfl rfl rfl) (by intro w9 hS9; (try dsimp only at hS9); go_simp <;> with_reducible rfl) ?_) | (refine lexP_skip rfl (fun _ => trivial) (by first | exact wanted_some (b := true) (c := false) rfl rfl rfl | exact wanted_some (b := false) (c := true) rfl rfl rfl) ?_) | (refine lexP_builtin rfl (fun _ => trivial) (by first | exact wanted_none rfl | exact wanted_some (b := true) (c := true) rfl rfl rfl | exact wanted_some (b := false) (c := false) rfl rfl rfl) (by intro w9 hS9; (try dsimp only at hS9); go_simp <;> with_reducible rfl) ?_)); (try simp only [Act.put, List.getElem_toArray, List.getElem_cons_succ, List.getElem_cons_zero, List.setIfInBounds_toArray, List.set_cons_zero, List.set_cons_succ]))
    refine lexP_nil (panQ_normal ?_)
    go_wp2_with fail
    have hbw := HB.out.2.drew
    ((try simp only [Exit.inBlock, Exit.then]); first | refine bodyPost_ret (results_none rfl _ _ _) rfl ?_ | refine bodyPost_end (results_none rfl _ _ _) rfl ?_)
    refine ⟨rfl, ⟨ve, es, ?_⟩, fun b _ _ => Turn.of_below (T := [33, 84]) hbw, fun k cs _ hb => hb.below hbw hb.lt⟩
    rw [HM.out]
    exact ⟨HH.out.1.blk.below hbw HB.out.1, HH.out.1.own.up hbw (aeR_ab (by simp)), HH.out.1.em⟩
  by_cases hm : mn ≤ p.seq
  · have HM : Hid (keepR r p = r) := by show _ = _; unfold keepR; rw [if_pos (.inr (by rw [← hmn]; exact hm))]
    have kw : IntKind.i64.wrap (r.next + r.lim) = r.next + r.lim := by rw [IntWalk.i64_in _ (by omega)]
    have kd : decide (p.seq < r.next) = false := decide_eq_false (by omega)
    have ke : decide (mn ≤ p.seq) = true := decide_eq_true hm
    go_enter Try.func68, Try.ntmps68
    go_wp2_with fail
    have hWW : Below (w.alloc (.cells (pkC p vs (.slice Ap p.p.length cp)) 55)).heap.size (w.alloc (.cells (pkC p vs (.slice Ap p.p.length cp)) 55)) (w.alloc (.cells #[.int .i64 p.kind, .int .i64 p.ses, .int .i64 p.seq, .int .i64 p.ack, .int .i64 p.cred, vs, .slice Ap pl cp] 55)).drew := by rw [← HPL.out]; exact (Below.refl _ _).drew
    have HWW := Lib.hid hWW
    clear hWW
    generalize (w.alloc (.cells #[.int .i64 p.kind, .int .i64 p.ses, .int .i64 p.seq, .int .i64 p.ack, .int .i64 p.cred, vs, .slice Ap pl cp] 55)) = W at *
    have xc2 : W.cell? ⟨w.heap.size, 2, none⟩ = some (.int .i64 p.seq) := hkP.cell 2
    have xc6 : W.cell? ⟨w.heap.size, 6, none⟩ = some (.slice Ap pl cp) := hkP.cell 6
    have xd1 : W.cell? ⟨g, 1, none⟩ = some (.int .i64 r.lim) := hkG.cell 1
    have xd2 : W.cell? ⟨g, 2, none⟩ = some (.int .i64 r.next) := hkG.cell 2
    have xd3 : W.cell? ⟨g, 3, none⟩ = some ve := hkG.cell 3
    have hz3 := hkG.frozen 3
    have lW := hkP.lt
    clear hkP hkG hb
    go_upto_region 1 with fail
    refine wp_region_lexP [(0, 1), (2, 1), (1, 1), (3, 1), (4, 1), (5, 1), (6, 1), (7, 1), (8, 1), (10, 1), (14, 1), (9, 1), (11, 1), (15, 1), (12, 1), (16, 1), (13, 1), (17, 1), (18, 1), (19, 1), (20, 1), (21, 1)] [] (fun w9 => w9.cell? ⟨w.heap.size, 2, none⟩ = some (.int .i64 p.seq) ∧ w9.cell? ⟨g, 2, none⟩ = some (.int .i64 r.next) ∧ w9.cell? ⟨g, 1, none⟩ = some (.int .i64 r.lim)) (by kernel_rfl) (by kernel_rfl) (by kernel_rfl) (by kernel_rfl) (by kernel_rfl) ⟨xc2, xd2, xd1⟩ ?_
    repeat ((first | (refine lexP_read rfl (by rfl) (by first | exact wanted_none rfl | exact wanted_some (b := true) (c := true) rfl rfl rfl | exact wanted_some (b := false) (c := false) rfl rfl rfl) (by intro w9 hS9; (try dsimp only at hS9); go_simp <;> with_reducible rfl) ?_) | (refine lexP_skip rfl (fun _ => trivial) (by first | exact wanted_some (b := true) (c := false) rfl rfl rfl | exact wanted_some (b := false) (c := true) rfl rfl rfl) ?_) | (refine lexP_builtin rfl (fun _ => trivial) (by first | exact wanted_none rfl | exact wanted_some (b := true) (c := true) rfl rfl rfl | exact wanted_some (b := false) (c := false) rfl rfl rfl) (by intro w9 hS9; (try dsimp only at hS9); go_simp <;> with_reducible rfl) ?_)); (try simp only [Act.put, List.getElem_toArray, List.getElem_cons_succ, List.getElem_cons_zero, List.setIfInBounds_toArray, List.set_cons_zero, List.set_cons_succ]))
    refine lexP_nil (panQ_normal ?_)
    go_wp2_with fail
    have hbw := HB.out.2.drew
    ((try simp only [Exit.inBlock, Exit.then]); first | refine bodyPost_ret (results_none rfl _ _ _) rfl ?_ | refine bodyPost_end (results_none rfl _ _ _) rfl ?_)
    refine ⟨rfl, ⟨ve, es, ?_⟩, fun b _ _ => Turn.of_below (T := [33, 84]) hbw, fun k cs _ hb => hb.below hbw hb.lt⟩
    rw [HM.out]
    exact ⟨HH.out.1.blk.below hbw HB.out.1, HH.out.1.own.up hbw (aeR_ab (by simp)), HH.out.1.em⟩
  have HK : Hid (keepR r p = { r with early := insA ⟨p.seq, p.p⟩ r.early }) := by show _ = _; unfold keepR; rw [if_neg (by rw [← hmn]; omega)]
  have kw : IntKind.i64.wrap (r.next + r.lim) = r.next + r.lim := by rw [IntWalk.i64_in _ (by omega)]
  have kd : decide (p.seq < r.next) = false := decide_eq_false (by omega)
  have ke : decide (mn ≤ p.seq) = false := decide_eq_false (by omega)
  go_enter Try.func68, Try.ntmps68
  go_wp2_with fail
  have hWW : Below (w.alloc (.cells (pkC p vs (.slice Ap p.p.length cp)) 55)).heap.size (w.alloc (.cells (pkC p vs (.slice Ap p.p.length cp)) 55)) (w.alloc (.cells #[.int .i64 p.kind, .int .i64 p.ses, .int .i64 p.seq, .int .i64 p.ack, .int .i64 p.cred, vs, .slice Ap pl cp] 55)).drew := by rw [← HPL.out]; exact (Below.refl _ _).drew
  have HWW := Lib.hid hWW
  clear hWW
  generalize (w.alloc (.cells #[.int .i64 p.kind, .int .i64 p.ses, .int .i64 p.seq, .int .i64 p.ack, .int .i64 p.cred, vs, .slice Ap pl cp] 55)) = W at *
  have xc2 : W.cell? ⟨w.heap.size, 2, none⟩ = some (.int .i64 p.seq) := hkP.cell 2
  have xc6 : W.cell? ⟨w.heap.size, 6, none⟩ = some (.slice Ap pl cp) := hkP.cell 6
  have xd1 : W.cell? ⟨g, 1, none⟩ = some (.int .i64 r.lim) := hkG.cell 1
  have xd2 : W.cell? ⟨g, 2, none⟩ = some (.int .i64 r.next) := hkG.cell 2
  have xd3 : W.cell? ⟨g, 3, none⟩ = some ve := hkG.cell 3
  have hz3 := hkG.frozen 3
  have lW := hkP.lt
  clear hkP hkG hb
  go_upto_region 1 with fail
  refine wp_region_lexP [(0, 1), (2, 1), (1, 1), (3, 1), (4, 1), (5, 1), (6, 1), (7, 1), (8, 1), (10, 1), (14, 1), (9, 1), (11, 1), (15, 1), (12, 1), (16, 1), (13, 1), (17, 1), (18, 1), (19, 1), (20, 1), (21, 1)] [] (fun w9 => w9.cell? ⟨w.heap.size, 2, none⟩ = some (.int .i64 p.seq) ∧ w9.cell? ⟨g, 2, none⟩ = some (.int .i64 r.next) ∧ w9.cell? ⟨g, 1, none⟩ = some (.int .i64 r.lim)) (by kernel_rfl) (by kernel_rfl) (by kernel_rfl) (by kernel_rfl) (by kernel_rfl) ⟨xc2, xd2, xd1⟩ ?_
  repeat ((first | (refine lexP_read rfl (by rfl) (by first | exact wanted_none rfl | exact wanted_some (b := true) (c := true) rfl rfl rfl | exact wanted_some (b := false) (c := false) rfl rfl rfl) (by intro w9 hS9; (try dsimp only at hS9); go_simp <;> with_reducible rfl) ?_) | (refine lexP_skip rfl (fun _ => trivial) (by first | exact wanted_some (b := true) (c := false) rfl rfl rfl | exact wanted_some (b := false) (c := true) rfl rfl rfl) ?_) | (refine lexP_builtin rfl (fun _ => trivial) (by first | exact wanted_none rfl | exact wanted_some (b := true) (c := true) rfl rfl rfl | exact wanted_some (b := false) (c := false) rfl rfl rfl) (by intro w9 hS9; (try dsimp only at hS9); go_simp <;> with_reducible rfl) ?_)); (try simp only [Act.put, List.getElem_toArray, List.getElem_cons_succ, List.getElem_cons_zero, List.setIfInBounds_toArray, List.set_cons_zero, List.set_cons_succ]))
  refine lexP_nil (panQ_normal ?_)
  go_upto_region 2 with fail
  have hbW := HB.out.2.drew
  have hE0 := HH.out.1.own.up hbW (aeR_ab (by simp))
  have hls : es.length = r.early.length := by rw [← HH.out.1.em, List.length_map]
  have hsm : ∀ e ∈ es, 0 ≤ e.seq ∧ e.seq ≤ 4294967296 := fun e he => by
    have h6 : e.am ∈ r.early := by rw [← HH.out.1.em]; exact List.mem_map_of_mem he
    have h7 := HH.out.2.2.1.ear.lo _ h6
    have h8 := HH.out.2.2.1.ear.hi _ h6
    unfold Ae.am at h7 h8
    dsimp only at h7 h8
    omega
  have hor : ∀ (i j : Nat) (x y : Ae), i < j → es[i]? = some x → es[j]? = some y → x.seq < y.seq := fun i j x y hij hx hy => by
    have h6 := HH.out.2.2.1.ear.ord
    rw [← HH.out.1.em, List.pairwise_map] at h6
    obtain ⟨hi, hx⟩ := List.getElem?_eq_some_iff.1 hx
    obtain ⟨hj, hy⟩ := List.getElem?_eq_some_iff.1 hy
    have h7 := List.pairwise_iff_getElem.1 h6 i j hi hj hij
    rw [hx, hy] at h7
    exact h7
  have hlm : es.length ≤ 64 := by have := HH.out.2.2.1.few; have := HH.out.2.2.1.lim; omega
  have HS := Lib.hid (And.intro hbW (And.intro hE0 (And.intro hls (And.intro hsm (And.intro hor (And.intro hlm HWW.out))))))
  clear hbW hE0 hls hsm hor hlm hmn
  have xe2 : W.drew.cell? ⟨w.heap.size, 2, none⟩ = some (.int .i64 p.seq) := xc2
  have xe6 : W.drew.cell? ⟨w.heap.size, 6, none⟩ = some (.slice Ap pl cp) := xc6
  have xe3 : W.drew.cell? ⟨g, 3, none⟩ = some ve := xd3
  have xz3 : W.drew.frozen? ⟨g, 3, none⟩ = false := hz3
  have lV : w.heap.size < W.drew.heap.size := lW
  clear xc2 xc6 xd1 xd2 xd3 lW hz3
  generalize W.drew = W1 at *
  clear kd ke kw
  refine wp_region_lexP [(0, 1), (4, 1), (1, 1), (5, 1), (2, 1), (3, 1), (6, 0), (7, 1), (8, 1), (9, 1), (10, 1), (11, 1)] [] (fun w9 => w9.cell? ⟨w.heap.size, 2, none⟩ = some (.int .i64 p.seq) ∧ w9.cell? ⟨g, 3, none⟩ = some ve) (by kernel_rfl) (by kernel_rfl) (by kernel_rfl) (by kernel_rfl) (by kernel_rfl) ⟨xe2, xe3⟩ ?_
  repeat ((first | (refine lexP_read rfl (by rfl) (by first | exact wanted_none rfl | exact wanted_some (b := true) (c := true) rfl rfl rfl | exact wanted_some (b := false) (c := false) rfl rfl rfl) (by intro w9 hS9; (try dsimp only at hS9); go_simp <;> with_reducible rfl) ?_) | (refine lexP_skip rfl (fun _ => trivial) (by first | exact wanted_some (b := true) (c := false) rfl rfl rfl | exact wanted_some (b := false) (c := true) rfl rfl rfl) ?_) | (refine lexP_builtin rfl (fun _ => trivial) (by first | exact wanted_none rfl | exact wanted_some (b := true) (c := true) rfl rfl rfl | exact wanted_some (b := false) (c := false) rfl rfl rfl) (by intro w9 hS9; (try dsimp only at hS9); go_simp <;> with_reducible rfl) ?_)); (try simp only [Act.put, List.getElem_toArray, List.getElem_cons_succ, List.getElem_cons_zero, List.setIfInBounds_toArray, List.set_cons_zero, List.set_cons_succ]))
  refine lexP_eff rfl (fun _ => trivial) ?_
  go_simp
  refine CallsIn.mono ((callsIn_wide (n := 0)).2 (Search_any ve p.seq base es _ ((HS.out.2.1.up (Below.refl _ _).drew (aeR_ab (by simp))).vec) (by have := HS.out.2.2.2.2.2.1; omega) (by omega) HS.out.2.2.2.1 HS.out.2.2.2.2.1)) ?_
  rintro e w2 ⟨q, f, rfl, hpl, hb2⟩
  dsimp only
  have hb2' : Below W1.heap.size W1 w2 := (Below.refl _ W1).drew.trans hb2
  have lG : g < W1.heap.size := Nat.lt_trans hgw lV
  have yc2 := (hb2'.cell (p := ⟨w.heap.size, 2, none⟩) lV).trans xe2
  have yc6 := (hb2'.cell (p := ⟨w.heap.size, 6, none⟩) lV).trans xe6
  have yc3 := (hb2'.cell (p := ⟨g, 3, none⟩) lG).trans xe3
  have yz3 := (hb2'.frozen (p := ⟨g, 3, none⟩) lG).trans xz3
  have lV2 := Nat.lt_of_lt_of_le lV hb2'.size
  refine ⟨⟨yc2, yc3⟩, ?_⟩
  (try simp only [Act.put, List.getElem_toArray, List.getElem_cons_succ, List.getElem_cons_zero, List.setIfInBounds_toArray, List.set_cons_zero, List.set_cons_succ])
  repeat ((first | (refine lexP_read rfl (by rfl) (by first | exact wanted_none rfl | exact wanted_some (b := true) (c := true) rfl rfl rfl | exact wanted_some (b := false) (c := false) rfl rfl rfl) (by intro w9 hS9; (try dsimp only at hS9); go_simp <;> with_reducible rfl) ?_) | (refine lexP_skip rfl (fun _ => trivial) (by first | exact wanted_some (b := true) (c := false) rfl rfl rfl | exact wanted_some (b := false) (c := true) rfl rfl rfl) ?_) | (refine lexP_builtin rfl (fun _ => trivial) (by first | exact wanted_none rfl | exact wanted_some (b := true) (c := true) rfl rfl rfl | exact wanted_some (b := false) (c := false) rfl rfl rfl) (by intro w9 hS9; (try dsimp only at hS9); go_simp <;> with_reducible rfl) ?_)); (try simp only [Act.put, List.getElem_toArray, List.getElem_cons_succ, List.getElem_cons_zero, List.setIfInBounds_toArray, List.set_cons_zero, List.set_cons_succ]))
  refine lexP_nil (panQ_normal ?_)
  have hin := insA_place p.seq p.p f es q hpl
  rw [HH.out.1.em] at hin
  have hql := hpl.le
  have HP := Lib.hid (And.intro hpl hin)
  have hbw := HS.out.1.trans (hb2'.mono HS.out.1.size)
  have hbs : Below (w.alloc (.cells (pkC p vs (.slice Ap p.p.length cp)) 55)).heap.size (w.alloc (.cells (pkC p vs (.slice Ap p.p.length cp)) 55)) w2 := HS.out.2.2.2.2.2.2.trans (hb2'.mono HS.out.2.2.2.2.2.2.size)
  clear xe2 xe6 xe3 xz3 hpl hin hb2 hb2' lV lG
  cases f with
  | true =>
    have HM : Hid (keepR r p = r) := by show _ = _; rw [HK.out, HP.out.2]; rfl
    go_wp2_with fail
    ((try simp only [Exit.inBlock, Exit.then]); first | refine bodyPost_ret (results_none rfl _ _ _) rfl ?_ | refine bodyPost_end (results_none rfl _ _ _) rfl ?_)
    refine ⟨rfl, ⟨ve, es, ?_⟩, fun b _ _ => Turn.of_below (T := [33, 84]) hbw, fun k cs _ hb => hb.below hbw hb.lt⟩
    rw [HM.out]
    exact ⟨HH.out.1.blk.below hbw HB.out.1, HH.out.1.own.up hbw (aeR_ab (by simp)), HH.out.1.em⟩
  | false =>
  have HBW := Lib.hid hbw
  have HBS := Lib.hid hbs
  clear hbw
  have lG2 := Nat.lt_trans hgw lV2
  go_upto_region 4 with fail
  refine wp_region_lexP [(0, 1), (1, 1), (5, 1), (6, 1), (8, 1), (2, 1), (7, 1), (9, 1), (3, 1), (4, 1), (10, 0), (11, 1), (12, 0), (13, 0), (14, 1), (15, 1), (16, 0)] [16] (fun w9 => w9.cell? ⟨w.heap.size, 2, none⟩ = some (.int .i64 p.seq) ∧ w9.cell? ⟨w.heap.size, 6, none⟩ = some (.slice Ap pl cp) ∧ w9.cell? ⟨g, 3, none⟩ = some ve) (by kernel_rfl) (by kernel_rfl) (by kernel_rfl) (by kernel_rfl) (by kernel_rfl) ⟨yc2, yc6, yc3⟩ ?_
  repeat ((first | (refine lexP_read rfl (by rfl) (by first | exact wanted_none rfl | exact wanted_some (b := true) (c := true) rfl rfl rfl | exact wanted_some (b := false) (c := false) rfl rfl rfl) (by intro w9 hS9; (try dsimp only at hS9); go_simp <;> with_reducible rfl) ?_) | (refine lexP_skip rfl (fun _ => trivial) (by first | exact wanted_some (b := true) (c := false) rfl rfl rfl | exact wanted_some (b := false) (c := true) rfl rfl rfl) ?_) | (refine lexP_builtin rfl (fun _ => trivial) (by first | exact wanted_none rfl | exact wanted_some (b := true) (c := true) rfl rfl rfl | exact wanted_some (b := false) (c := false) rfl rfl rfl) (by intro w9 hS9; (try dsimp only at hS9); go_simp <;> with_reducible rfl) ?_)); (try simp only [Act.put, List.getElem_toArray, List.getElem_cons_succ, List.getElem_cons_zero, List.setIfInBounds_toArray, List.set_cons_zero, List.set_cons_succ]))
  refine lexP_eff rfl (fun _ => trivial) ?_
  go_simp
  refine CallsIn.mono ((callsIn_wide (n := 0)).2 (CloneB_any Ap pl cp (u8s p.p) w2.drew (by have h := HH.out.2.1.up (HBW.out.trans ((Below.refl _ w2).drew.mono HBW.out.size)); unfold Byt at h; rw [HPL.out] at h; exact h.rd) (by omega) (u8s_one _))) ?_
  rintro e w3 ⟨⟨v3, rfl, hown3⟩, hb3⟩
  dsimp only
  obtain ⟨A3, cc3, rfl, -, -, -⟩ := own_slice hown3
  have hb3' : Below w2.heap.size w2 w3 := (Below.refl _ w2).drew.trans hb3
  have q2' := (hb3'.cell (p := ⟨w.heap.size, 2, none⟩) lV2).trans yc2
  have q6' := (hb3'.cell (p := ⟨w.heap.size, 6, none⟩) lV2).trans yc6
  have q3' := (hb3'.cell (p := ⟨g, 3, none⟩) lG2).trans yc3
  have z3' := (hb3'.frozen (p := ⟨g, 3, none⟩) lG2).trans yz3
  have lV3 := Nat.lt_of_lt_of_le lV2 hb3'.size
  have lG3 := Nat.lt_of_lt_of_le lG2 hb3'.size
  refine ⟨⟨q2', q6', q3'⟩, ?_⟩
  (try simp only [Act.put, List.getElem_toArray, List.getElem_cons_succ, List.getElem_cons_zero, List.setIfInBounds_toArray, List.set_cons_zero, List.set_cons_succ])
  repeat ((first | (refine lexP_read rfl (by rfl) (by first | exact wanted_none rfl | exact wanted_some (b := true) (c := true) rfl rfl rfl | exact wanted_some (b := false) (c := false) rfl rfl rfl) (by intro w9 hS9; (try dsimp only at hS9); go_simp <;> with_reducible rfl) ?_) | (refine lexP_skip rfl (fun _ => trivial) (by first | exact wanted_some (b := true) (c := false) rfl rfl rfl | exact wanted_some (b := false) (c := true) rfl rfl rfl) ?_) | (refine lexP_builtin rfl (fun _ => trivial) (by first | exact wanted_none rfl | exact wanted_some (b := true) (c := true) rfl rfl rfl | exact wanted_some (b := false) (c := false) rfl rfl rfl) (by intro w9 hS9; (try dsimp only at hS9); go_simp <;> with_reducible rfl) ?_)); (try simp only [Act.put, List.getElem_toArray, List.getElem_cons_succ, List.getElem_cons_zero, List.setIfInBounds_toArray, List.set_cons_zero, List.set_cons_succ]))
  refine lexP_eff rfl (fun _ => trivial) ?_
  go_simp
  have hb4 : Below w3.heap.size w3 (w3.alloc (.cells #[.int .i64 p.seq, .slice A3 pl cc3] 84)) := (Below.refl _ w3).alloc (Nat.le_refl _) _
  have r2 := (hb4.cell (p := ⟨w.heap.size, 2, none⟩) lV3).trans q2'
  have r6 := (hb4.cell (p := ⟨w.heap.size, 6, none⟩) lV3).trans q6'
  have r3 := (hb4.cell (p := ⟨g, 3, none⟩) lG3).trans q3'
  have hlw4 : low ≤ (w3.alloc (.cells #[.int .i64 p.seq, .slice A3 pl cc3] 84)).heap.size := by rw [World.size_alloc]; have := HBW.out.size; have := hb3'.size; omega
  have hbw4 : Below w.heap.size w (w3.alloc (.cells #[.int .i64 p.seq, .slice A3 pl cc3] 84)) := (HBW.out.trans (hb3'.mono HBW.out.size)).trans (hb4.mono (Nat.le_trans HBW.out.size hb3'.size))
  have hO4 := HH.out.1.own.up hbw4 (aeR_ab (by simp))
  have hblk4 := HH.out.1.blk.below hbw4 HB.out.1
  have HP5 := Lib.hid (HH.out.2.2.2.1.below ((HBS.out.trans (hb3'.mono HBS.out.size)).trans (hb4.mono (Nat.le_trans HBS.out.size hb3'.size))) HH.out.2.2.2.1.lt)
  have hE4 : AeR (w3.alloc (.cells #[.int .i64 p.seq, .slice A3 pl cc3] 84)) base ⟨p.seq, A3, cc3, p.p⟩ := (byt_of_own hown3 HPL.out).up hb4
  have hvb : Blk (w3.alloc (.cells #[.int .i64 p.seq, .slice A3 pl cc3] 84)) w3.heap.size 84 (encA ⟨p.seq, A3, cc3, p.p⟩).toArray := by
    have h := Blk.new w3 84 #[.int .i64 p.seq, .slice A3 pl cc3]
    rw [← HPL.out] at h ⊢
    exact h
  have hne : ve.ownBlock ≠ some w3.heap.size := by
    intro he
    have h2 : ∀ j, ve.ownBlock = some j → j < w.heap.size := fun j hj => own_lt HH.out.1.own.own j hj
    have := h2 _ he
    have := HBW.out.size
    have := hb3'.size
    omega
  have hins := Insert_any low q ve es.length (es.flatMap encA) w3.heap.size (encA ⟨p.seq, A3, cc3, p.p⟩).toArray (w3.alloc (.cells #[.int .i64 p.seq, .slice A3 pl cc3] 84)) hO4.own hvb rfl (by intro u hu; simp [encA] at hu; rcases hu with rfl | rfl <;> rfl) (flat_one encA_one es) hql (by have := HS.out.2.2.2.2.2.1; omega) hne hlw4
  have HI := Lib.hid (And.intro hins (And.intro hO4 (And.intro hE4 (And.intro hblk4 hbw4))))
  clear hins hO4 hE4 hblk4 hbw4 hvb hne hlw4
  have lG4 : g < (w3.alloc (.cells #[.int .i64 p.seq, .slice A3 pl cc3] 84)).heap.size := Nat.lt_of_lt_of_le lG3 hb4.size
  clear hb4
  generalize (w3.alloc (.cells #[.int .i64 p.seq, .slice A3 pl cc3] 84)) = w4 at *
  refine lexP_eff rfl (fun _ => trivial) ?_
  go_simp
  refine CallsIn.mono ((callsIn_wide (n := 0)).2 HI.out.1) ?_
  rintro e w5 hres
  obtain ⟨v5, rfl, hO5, hT5⟩ := ins_own HI.out.2.1 hbl hql HI.out.2.2.1 hres
  obtain ⟨A5, c5, rfl, -, -⟩ := hO5.vform
  dsimp only
  clear hres
  obtain ⟨n5, hn5⟩ : ∃ n, (es.take q ++ (⟨p.seq, A3, cc3, p.p⟩ : Ae) :: es.drop q).length = n := ⟨_, rfl⟩
  rw [hn5] at hO5 ⊢
  clear hn5
  have hk5 := HI.out.2.2.2.1.turn hT5 (by simp)
  have s3 : w5.cell? ⟨g, 3, none⟩ = some ve := hk5.cell 3
  have sz := hk5.frozen 3
  have s2 : w5.cell? ⟨w.heap.size, 2, none⟩ = some (.int .i64 p.seq) := (HP5.out.turn hT5 (by simp)).cell 2
  have s6 : w5.cell? ⟨w.heap.size, 6, none⟩ = some (.slice Ap pl cp) := ((HP5.out.turn hT5 (by simp)).cell 6).trans (by show some (Value.slice Ap p.p.length cp) = _; rw [HPL.out])
  have l5 := hk5.lt
  have H5 := Lib.hid (And.intro hk5 (And.intro hO5 hT5))
  clear hk5 hO5 hT5
  refine ⟨⟨s2, s6, s3⟩, ?_⟩
  (try simp only [Act.put, List.getElem_toArray, List.getElem_cons_succ, List.getElem_cons_zero, List.setIfInBounds_toArray, List.set_cons_zero, List.set_cons_succ])
  repeat ((first | (refine lexP_read rfl (by rfl) (by first | exact wanted_none rfl | exact wanted_some (b := true) (c := true) rfl rfl rfl | exact wanted_some (b := false) (c := false) rfl rfl rfl) (by intro w9 hS9; (try dsimp only at hS9); go_simp <;> with_reducible rfl) ?_) | (refine lexP_skip rfl (fun _ => trivial) (by first | exact wanted_some (b := true) (c := false) rfl rfl rfl | exact wanted_some (b := false) (c := true) rfl rfl rfl) ?_) | (refine lexP_builtin rfl (fun _ => trivial) (by first | exact wanted_none rfl | exact wanted_some (b := true) (c := true) rfl rfl rfl | exact wanted_some (b := false) (c := false) rfl rfl rfl) (by intro w9 hS9; (try dsimp only at hS9); go_simp <;> with_reducible rfl) ?_)); (try simp only [Act.put, List.getElem_toArray, List.getElem_cons_succ, List.getElem_cons_zero, List.setIfInBounds_toArray, List.set_cons_zero, List.set_cons_succ]))
  refine lexP_eff rfl (fun _ => trivial) ?_
  go_simp
  refine lexP_nil (panQ_normal ?_)
  have hkS : Blk (w5.setCell ⟨g, 3, none⟩ (.slice A5 n5 c5)) g 33 (rcC r (.slice A5 n5 c5)) := H5.out.1.set_ 3 _
  have hTS : Turn base [33] w5 (w5.setCell ⟨g, 3, none⟩ (.slice A5 n5 c5)) := (Turn.refl base [33] w5).set H5.out.1 (by simp) hbg 3 _
  have hOS := H5.out.2.1.turn hTS (by simp) (aeR_ab (by simp))
  have hTF : ∀ b, b ≤ g → b ≤ low → Turn b [33, 84] w (w5.setCell ⟨g, 3, none⟩ (.slice A5 n5 c5)) := fun b h1 h2 => (Turn.of_below HI.out.2.2.2.2).trans (((H5.out.2.2.base h2).mono (by simp)).trans (((Turn.refl b [33] w5).set H5.out.1 (by simp) h1 3 _).mono (by simp)))
  have hoth : ∀ k cs, k ≠ g → Blk w k 33 cs → Blk (w5.setCell ⟨g, 3, none⟩ (.slice A5 n5 c5)) k 33 cs := fun k cs hk hb => ((hb.below HI.out.2.2.2.2 hb.lt).turn H5.out.2.2 (by simp)).far (p := ⟨g, 3, none⟩) hk _
  have HF := Lib.hid (And.intro hkS (And.intro hOS (And.intro hTF hoth)))
  clear hkS hTS hOS hTF hoth s2 s6 s3 sz
  go_wp2_with fail
  ((try simp only [Exit.inBlock, Exit.then]); first | refine bodyPost_ret (results_none rfl _ _ _) rfl ?_ | refine bodyPost_end (results_none rfl _ _ _) rfl ?_)
  refine ⟨rfl, ⟨.slice A5 n5 c5, es.take q ++ ⟨p.seq, A3, cc3, p.p⟩ :: es.drop q, ?_⟩, HF.out.2.2.1, HF.out.2.2.2⟩
  rw [HK.out]
  refine ⟨HF.out.1, HF.out.2.1, ?_⟩
  rw [List.map_append, List.map_cons]
  exact (HP.out.2.trans (by simp [Ae.am])).symm
end Go.Proofs.Ytanmndhdhlmjgaa
