/- The walk of deliver. Conditions: small. -/
import Derived.Test.YtanmndhdhlmjgaaWn
namespace Go.Proofs.Ytanmndhdhlmjgaa
open Go.RowKit
def lenOf : Value → Nat
  | .slice _ n _ => n
  | _ => 0
/-- the loop's state: what is delivered, what is left -/
structure DlS (w : World) (base low g : Nat) (r : Rm) (N : Nat) (rn : Int) (ve vq : Value) (es : List Ae) (qs : List Qe) (W : World) : Prop where
  blk : Blk W g 33 (rcC { r with next := rn } ve)
  vec : Vec encA AeR 84 2 W base ve es
  own : Own1 encQ QeR 42 1 W base low vq qs
  len : es.length + qs.length = N
  nxt : 0 ≤ rn ∧ rn + es.length ≤ 2147483648
  eqn : deliv r.next r.early = (qs.map Qe.p ++ (deliv rn (es.map Ae.am)).1, (deliv rn (es.map Ae.am)).2)
  turn : ∀ b, b ≤ g → b ≤ low → Turn b [33, 42] w W
  oth : ∀ k cs, k ≠ g → Blk w k 33 cs → Blk W k 33 cs
structure DelivR (w : World) (base low g : Nat) (r : Rm) (e : Ending) (w' : World) : Prop where
  ret : ∃ vq qs, e = .returned vq ∧ Own1 encQ QeR 42 1 w' base low vq qs ∧ qs.map Qe.p = (deliv r.next r.early).1
  box : ∃ ve es, Blk w' g 33 (rcC { r with next := (deliv r.next r.early).2.1, early := (deliv r.next r.early).2.2 } ve) ∧ Vec encA AeR 84 2 w' base ve es ∧ es.map Ae.am = (deliv r.next r.early).2.2
  turn : ∀ b, b ≤ g → b ≤ low → Turn b [33, 42] w w'
  oth : ∀ k cs, k ≠ g → Blk w k 33 cs → Blk w' k 33 cs
theorem DlS.end_ {w W : World} {base low g N : Nat} {r : Rm} {rn : Int} {ve vq : Value} {es : List Ae} {qs : List Qe} (h : DlS w base low g r N rn ve vq es qs W) (hd : deliv rn (es.map Ae.am) = ([], rn, es.map Ae.am)) : DelivR w base low g r (.returned vq) W := by
  have h1 := h.eqn
  rw [hd, List.append_nil] at h1
  exact ⟨⟨vq, qs, rfl, h.own, by rw [h1]⟩, ⟨ve, es, by rw [h1]; exact h.blk, h.vec, by rw [h1]⟩, h.turn, h.oth⟩
theorem DlS.drew {w W : World} {base low g N : Nat} {r : Rm} {rn : Int} {ve vq : Value} {es : List Ae} {qs : List Qe} (h : DlS w base low g r N rn ve vq es qs W) : DlS w base low g r N rn ve vq es qs W.drew :=
  ⟨h.blk.drew, h.vec.up (Below.refl _ _).drew (aeR_ab (by simp)), h.own.up (Below.refl _ _).drew (qeR_ab (by simp)), h.len, h.nxt, h.eqn, fun b h1 h2 => (h.turn b h1 h2).drew, fun k cs hk hb => (h.oth k cs hk hb).drew⟩
theorem Vec.tail {α : Type} {E : α → List Value} {R : World → Nat → α → Prop} {t : TypeId} {sz : Nat} {W : World} {base c : Nat} {A : Option Addr} {a : α} {l : List α} (h : Vec E R t sz W base (.slice A (l.length + 1) c) (a :: l)) (hE : (E a).length = sz) :
    Vec E R t sz W base (.slice (if c = 1 then A else A.map (·.add sz)) l.length (c - 1)) l := by
  obtain ⟨A2, c2, hv, h1, h2, h3⟩ := h.val
  injection hv with hA hn hc
  subst hA hc
  rw [List.length_cons] at h1 h3
  have hk := h3.cut (k := 1) (cap := c) (by omega) h1
  rw [List.flatMap_cons, Nat.one_mul, ← hE, List.drop_left, Nat.add_sub_cancel] at hk
  rw [← hE]
  exact ⟨⟨_, _, rfl, by omega, by omega, hk⟩, fun e he => h.el e (by simp [he])⟩
set_option maxRecDepth 100000 in
set_option maxHeartbeats 4000000 in
set_option linter.unusedSimpArgs false in
theorem deliver_any (r : Rm) (ve : Value) (es : List Ae) (g base low : Nat) (w : World) (h : RcO w base low g r ve es) (hn : es.length ≤ 1000) (hx : 0 ≤ r.next ∧ r.next ≤ 1073741824) (hbg : base ≤ g) (hbl : base ≤ low) (hlw : low ≤ w.heap.size) :
    Calls Try.prog 69 #[.pointer (some ⟨g, 0, none⟩)] w (DelivR w base low g r) := by
  have HI : Hid (DlS w base low g r es.length r.next ve (.slice none 0 0) es [] w) := ⟨h.blk, h.own.vec, Own1.nil, by simp, by omega, by rw [h.em]; simp, fun _ _ _ => Turn.refl _ _ _, fun _ _ _ h => h⟩
  have hgw := h.blk.lt
  clear h
  generalize es.length = N at *
  go_enter Try.func69, Try.ntmps69
  go_wp2_with fail
  go_loopw [3] (fun u3 wr => ∃ rn ve es qs, Hid (DlS w base low g r N rn ve u3 es qs wr)) (fun u3 _ => N - lenOf u3)
  case atStart => exact ⟨_, _, _, _, HI⟩
  case round =>
    obtain ⟨rn, ve, es, qs, HS⟩ := hrel
    have hb := HS.out.blk
    have xc2 : wr.cell? ⟨g, 2, none⟩ = some (.int .i64 rn) := hb.cell 2
    have xc3 : wr.cell? ⟨g, 3, none⟩ = some ve := hb.cell 3
    have xz2 := hb.frozen 2
    have xz3 := hb.frozen 3
    have lR := hb.lt
    obtain ⟨Aq, cq, rfl, hq1, hq2⟩ := HS.out.own.vform
    have hlen := HS.out.len
    have hnx := HS.out.nxt
    clear hb
    cases es with
    | nil =>
      obtain ⟨A, c, hve, -, -, -⟩ := HS.out.vec.val
      subst hve
      have HE := Lib.hid (HS.out.drew.end_ rfl)
      clear hlen hnx
      go_upto_region 2 with fail
      refine wp_region_lexP [(0, 1), (1, 1), (2, 1), (3, 1), (4, 1), (5, 1), (6, 1), (7, 1), (14, 1), (8, 1), (15, 1), (9, 1), (16, 1), (10, 1), (17, 1), (11, 1), (12, 1), (13, 1), (18, 1), (19, 1)] [] (fun w9 => w9.cell? ⟨g, 3, none⟩ = some (.slice A 0 c)) (by kernel_rfl) (by kernel_rfl) (by kernel_rfl) (by kernel_rfl) (by kernel_rfl) xc3 ?_
      repeat ((first | (refine lexP_read rfl (by rfl) (by first | exact wanted_none rfl | exact wanted_some (b := true) (c := true) rfl rfl rfl | exact wanted_some (b := false) (c := false) rfl rfl rfl) (by intro w9 hS9; (try dsimp only at hS9); go_simp <;> with_reducible rfl) ?_) | (refine lexP_skip rfl (fun _ => trivial) (by first | exact wanted_some (b := true) (c := false) rfl rfl rfl | exact wanted_some (b := false) (c := true) rfl rfl rfl) ?_) | (refine lexP_builtin rfl (fun _ => trivial) (by first | exact wanted_none rfl | exact wanted_some (b := true) (c := true) rfl rfl rfl | exact wanted_some (b := false) (c := false) rfl rfl rfl) (by intro w9 hS9; (try dsimp only at hS9); go_simp <;> with_reducible rfl) ?_)); (try simp only [Act.put, List.getElem_toArray, List.getElem_cons_succ, List.getElem_cons_zero, List.setIfInBounds_toArray, List.set_cons_zero, List.set_cons_succ]))
      refine lexP_nil (panQ_normal ?_)
      go_wp2_with fail
      go_ret
      exact HE.out
    | cons a l =>
      obtain ⟨b, off, c, hve, hlc, hcm, hbw, hc⟩ := HS.out.vec.at_ (fun _ => rfl) (by omega) (by simp)
      subst hve
      have xd0 : wr.cell? ⟨b, off, none⟩ = some (.int .i64 a.seq) := by have h := hc 0 (by simp) 0 _ rfl; simpa using h
      have xd1 : wr.cell? ⟨b, off + 1, none⟩ = some (.slice a.A a.p.length a.c) := by have h := hc 0 (by simp) 1 _ rfl; simpa using h
      clear hc
      rw [List.length_cons] at hlc hlen hnx xc3
      by_cases hsq : a.seq = rn
      rotate_left 1
      · have HE := Lib.hid (HS.out.drew.end_ (by rw [List.map_cons, deliv, if_neg (by exact hsq)]))
        have kd : (a.seq == rn) = false := beq_eq_false_iff_ne.2 hsq
        go_upto_region 2 with fail
        refine wp_region_lexP [(0, 1), (1, 1), (2, 1), (3, 1), (4, 1), (5, 1), (6, 1), (7, 1), (14, 1), (8, 1), (15, 1), (9, 1), (16, 1), (10, 1), (17, 1), (11, 1), (12, 1), (13, 1), (18, 1), (19, 1)] [] (fun w9 => w9.cell? ⟨g, 3, none⟩ = some (.slice (some ⟨b, off, none⟩) (l.length + 1) c) ∧ w9.cell? ⟨g, 2, none⟩ = some (.int .i64 rn) ∧ w9.cell? ⟨b, off, none⟩ = some (.int .i64 a.seq)) (by kernel_rfl) (by kernel_rfl) (by kernel_rfl) (by kernel_rfl) (by kernel_rfl) ⟨xc3, xc2, xd0⟩ ?_
        repeat ((first | (refine lexP_read rfl (by rfl) (by first | exact wanted_none rfl | exact wanted_some (b := true) (c := true) rfl rfl rfl | exact wanted_some (b := false) (c := false) rfl rfl rfl) (by intro w9 hS9; (try dsimp only at hS9); go_simp <;> with_reducible rfl) ?_) | (refine lexP_skip rfl (fun _ => trivial) (by first | exact wanted_some (b := true) (c := false) rfl rfl rfl | exact wanted_some (b := false) (c := true) rfl rfl rfl) ?_) | (refine lexP_builtin rfl (fun _ => trivial) (by first | exact wanted_none rfl | exact wanted_some (b := true) (c := true) rfl rfl rfl | exact wanted_some (b := false) (c := false) rfl rfl rfl) (by intro w9 hS9; (try dsimp only at hS9); go_simp <;> with_reducible rfl) ?_)); (try simp only [Act.put, List.getElem_toArray, List.getElem_cons_succ, List.getElem_cons_zero, List.setIfInBounds_toArray, List.set_cons_zero, List.set_cons_succ]))
        refine lexP_nil (panQ_normal ?_)
        go_wp2_with fail
        go_ret
        exact HE.out
      · have kd : (a.seq == rn) = true := beq_iff_eq.2 hsq
        have HSQ := Lib.hid hsq
        clear hsq
        go_upto_region 2 with fail
        refine wp_region_lexP [(0, 1), (1, 1), (2, 1), (3, 1), (4, 1), (5, 1), (6, 1), (7, 1), (14, 1), (8, 1), (15, 1), (9, 1), (16, 1), (10, 1), (17, 1), (11, 1), (12, 1), (13, 1), (18, 1), (19, 1)] [] (fun w9 => w9.cell? ⟨g, 3, none⟩ = some (.slice (some ⟨b, off, none⟩) (l.length + 1) c) ∧ w9.cell? ⟨g, 2, none⟩ = some (.int .i64 rn) ∧ w9.cell? ⟨b, off, none⟩ = some (.int .i64 a.seq)) (by kernel_rfl) (by kernel_rfl) (by kernel_rfl) (by kernel_rfl) (by kernel_rfl) ⟨xc3, xc2, xd0⟩ ?_
        repeat ((first | (refine lexP_read rfl (by rfl) (by first | exact wanted_none rfl | exact wanted_some (b := true) (c := true) rfl rfl rfl | exact wanted_some (b := false) (c := false) rfl rfl rfl) (by intro w9 hS9; (try dsimp only at hS9); go_simp <;> with_reducible rfl) ?_) | (refine lexP_skip rfl (fun _ => trivial) (by first | exact wanted_some (b := true) (c := false) rfl rfl rfl | exact wanted_some (b := false) (c := true) rfl rfl rfl) ?_) | (refine lexP_builtin rfl (fun _ => trivial) (by first | exact wanted_none rfl | exact wanted_some (b := true) (c := true) rfl rfl rfl | exact wanted_some (b := false) (c := false) rfl rfl rfl) (by intro w9 hS9; (try dsimp only at hS9); go_simp <;> with_reducible rfl) ?_)); (try simp only [Act.put, List.getElem_toArray, List.getElem_cons_succ, List.getElem_cons_zero, List.setIfInBounds_toArray, List.set_cons_zero, List.set_cons_succ]))
        refine lexP_nil (panQ_normal ?_)
        have HD := Lib.hid HS.out.drew
        have xe2 : wr.drew.cell? ⟨g, 2, none⟩ = some (.int .i64 rn) := xc2
        have xe3 : wr.drew.cell? ⟨g, 3, none⟩ = some (.slice (some ⟨b, off, none⟩) (l.length + 1) c) := xc3
        have xe1 : wr.drew.cell? ⟨b, off + 1, none⟩ = some (.slice a.A a.p.length a.c) := xd1
        have le : g < wr.drew.heap.size := lR
        have lb : b < wr.drew.heap.size := hbw
        clear xc2 xc3 xd0 xd1 xz2 xz3 lR hbw HS
        generalize wr.drew = wd at *
        have hkb := Blk.new wd 42 #[.slice a.A a.p.length a.c]
        have hbb : Below wd.heap.size wd (wd.alloc (.cells #[.slice a.A a.p.length a.c] 42)) := (Below.refl _ wd).alloc (Nat.le_refl _) _
        have hO := HD.out.own.up hbb (qeR_ab (by simp))
        have hB := HD.out.blk.below hbb le
        have hV := HD.out.vec.up hbb (aeR_ab (by simp))
        have hT : ∀ b, b ≤ g → b ≤ low → Turn b [33, 42] w (wd.alloc (.cells #[.slice a.A a.p.length a.c] 42)) := fun b h1 h2 => (HD.out.turn b h1 h2).then_ hbb
        have hQR : QeR (wd.alloc (.cells #[.slice a.A a.p.length a.c] 42)) base ⟨a.A, a.c, a.p⟩ := hV.el a (by simp)
        have hlw2 : low ≤ (wd.alloc (.cells #[.slice a.A a.p.length a.c] 42)).heap.size := by rw [World.size_alloc]; have := (HD.out.turn base hbg hbl).size; omega
        have hoo : ∀ k cs, k ≠ g → Blk w k 33 cs → Blk (wd.alloc (.cells #[.slice a.A a.p.length a.c] 42)) k 33 cs := fun k cs hk hb => (HD.out.oth k cs hk hb).below hbb (HD.out.oth k cs hk hb).lt
        have HX := Lib.hid (And.intro hO (And.intro hB (And.intro hV (And.intro hT (And.intro hQR (And.intro hkb (And.intro hlw2 hoo)))))))
        clear hkb hbb hO hB hV hT hQR hlw2 hoo
        by_cases hc1 : c = 1
        · go_wp2_with (at_builtin; refine wpList_push (E := encQ) (R := QeR) (t := 42) (sz := 1) (base := base) (low := low) (l := qs) (b := ⟨a.A, a.c, a.p⟩) rfl (.tmp 24) (.tmp 32) 23 rfl (.slice none 0 0) 24 Try.underlying23 info42 rfl (by omega) (encQ_one _) rfl rfl HX.out.1 hbl (qeR_ab (by simp)) HX.out.2.2.2.2.1 rfl HX.out.2.2.2.2.2.1 (by omega) (by omega) HX.out.2.2.2.2.2.2.1 ?_; intro v1 w1 hp1; have hT1 := hp1.turn.base hbl; have hB1 := HX.out.2.1.turn hT1 (by simp); have f2 : w1.cell? ⟨g, 2, none⟩ = some (.int .i64 rn) := hB1.cell 2; have f3 : w1.cell? ⟨g, 3, none⟩ = some (.slice (some ⟨b, off, none⟩) (l.length + 1) c) := hB1.cell 3; have y2 := hB1.frozen 2; have y3 := hB1.frozen 3; have l1 := hB1.lt; have HP := Lib.hid (And.intro hp1 (And.intro hT1 hB1)); clear hp1 hT1 hB1)
          have hv' := HX.out.2.2.1.turn HP.out.2.1 (by simp) (aeR_ab (by simp))
          have hV2 := Vec.tail hv' rfl
          subst hc1
          rw [if_pos rfl] at hV2
          have hkS := (HP.out.2.2.set_ 3 (.slice (some ⟨b, off, none⟩) l.length (1 - 1))).set_ 2 (.int .i64 (rn + 1))
          have hTS : Turn base [33] w1 ((w1.setCell ⟨g, 3, none⟩ (.slice (some ⟨b, off, none⟩) l.length (1 - 1))).setCell ⟨g, 2, none⟩ (.int .i64 (rn + 1))) := ((Turn.refl base [33] w1).set HP.out.2.2 (by simp) hbg 3 _).set (HP.out.2.2.set_ 3 (.slice (some ⟨b, off, none⟩) l.length (1 - 1))) (by simp) hbg 2 _
          have HF : Hid (DlS w base low g r N (rn + 1) (.slice (some ⟨b, off, none⟩) l.length (1 - 1)) v1 l (qs ++ [⟨a.A, a.c, a.p⟩]) ((w1.setCell ⟨g, 3, none⟩ (.slice (some ⟨b, off, none⟩) l.length (1 - 1))).setCell ⟨g, 2, none⟩ (.int .i64 (rn + 1)))) := by
            refine ⟨hkS, hV2.turn hTS (by simp) (aeR_ab (by simp)), HP.out.1.own.turn hTS (by simp) (qeR_ab (by simp)), by rw [List.length_append]; simp; omega, by omega, ?_, fun b' h1 h2 => ((HX.out.2.2.2.1 b' h1 h2).trans ((HP.out.1.turn.base h2).mono (by simp))).trans ((((Turn.refl b' [33] w1).set HP.out.2.2 (by simp) h1 3 _).set (HP.out.2.2.set_ 3 (.slice (some ⟨b, off, none⟩) l.length (1 - 1))) (by simp) h1 2 _).mono (by simp)), fun k cs hk hb => ((((HX.out.2.2.2.2.2.2.2 k cs hk hb).turn HP.out.2.1 (by simp)).far (p := ⟨g, 3, none⟩) hk _).far (p := ⟨g, 2, none⟩) hk _)⟩
            rw [HD.out.eqn, List.map_cons, deliv, if_pos (by exact HSQ.out), List.map_append]
            simp [Ae.am]
          clear hv' hV2 hkS hTS
          go_roundw
          case rel => exact ⟨_, _, _, _, HF⟩
          case measure =>
            obtain ⟨A9, c9, hv9, -, -⟩ := HF.out.own.vform
            rw [hv9]
            simp [lenOf]
            omega
        · go_wp2_with (at_builtin; refine wpList_push (E := encQ) (R := QeR) (t := 42) (sz := 1) (base := base) (low := low) (l := qs) (b := ⟨a.A, a.c, a.p⟩) rfl (.tmp 24) (.tmp 32) 23 rfl (.slice none 0 0) 24 Try.underlying23 info42 rfl (by omega) (encQ_one _) rfl rfl HX.out.1 hbl (qeR_ab (by simp)) HX.out.2.2.2.2.1 rfl HX.out.2.2.2.2.2.1 (by omega) (by omega) HX.out.2.2.2.2.2.2.1 ?_; intro v1 w1 hp1; have hT1 := hp1.turn.base hbl; have hB1 := HX.out.2.1.turn hT1 (by simp); have f2 : w1.cell? ⟨g, 2, none⟩ = some (.int .i64 rn) := hB1.cell 2; have f3 : w1.cell? ⟨g, 3, none⟩ = some (.slice (some ⟨b, off, none⟩) (l.length + 1) c) := hB1.cell 3; have y2 := hB1.frozen 2; have y3 := hB1.frozen 3; have l1 := hB1.lt; have HP := Lib.hid (And.intro hp1 (And.intro hT1 hB1)); clear hp1 hT1 hB1)
          have hv' := HX.out.2.2.1.turn HP.out.2.1 (by simp) (aeR_ab (by simp))
          have hV2 := Vec.tail hv' rfl
          rw [if_neg hc1] at hV2
          have hkS := (HP.out.2.2.set_ 3 (.slice (some ⟨b, off + 2, none⟩) l.length (c - 1))).set_ 2 (.int .i64 (rn + 1))
          have hTS : Turn base [33] w1 ((w1.setCell ⟨g, 3, none⟩ (.slice (some ⟨b, off + 2, none⟩) l.length (c - 1))).setCell ⟨g, 2, none⟩ (.int .i64 (rn + 1))) := ((Turn.refl base [33] w1).set HP.out.2.2 (by simp) hbg 3 _).set (HP.out.2.2.set_ 3 (.slice (some ⟨b, off + 2, none⟩) l.length (c - 1))) (by simp) hbg 2 _
          have HF : Hid (DlS w base low g r N (rn + 1) (.slice (some ⟨b, off + 2, none⟩) l.length (c - 1)) v1 l (qs ++ [⟨a.A, a.c, a.p⟩]) ((w1.setCell ⟨g, 3, none⟩ (.slice (some ⟨b, off + 2, none⟩) l.length (c - 1))).setCell ⟨g, 2, none⟩ (.int .i64 (rn + 1)))) := by
            refine ⟨hkS, hV2.turn hTS (by simp) (aeR_ab (by simp)), HP.out.1.own.turn hTS (by simp) (qeR_ab (by simp)), by rw [List.length_append]; simp; omega, by omega, ?_, fun b' h1 h2 => ((HX.out.2.2.2.1 b' h1 h2).trans ((HP.out.1.turn.base h2).mono (by simp))).trans ((((Turn.refl b' [33] w1).set HP.out.2.2 (by simp) h1 3 _).set (HP.out.2.2.set_ 3 (.slice (some ⟨b, off + 2, none⟩) l.length (c - 1))) (by simp) h1 2 _).mono (by simp)), fun k cs hk hb => ((((HX.out.2.2.2.2.2.2.2 k cs hk hb).turn HP.out.2.1 (by simp)).far (p := ⟨g, 3, none⟩) hk _).far (p := ⟨g, 2, none⟩) hk _)⟩
            rw [HD.out.eqn, List.map_cons, deliv, if_pos (by exact HSQ.out), List.map_append]
            simp [Ae.am]
          clear hv' hV2 hkS hTS
          go_roundw
          case rel => exact ⟨_, _, _, _, HF⟩
          case measure =>
            obtain ⟨A9, c9, hv9, -, -⟩ := HF.out.own.vform
            rw [hv9]
            simp [lenOf]
            omega
end Go.Proofs.Ytanmndhdhlmjgaa
