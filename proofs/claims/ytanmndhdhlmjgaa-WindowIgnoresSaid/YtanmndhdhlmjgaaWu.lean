/- The walks of SamePayloads, SameBytes, SameExtents where both are equal. Conditions: small. -/
import Derived.Test.YtanmndhdhlmjgaaVf
import Derived.Test.YtanmndhdhlmjgaaLibN
import Derived.Deep.CutRange
namespace Go.Proofs.Ytanmndhdhlmjgaa
open Go.RowKit
/-- the string of bytes -/
def strB (l : List Nat) : ByteArray := strOfNums (l.map fun x : Nat => (x : Int))
theorem run_str (w : World) (n c : Nat) (A : Option Addr) (l : List Nat) (hR : Reads w w.heap.size 1 A n (u8s l)) : (convert 42 9 (.slice A n c)).run Try.prog w = .ok (.string (strB l)) w := by
  have hlen : l.length = n := by have := hR.1; rw [u8s_len] at this; omega
  rcases Nat.eq_zero_or_pos n with h0 | h0
  · subst h0
    have hl : l = [] := List.eq_nil_of_length_eq_zero hlen
    subst hl
    cases A with
    | none => exact run_convert_bytes_nil w 42 5 Try.underlying42 Try.underlying5 0 c 9 Try.underlying9
    | some a =>
      rw [run_convert_bytes_string w 42 9 5 _ 0 c Try.underlying42 Try.underlying5 Try.underlying9]
      exact run_bytesToString w a 0 c [] (run_loadCells_list (P := Try.prog) w a [] (fun j v hj => by simp at hj))
  · obtain ⟨b, off, rfl, _, hc⟩ := hR.plain h0 (by omega)
    refine run_convert_bytes_arg w 42 5 Try.underlying42 Try.underlying5 b off n c (l.map fun x : Nat => (x : Int)) (by simpa using hlen) (fun i hi => ?_) 9 Try.underlying9
    refine hc i _ ?_
    have hil : i < l.length := by omega
    simp [u8s, List.getD, hil]
set_option linter.unusedSimpArgs false in
set_option maxRecDepth 100000 in
set_option maxHeartbeats 1000000 in
theorem SamePayloads_true (l : List (List Nat)) (v v' : Value) (base base' : Nat) (w : World) (h : QsV w base l v) (h' : QsV w base' l v') (hm : l.length ≤ 100000) :
    Calls Try.prog 36 #[v, v'] w fun e w' => e = .returned (.bool true) ∧ Below w.heap.size w w' := by
  obtain ⟨es, hV, he⟩ := h
  obtain ⟨es', hV', he'⟩ := h'
  obtain ⟨m, hlen⟩ : ∃ m, l.length = m := ⟨_, rfl⟩
  have h1 : es.length = m := by rw [← hlen, ← he, List.length_map]
  have h2 : es'.length = m := by rw [← hlen, ← he', List.length_map]
  have HX := Lib.hid (And.intro hV (And.intro hV' (And.intro h1 (And.intro h2 (he.trans he'.symm)))))
  obtain ⟨A, c, rfl, -, -, -⟩ := hV.val
  obtain ⟨A', c', rfl, -, -, -⟩ := hV'.val
  rw [hlen] at hm
  rw [h1, h2]
  clear hV hV' h1 h2 he he' hlen
  go_enter Try.func36, Try.ntmps36
  go_wp2_with fail
  go_loopw [5] (fun i wr => ∃ k : Nat, k ≤ m ∧ i = .int .i64 k ∧ Below w.heap.size w wr) (fun i _ => m - (intOf i).toNat)
  case atStart => exact ⟨0, by omega, rfl, Below.refl _ _⟩
  case round =>
    obtain ⟨k, hk, rfl, hbw⟩ := hrel
    have HB := Lib.hid hbw
    clear hbw
    by_cases hlt : k < m
    · have hkl : k < es.length := by rw [HX.out.2.2.1]; exact hlt
      have hkl' : k < es'.length := by rw [HX.out.2.2.2.1]; exact hlt
      have hU := HX.out.1.up HB.out (qeR_ab (by simp))
      have hU' := HX.out.2.1.up HB.out (qeR_ab (by simp))
      obtain ⟨b1, o1, d1, hv1, _, _, _, hc1⟩ := hU.at_ (fun _ => rfl) (by omega) (by omega)
      obtain ⟨b2, o2, d2, hv2, _, _, _, hc2⟩ := hU'.at_ (fun _ => rfl) (by omega) (by omega)
      injection hv1 with hA hn hc
      subst hA hc
      clear hn
      injection hv2 with hA hn hc
      subst hA hc
      clear hn
      have xd1 : wr.cell? ⟨b1, o1 + k, none⟩ = some (.slice es[k].A es[k].p.length es[k].c) := by have h := hc1 k hkl 0 _ rfl; rw [Nat.mul_one] at h; exact h
      have xd2 : wr.cell? ⟨b2, o2 + k, none⟩ = some (.slice es'[k].A es'[k].p.length es'[k].c) := by have h := hc2 k hkl' 0 _ rfl; rw [Nat.mul_one] at h; exact h
      have hp1 : Byt wr base es[k].A es[k].p := hU.el es[k] (List.getElem_mem hkl)
      have hp2 : Byt wr base' es'[k].A es'[k].p := hU'.el es'[k] (List.getElem_mem hkl')
      have hem : es'[k].p = es[k].p := by
        have := congrArg (fun x => x[k]?) HX.out.2.2.2.2
        simpa [List.getElem?_eq_getElem hkl, List.getElem?_eq_getElem hkl'] using this.symm
      clear hc1 hc2 hU hU'
      generalize es[k] = x at *
      generalize es'[k] = y at *
      obtain ⟨xA, xc, xp⟩ := x
      obtain ⟨yA, yc, yp⟩ := y
      dsimp only at hem xd1 xd2 hp1 hp2
      subst hem
      clear hkl hkl'
      have i0 : (k : Int) < m := by omega
      have r1 := run_str wr.drew yp.length xc xA yp (hp1.up (Below.refl _ wr).drew).rd
      have r2 := run_str wr.drew yp.length yc yA yp (hp2.up (Below.refl _ wr).drew).rd
      have xe1 : wr.drew.cell? ⟨b1, o1 + k, none⟩ = some (.slice xA yp.length xc) := xd1
      have xe2 : wr.drew.cell? ⟨b2, o2 + k, none⟩ = some (.slice yA yp.length yc) := xd2
      have HPP := Lib.hid (And.intro hp1 hp2)
      clear hp1 hp2 xd1 xd2
      have klt : ((k : Int) < m) = True := eq_true i0
      go_upto_region 6 with fail
      refine wp_region_lexP [(0, 1), (1, 1), (5, 1), (6, 1), (2, 1), (7, 1), (3, 1), (8, 1), (4, 1), (9, 1), (10, 1)] [] (fun w9 => w9 = wr.drew) (by kernel_rfl) (by kernel_rfl) (by kernel_rfl) (by kernel_rfl) (by kernel_rfl) rfl ?_
      repeat ((first | (refine lexP_read rfl (by rfl) (by first | exact wanted_none rfl | exact wanted_some (b := true) (c := true) rfl rfl rfl | exact wanted_some (b := false) (c := false) rfl rfl rfl) (by intro w9 hS9; subst hS9; go_simp <;> with_reducible rfl) ?_) | (refine lexP_skip rfl (fun _ => trivial) (by first | exact wanted_some (b := true) (c := false) rfl rfl rfl | exact wanted_some (b := false) (c := true) rfl rfl rfl) ?_) | (refine lexP_builtin rfl (fun _ => trivial) (by first | exact wanted_none rfl | exact wanted_some (b := true) (c := true) rfl rfl rfl | exact wanted_some (b := false) (c := false) rfl rfl rfl) (by intro w9 hS9; subst hS9; go_simp <;> with_reducible rfl) ?_)); (try simp only [Act.put, List.getElem_toArray, List.getElem_cons_succ, List.getElem_cons_zero, List.setIfInBounds_toArray, List.set_cons_zero, List.set_cons_succ]))
      refine lexP_nil (panQ_normal ?_)
      go_wp2_with fail
      go_roundw
      case rel => exact ⟨k + 1, by omega, by go_num, HB.out.drew⟩
      case measure => simp [intOf]; omega
    · go_wp2_with fail
      go_ret
      exact ⟨rfl, HB.out⟩
set_option linter.unusedSimpArgs false in
set_option maxRecDepth 100000 in
set_option maxHeartbeats 1000000 in
theorem SameBytes_true (l : List Nat) (v v' : Value) (base base' : Nat) (w : World) (h : BsV w base l v) (h' : BsV w base' l v') (hm : l.length ≤ 100000) :
    Calls Try.prog 82 #[v, v'] w fun e w' => e = .returned (.bool true) ∧ Below w.heap.size w w' := by
  obtain ⟨A, c, rfl, hB⟩ := h
  obtain ⟨A', c', rfl, hB'⟩ := h'
  obtain ⟨m, hlen⟩ : ∃ m, l.length = m := ⟨_, rfl⟩
  unfold Byt at hB hB'
  rw [hlen] at hm hB hB' ⊢
  have HX := Lib.hid (And.intro hB (And.intro hB' hlen))
  clear hB hB' hlen
  go_enter Try.func82, Try.ntmps82
  go_wp2_with fail
  go_loopw [5] (fun i wr => ∃ k : Nat, k ≤ m ∧ i = .int .i64 k ∧ Below w.heap.size w wr) (fun i _ => m - (intOf i).toNat)
  case atStart => exact ⟨0, by omega, rfl, Below.refl _ _⟩
  case round =>
    obtain ⟨k, hk, rfl, hbw⟩ := hrel
    have HB := Lib.hid hbw
    clear hbw
    by_cases hlt : k < m
    · obtain ⟨b1, o1, rfl, _, hc1⟩ := (HX.out.1.up HB.out).rd.plain (by omega) (by omega)
      obtain ⟨b2, o2, rfl, _, hc2⟩ := (HX.out.2.1.up HB.out).rd.plain (by omega) (by omega)
      have hkl : k < l.length := by rw [HX.out.2.2]; exact hlt
      have xd1 : wr.cell? ⟨b1, o1 + k, none⟩ = some (.int .u8 (l[k] : Nat)) := hc1 k _ (by simp [u8s, hkl])
      have xd2 : wr.cell? ⟨b2, o2 + k, none⟩ = some (.int .u8 (l[k] : Nat)) := hc2 k _ (by simp [u8s, hkl])
      clear hc1 hc2
      generalize l[k] = x at *
      clear hkl
      have i0 : (k : Int) < m := by omega
      have klt : ((k : Int) < m) = True := eq_true i0
      go_upto_region 6 with fail
      refine wp_region_lexP [(0, 1), (1, 1), (4, 1), (5, 1), (2, 1), (6, 1), (3, 1), (7, 1), (8, 1)] [] (fun w9 => w9.cell? ⟨b1, o1 + k, none⟩ = some (.int .u8 (x : Nat)) ∧ w9.cell? ⟨b2, o2 + k, none⟩ = some (.int .u8 (x : Nat))) (by kernel_rfl) (by kernel_rfl) (by kernel_rfl) (by kernel_rfl) (by kernel_rfl) ⟨xd1, xd2⟩ ?_
      repeat ((first | (refine lexP_read rfl (by rfl) (by first | exact wanted_none rfl | exact wanted_some (b := true) (c := true) rfl rfl rfl | exact wanted_some (b := false) (c := false) rfl rfl rfl) (by intro w9 hS9; (try dsimp only at hS9); go_simp <;> with_reducible rfl) ?_) | (refine lexP_skip rfl (fun _ => trivial) (by first | exact wanted_some (b := true) (c := false) rfl rfl rfl | exact wanted_some (b := false) (c := true) rfl rfl rfl) ?_) | (refine lexP_builtin rfl (fun _ => trivial) (by first | exact wanted_none rfl | exact wanted_some (b := true) (c := true) rfl rfl rfl | exact wanted_some (b := false) (c := false) rfl rfl rfl) (by intro w9 hS9; (try dsimp only at hS9); go_simp <;> with_reducible rfl) ?_)); (try simp only [Act.put, List.getElem_toArray, List.getElem_cons_succ, List.getElem_cons_zero, List.setIfInBounds_toArray, List.set_cons_zero, List.set_cons_succ]))
      refine lexP_nil (panQ_normal ?_)
      go_wp2_with fail
      go_roundw
      case rel => exact ⟨k + 1, by omega, by go_num, HB.out.drew⟩
      case measure => simp [intOf]; omega
    · go_wp2_with fail
      go_ret
      exact ⟨rfl, HB.out⟩
theorem eq3 (d : Nat) (x z : Int) (w : World) : (Op.equalIn (d + 1) 3 (.int .i64 x) (.int .i64 z)).run Try.prog w = .ok (x == z) w := by
  simp [Op.equalIn, run_underlying Try.underlying3]
theorem part3 (cs : Array Value) (i : Nat) (v : Value) (w : World) (h : cs[i]? = some v) : (part 3 cs i).run Try.prog w = .ok v w := by
  simp [part, isAgg, run_underlying Try.underlying3, h]
theorem eql87 (p r p' r' : Int) (w : World) : (Op.equalIn (9998 + 1 + 1) 87 (.agg #[.int .i64 p, .int .i64 r]) (.agg #[.int .i64 p', .int .i64 r'])).run Try.prog w = .ok (p == p' && r == r') w := by
  rw [run_equalIn_struct (P := Try.prog) w (9998 + 1) 87 _ _ (by kernel_rfl) (by kernel_rfl)]
  have hf : ((Try.prog.fieldsOf 87).toList.map fun f => (f.type, f.offset, f.name == "_")) = [(3, 0, false), (3, 1, false)] := by kernel_rfl
  generalize (Try.prog.fieldsOf 87).toList = fs at hf
  rcases fs with _ | ⟨f, _ | ⟨g, _ | ⟨z, fs⟩⟩⟩
  · cases hf
  · simp at hf
  · simp only [List.map_cons, List.map_nil, List.cons.injEq, Prod.mk.injEq, and_true] at hf
    obtain ⟨⟨h1, h2, h5⟩, h3, h4, h6⟩ := hf
    have h5 := beq_eq_false_iff_ne.1 h5
    have h6 := beq_eq_false_iff_ne.1 h6
    simp [Op.eqFields, Sem.run_bind, h1, h2, h3, h4, h5, h6, part3, eq3]
    by_cases e0 : p = p' <;> by_cases e1 : r = r' <;> simp [e0, e1]
  · simp at hf
theorem neq87 (p r p' r' : Int) (w : World) : (binOp .neq 87 (.agg #[.int .i64 p, .int .i64 r]) (.agg #[.int .i64 p', .int .i64 r'])).run Try.prog w = .ok (.bool (!(p == p' && r == r'))) w := by
  simp only [binOp]
  simp [Op.equal, Op.maxDepth, eql87]
set_option linter.unusedSimpArgs false in
set_option maxRecDepth 100000 in
set_option maxHeartbeats 1000000 in
theorem SameExtents_true (l : List Xm) (v v' : Value) (base base' : Nat) (w : World) (h : XsV w base l v) (h' : XsV w base' l v') (hm : l.length ≤ 100000) :
    Calls Try.prog 81 #[v, v'] w fun e w' => e = .returned (.bool true) ∧ Below w.heap.size w w' := by
  obtain ⟨m, hlen⟩ : ∃ m, l.length = m := ⟨_, rfl⟩
  have HX := Lib.hid (And.intro h (And.intro h' hlen))
  obtain ⟨A, c, rfl, -, -⟩ := h.form
  obtain ⟨A', c', rfl, -, -⟩ := h'.form
  rw [hlen] at hm ⊢
  clear h h' hlen
  go_enter Try.func81, Try.ntmps81
  go_wp2_with fail
  go_loopw [5] (fun i wr => ∃ k : Nat, k ≤ m ∧ i = .int .i64 k ∧ Below w.heap.size w wr) (fun i _ => m - (intOf i).toNat)
  case atStart => exact ⟨0, by omega, rfl, Below.refl _ _⟩
  case round =>
    obtain ⟨k, hk, rfl, hbw⟩ := hrel
    have HB := Lib.hid hbw
    clear hbw
    by_cases hlt : k < m
    · have hkl : k < l.length := by rw [HX.out.2.2]; exact hlt
      obtain ⟨b1, o1, d1, hv1, _, _, _, hc1⟩ := Vec.at_ (HX.out.1.up HB.out) (fun _ => rfl) (by omega) (by omega)
      obtain ⟨b2, o2, d2, hv2, _, _, _, hc2⟩ := Vec.at_ (HX.out.2.1.up HB.out) (fun _ => rfl) (by omega) (by omega)
      injection hv1 with hA hn hc
      subst hA hc
      clear hn
      injection hv2 with hA hn hc
      subst hA hc
      clear hn
      have xd1 : wr.cell? ⟨b1, o1 + k * 2, none⟩ = some (.int .i64 l[k].s) := hc1 k hkl 0 _ rfl
      have xd2 : wr.cell? ⟨b1, o1 + k * 2 + 1, none⟩ = some (.int .i64 l[k].c) := hc1 k hkl 1 _ rfl
      have xd3 : wr.cell? ⟨b2, o2 + k * 2, none⟩ = some (.int .i64 l[k].s) := hc2 k hkl 0 _ rfl
      have xd4 : wr.cell? ⟨b2, o2 + k * 2 + 1, none⟩ = some (.int .i64 l[k].c) := hc2 k hkl 1 _ rfl
      clear hc1 hc2
      generalize l[k] = x at *
      clear hkl
      obtain ⟨xs, xc⟩ := x
      dsimp only at xd1 xd2 xd3 xd4
      have i0 : (k : Int) < m := by omega
      have klt : ((k : Int) < m) = True := eq_true i0
      have kn : ∀ W, (binOp .neq 87 (.agg #[.int .i64 xs, .int .i64 xc]) (.agg #[.int .i64 xs, .int .i64 xc])).run Try.prog W = .ok (.bool false) W := fun W => by rw [neq87]; simp
      go_upto_region 6 with fail
      refine wp_region_lexP [(0, 1), (1, 1), (4, 1), (5, 1), (2, 1), (6, 1), (3, 1), (7, 1), (8, 1)] [] (fun w9 => w9.cell? ⟨b1, o1 + k * 2, none⟩ = some (.int .i64 xs) ∧ w9.cell? ⟨b1, o1 + k * 2 + 1, none⟩ = some (.int .i64 xc) ∧ w9.cell? ⟨b2, o2 + k * 2, none⟩ = some (.int .i64 xs) ∧ w9.cell? ⟨b2, o2 + k * 2 + 1, none⟩ = some (.int .i64 xc)) (by kernel_rfl) (by kernel_rfl) (by kernel_rfl) (by kernel_rfl) (by kernel_rfl) ⟨xd1, xd2, xd3, xd4⟩ ?_
      repeat ((first | (refine lexP_read rfl (by rfl) (by first | exact wanted_none rfl | exact wanted_some (b := true) (c := true) rfl rfl rfl | exact wanted_some (b := false) (c := false) rfl rfl rfl) (by intro w9 hS9; (try dsimp only at hS9); go_simp <;> with_reducible rfl) ?_) | (refine lexP_skip rfl (fun _ => trivial) (by first | exact wanted_some (b := true) (c := false) rfl rfl rfl | exact wanted_some (b := false) (c := true) rfl rfl rfl) ?_) | (refine lexP_builtin rfl (fun _ => trivial) (by first | exact wanted_none rfl | exact wanted_some (b := true) (c := true) rfl rfl rfl | exact wanted_some (b := false) (c := false) rfl rfl rfl) (by intro w9 hS9; (try dsimp only at hS9); go_simp <;> with_reducible rfl) ?_)); (try simp only [Act.put, List.getElem_toArray, List.getElem_cons_succ, List.getElem_cons_zero, List.setIfInBounds_toArray, List.set_cons_zero, List.set_cons_succ]))
      refine lexP_nil (panQ_normal ?_)
      go_wp2_with fail
      go_roundw
      case rel => exact ⟨k + 1, by omega, by go_num, HB.out.drew⟩
      case measure => simp [intOf]; omega
    · go_wp2_with fail
      go_ret
      exact ⟨rfl, HB.out⟩
end Go.Proofs.Ytanmndhdhlmjgaa

/- The walks of Same (packets), SamePackets, SameReceiver where both are equal. Conditions: small. -/
namespace Go.Proofs.Ytanmndhdhlmjgaa
open Go.RowKit
set_option linter.unusedSimpArgs false in
set_option maxRecDepth 100000 in
set_option maxHeartbeats 1000000 in
theorem Same_true (p : Pm) (v v' : Value) (base base' : Nat) (w : World) (h : PkV w base p v) (h' : PkV w base' p v') (hs : SmallP p) :
    Calls Try.prog 57 #[v, v'] w fun e w' => e = .returned (.bool true) ∧ Below w.heap.size w w' := by
  obtain ⟨vs, vp, rfl, hX, Ap, cp, rfl, hB⟩ := h
  obtain ⟨vs', vp', rfl, hX', Ap', cp', rfl, hB'⟩ := h'
  have HX := Lib.hid (And.intro hX (And.intro hX' (And.intro hB (And.intro hB' hs))))
  obtain ⟨As, cs, rfl, -, -⟩ := hX.form
  obtain ⟨As', cs', rfl, -, -⟩ := hX'.form
  clear hX hX' hB hB' hs
  obtain ⟨ns, hns⟩ : ∃ n, p.sel.length = n := ⟨_, rfl⟩
  obtain ⟨np, hnp⟩ : ∃ n, p.p.length = n := ⟨_, rfl⟩
  unfold pkC
  rw [hns, hnp]
  rw [hns] at HX
  have HN := Lib.hid (And.intro hns hnp)
  clear hns hnp
  have hb0 : Below w.heap.size w ((w.alloc (.cells #[.int .i64 p.kind, .int .i64 p.ses, .int .i64 p.seq, .int .i64 p.ack, .int .i64 p.cred, .slice As ns cs, .slice Ap np cp] 55)).alloc (.cells #[.int .i64 p.kind, .int .i64 p.ses, .int .i64 p.seq, .int .i64 p.ack, .int .i64 p.cred, .slice As' ns cs', .slice Ap' np cp'] 55)) := ((Below.refl _ w).alloc (Nat.le_refl _) _).alloc (by simp) _
  have HB0 := Lib.hid hb0
  clear hb0
  go_enter Try.func57, Try.ntmps57
  go_wp2_with fail
  refine (SameExtents_true p.sel _ _ base base' ((w.alloc (.cells #[.int .i64 p.kind, .int .i64 p.ses, .int .i64 p.seq, .int .i64 p.ack, .int .i64 p.cred, .slice As ns cs, .slice Ap np cp] 55)).alloc (.cells #[.int .i64 p.kind, .int .i64 p.ses, .int .i64 p.seq, .int .i64 p.ack, .int .i64 p.cred, .slice As' ns cs', .slice Ap' np cp'] 55)) (HX.out.1.up HB0.out) (HX.out.2.1.up HB0.out) (Nat.le_trans HX.out.2.2.2.2.sel (by omega))).mono ?_
  rintro e w1 ⟨rfl, hb1⟩
  have HB1 := Lib.hid hb1
  have e1 := (Blk.new w 55 #[.int .i64 p.kind, .int .i64 p.ses, .int .i64 p.seq, .int .i64 p.ack, .int .i64 p.cred, .slice As ns cs, .slice Ap np cp]).alloc (.cells #[.int .i64 p.kind, .int .i64 p.ses, .int .i64 p.seq, .int .i64 p.ack, .int .i64 p.cred, .slice As' ns cs', .slice Ap' np cp'] 55)
  have e2 := Blk.new (w.alloc (.cells #[.int .i64 p.kind, .int .i64 p.ses, .int .i64 p.seq, .int .i64 p.ack, .int .i64 p.cred, .slice As ns cs, .slice Ap np cp] 55)) 55 #[.int .i64 p.kind, .int .i64 p.ses, .int .i64 p.seq, .int .i64 p.ack, .int .i64 p.cred, .slice As' ns cs', .slice Ap' np cp']
  rw [World.size_alloc] at e2
  have hk1 := e1.below hb1 e1.lt
  have hk2 := e2.below hb1 e2.lt
  have xc6 : w1.cell? ⟨w.heap.size, 6, none⟩ = some (.slice Ap np cp) := hk1.cell 6
  have xd6 : w1.cell? ⟨w.heap.size + 1, 6, none⟩ = some (.slice Ap' np cp') := hk2.cell 6
  have l1 := hk1.lt
  have l2 := hk2.lt
  clear hb1 hk1 hk2 e1 e2
  go_wp2_with fail
  have hb2 := HB0.out.trans (HB1.out.mono HB0.out.size)
  refine (SameBytes_true p.p _ _ base base' w1 ⟨Ap, cp, by rw [HN.out.2], HX.out.2.2.1.up hb2⟩ ⟨Ap', cp', by rw [HN.out.2], HX.out.2.2.2.1.up hb2⟩ HX.out.2.2.2.2.p).mono ?_
  rintro e w2 ⟨rfl, hb3⟩
  have HB3 := Lib.hid (hb2.trans (hb3.mono hb2.size))
  clear hb2 hb3
  go_wp2_with fail
  go_ret
  exact ⟨rfl, HB3.out⟩
set_option linter.unusedSimpArgs false in
set_option maxRecDepth 100000 in
set_option maxHeartbeats 1000000 in
theorem SamePackets_true (l : List Pm) (v v' : Value) (base base' : Nat) (w : World) (h : KsV w base l v) (h' : KsV w base' l v') (hm : l.length ≤ 100000) (hs : ∀ p ∈ l, SmallP p) :
    Calls Try.prog 27 #[v, v'] w fun e w' => e = .returned (.bool true) ∧ Below w.heap.size w w' := by
  obtain ⟨es, hV, he⟩ := h
  obtain ⟨es', hV', he'⟩ := h'
  obtain ⟨m, hlen⟩ : ∃ m, l.length = m := ⟨_, rfl⟩
  have h1 : es.length = m := by rw [← hlen, ← he, List.length_map]
  have h2 : es'.length = m := by rw [← hlen, ← he', List.length_map]
  have hss : ∀ e ∈ es, SmallP e.pm := fun e hE => hs _ (by rw [← he]; exact List.mem_map_of_mem hE)
  have HX := Lib.hid (And.intro hV (And.intro hV' (And.intro h1 (And.intro h2 (And.intro (he.trans he'.symm) hss)))))
  obtain ⟨A, c, rfl, -, -, -⟩ := hV.val
  obtain ⟨A', c', rfl, -, -, -⟩ := hV'.val
  rw [hlen] at hm
  rw [h1, h2]
  clear hV hV' h1 h2 he he' hlen hss hs
  go_enter Try.func27, Try.ntmps27
  go_wp2_with fail
  go_loopw [5] (fun i wr => ∃ k : Nat, k ≤ m ∧ i = .int .i64 k ∧ Below w.heap.size w wr) (fun i _ => m - (intOf i).toNat)
  case atStart => exact ⟨0, by omega, rfl, Below.refl _ _⟩
  case round =>
    obtain ⟨k, hk, rfl, hbw⟩ := hrel
    have HB := Lib.hid hbw
    clear hbw
    by_cases hlt : k < m
    · have hkl : k < es.length := by rw [HX.out.2.2.1]; exact hlt
      have hkl' : k < es'.length := by rw [HX.out.2.2.2.1]; exact hlt
      have hU := HX.out.1.up HB.out (keR_ab (by simp) (by simp))
      have hU' := HX.out.2.1.up HB.out (keR_ab (by simp) (by simp))
      obtain ⟨b1, o1, d1, hv1, _, _, lb1, hc1⟩ := hU.at_ (fun _ => rfl) (by omega) (by omega)
      obtain ⟨b2, o2, d2, hv2, _, _, lb2, hc2⟩ := hU'.at_ (fun _ => rfl) (by omega) (by omega)
      injection hv1 with hA hn hc
      subst hA hc
      clear hn
      injection hv2 with hA hn hc
      subst hA hc
      clear hn
      have hp1 : PkV wr base es[k].pm (.agg (encK es[k]).toArray) := ⟨_, _, rfl, (hU.el es[k] (List.getElem_mem hkl)).1, _, _, rfl, (hU.el es[k] (List.getElem_mem hkl)).2⟩
      have hp2 : PkV wr base' es'[k].pm (.agg (encK es'[k]).toArray) := ⟨_, _, rfl, (hU'.el es'[k] (List.getElem_mem hkl')).1, _, _, rfl, (hU'.el es'[k] (List.getElem_mem hkl')).2⟩
      have hem : es'[k].pm = es[k].pm := by
        have := congrArg (fun x => x[k]?) HX.out.2.2.2.2.1
        simpa [List.getElem?_eq_getElem hkl, List.getElem?_eq_getElem hkl'] using this.symm
      rw [hem] at hp2
      have hsm := HX.out.2.2.2.2.2 es[k] (List.getElem_mem hkl)
      have HPP := Lib.hid (And.intro hp1 (And.intro hp2 hsm))
      have xc0 : wr.cell? ⟨b1, o1 + k * 7, none⟩ = some (.int .i64 es[k].kind) := hc1 k hkl 0 _ rfl
      have xc1 : wr.cell? ⟨b1, o1 + k * 7 + 1, none⟩ = some (.int .i64 es[k].ses) := hc1 k hkl 1 _ rfl
      have xc2 : wr.cell? ⟨b1, o1 + k * 7 + 2, none⟩ = some (.int .i64 es[k].seq) := hc1 k hkl 2 _ rfl
      have xc3 : wr.cell? ⟨b1, o1 + k * 7 + 3, none⟩ = some (.int .i64 es[k].ack) := hc1 k hkl 3 _ rfl
      have xc4 : wr.cell? ⟨b1, o1 + k * 7 + 4, none⟩ = some (.int .i64 es[k].cred) := hc1 k hkl 4 _ rfl
      have xc5 : wr.cell? ⟨b1, o1 + k * 7 + 5, none⟩ = some (es[k].vs) := hc1 k hkl 5 _ rfl
      have xc6 : wr.cell? ⟨b1, o1 + k * 7 + 6, none⟩ = some (.slice es[k].A es[k].p.length es[k].c) := hc1 k hkl 6 _ rfl
      have xd0 : wr.cell? ⟨b2, o2 + k * 7, none⟩ = some (.int .i64 es'[k].kind) := hc2 k hkl' 0 _ rfl
      have xd1 : wr.cell? ⟨b2, o2 + k * 7 + 1, none⟩ = some (.int .i64 es'[k].ses) := hc2 k hkl' 1 _ rfl
      have xd2 : wr.cell? ⟨b2, o2 + k * 7 + 2, none⟩ = some (.int .i64 es'[k].seq) := hc2 k hkl' 2 _ rfl
      have xd3 : wr.cell? ⟨b2, o2 + k * 7 + 3, none⟩ = some (.int .i64 es'[k].ack) := hc2 k hkl' 3 _ rfl
      have xd4 : wr.cell? ⟨b2, o2 + k * 7 + 4, none⟩ = some (.int .i64 es'[k].cred) := hc2 k hkl' 4 _ rfl
      have xd5 : wr.cell? ⟨b2, o2 + k * 7 + 5, none⟩ = some (es'[k].vs) := hc2 k hkl' 5 _ rfl
      have xd6 : wr.cell? ⟨b2, o2 + k * 7 + 6, none⟩ = some (.slice es'[k].A es'[k].p.length es'[k].c) := hc2 k hkl' 6 _ rfl
      clear hc1 hc2 hU hU' hp1 hp2 hem hsm
      generalize es[k] = x at *
      generalize es'[k] = y at *
      clear hkl hkl'
      have i0 : (k : Int) < m := by omega
      have klt : ((k : Int) < m) = True := eq_true i0
      go_upto_region 6 with fail
      refine wp_region_lexP [(0, 1), (1, 1), (4, 1), (5, 1), (2, 1), (6, 1), (3, 1), (7, 1), (8, 0), (9, 1)] [] (fun w9 => w9.cell? ⟨b1, o1 + k * 7, none⟩ = some (.int .i64 x.kind) ∧ w9.cell? ⟨b1, o1 + k * 7 + 1, none⟩ = some (.int .i64 x.ses) ∧ w9.cell? ⟨b1, o1 + k * 7 + 2, none⟩ = some (.int .i64 x.seq) ∧ w9.cell? ⟨b1, o1 + k * 7 + 3, none⟩ = some (.int .i64 x.ack) ∧ w9.cell? ⟨b1, o1 + k * 7 + 4, none⟩ = some (.int .i64 x.cred) ∧ w9.cell? ⟨b1, o1 + k * 7 + 5, none⟩ = some (x.vs) ∧ w9.cell? ⟨b1, o1 + k * 7 + 6, none⟩ = some (.slice x.A x.p.length x.c) ∧ w9.cell? ⟨b2, o2 + k * 7, none⟩ = some (.int .i64 y.kind) ∧ w9.cell? ⟨b2, o2 + k * 7 + 1, none⟩ = some (.int .i64 y.ses) ∧ w9.cell? ⟨b2, o2 + k * 7 + 2, none⟩ = some (.int .i64 y.seq) ∧ w9.cell? ⟨b2, o2 + k * 7 + 3, none⟩ = some (.int .i64 y.ack) ∧ w9.cell? ⟨b2, o2 + k * 7 + 4, none⟩ = some (.int .i64 y.cred) ∧ w9.cell? ⟨b2, o2 + k * 7 + 5, none⟩ = some (y.vs) ∧ w9.cell? ⟨b2, o2 + k * 7 + 6, none⟩ = some (.slice y.A y.p.length y.c)) (by kernel_rfl) (by kernel_rfl) (by kernel_rfl) (by kernel_rfl) (by kernel_rfl) ⟨xc0, xc1, xc2, xc3, xc4, xc5, xc6, xd0, xd1, xd2, xd3, xd4, xd5, xd6⟩ ?_
      repeat ((first | (refine lexP_read rfl (by rfl) (by first | exact wanted_none rfl | exact wanted_some (b := true) (c := true) rfl rfl rfl | exact wanted_some (b := false) (c := false) rfl rfl rfl) (by intro w9 hS9; (try dsimp only at hS9); go_simp <;> with_reducible rfl) ?_) | (refine lexP_skip rfl (fun _ => trivial) (by first | exact wanted_some (b := true) (c := false) rfl rfl rfl | exact wanted_some (b := false) (c := true) rfl rfl rfl) ?_) | (refine lexP_builtin rfl (fun _ => trivial) (by first | exact wanted_none rfl | exact wanted_some (b := true) (c := true) rfl rfl rfl | exact wanted_some (b := false) (c := false) rfl rfl rfl) (by intro w9 hS9; (try dsimp only at hS9); go_simp <;> with_reducible rfl) ?_)); (try simp only [Act.put, List.getElem_toArray, List.getElem_cons_succ, List.getElem_cons_zero, List.setIfInBounds_toArray, List.set_cons_zero, List.set_cons_succ]))
      refine lexP_eff rfl (fun _ => trivial) ?_
      go_simp
      refine CallsIn.mono ((callsIn_wide (n := 0)).2 (Same_true x.pm _ _ base base' wr.drew (HPP.out.1.up (Below.refl _ wr).drew) (HPP.out.2.1.up (Below.refl _ wr).drew) HPP.out.2.2)) ?_
      rintro e w1 ⟨rfl, hb1⟩
      dsimp only
      have hb2 : Below wr.heap.size wr w1 := (Below.refl _ wr).drew.trans hb1
      refine ⟨⟨(hb2.cell (p := ⟨b1, o1 + k * 7, none⟩) lb1).trans xc0, (hb2.cell (p := ⟨b1, o1 + k * 7 + 1, none⟩) lb1).trans xc1, (hb2.cell (p := ⟨b1, o1 + k * 7 + 2, none⟩) lb1).trans xc2, (hb2.cell (p := ⟨b1, o1 + k * 7 + 3, none⟩) lb1).trans xc3, (hb2.cell (p := ⟨b1, o1 + k * 7 + 4, none⟩) lb1).trans xc4, (hb2.cell (p := ⟨b1, o1 + k * 7 + 5, none⟩) lb1).trans xc5, (hb2.cell (p := ⟨b1, o1 + k * 7 + 6, none⟩) lb1).trans xc6, (hb2.cell (p := ⟨b2, o2 + k * 7, none⟩) lb2).trans xd0, (hb2.cell (p := ⟨b2, o2 + k * 7 + 1, none⟩) lb2).trans xd1, (hb2.cell (p := ⟨b2, o2 + k * 7 + 2, none⟩) lb2).trans xd2, (hb2.cell (p := ⟨b2, o2 + k * 7 + 3, none⟩) lb2).trans xd3, (hb2.cell (p := ⟨b2, o2 + k * 7 + 4, none⟩) lb2).trans xd4, (hb2.cell (p := ⟨b2, o2 + k * 7 + 5, none⟩) lb2).trans xd5, (hb2.cell (p := ⟨b2, o2 + k * 7 + 6, none⟩) lb2).trans xd6⟩, ?_⟩
      (try simp only [Act.put, List.getElem_toArray, List.getElem_cons_succ, List.getElem_cons_zero, List.setIfInBounds_toArray, List.set_cons_zero, List.set_cons_succ])
      repeat ((first | (refine lexP_read rfl (by rfl) (by first | exact wanted_none rfl | exact wanted_some (b := true) (c := true) rfl rfl rfl | exact wanted_some (b := false) (c := false) rfl rfl rfl) (by intro w9 hS9; (try dsimp only at hS9); go_simp <;> with_reducible rfl) ?_) | (refine lexP_skip rfl (fun _ => trivial) (by first | exact wanted_some (b := true) (c := false) rfl rfl rfl | exact wanted_some (b := false) (c := true) rfl rfl rfl) ?_) | (refine lexP_builtin rfl (fun _ => trivial) (by first | exact wanted_none rfl | exact wanted_some (b := true) (c := true) rfl rfl rfl | exact wanted_some (b := false) (c := false) rfl rfl rfl) (by intro w9 hS9; (try dsimp only at hS9); go_simp <;> with_reducible rfl) ?_)); (try simp only [Act.put, List.getElem_toArray, List.getElem_cons_succ, List.getElem_cons_zero, List.setIfInBounds_toArray, List.set_cons_zero, List.set_cons_succ]))
      refine lexP_nil (panQ_normal ?_)
      have HB2 := Lib.hid (HB.out.trans (hb2.mono HB.out.size))
      clear hb1 hb2
      go_wp2_with fail
      go_roundw
      case rel => exact ⟨k + 1, by omega, by go_num, HB2.out⟩
      case measure => simp [intOf]; omega
    · go_wp2_with fail
      go_ret
      exact ⟨rfl, HB.out⟩
end Go.Proofs.Ytanmndhdhlmjgaa

/- The walk of SameReceiver where both are equal. Conditions: small. -/
namespace Go.Proofs.Ytanmndhdhlmjgaa
open Go.RowKit
set_option linter.unusedSimpArgs false in
set_option maxRecDepth 100000 in
set_option maxHeartbeats 1000000 in
theorem SameReceiver_true (r : Rm) (v v' : Value) (base base' : Nat) (w : World) (h : RcV w base r v) (h' : RcV w base' r v') (hs : SmallR r) :
    Calls Try.prog 16 #[v, v'] w fun e w' => e = .returned (.bool true) ∧ Below w.heap.size w w' := by
  obtain ⟨ve, rfl, es, hV, he⟩ := h
  obtain ⟨ve', rfl, es', hV', he'⟩ := h'
  obtain ⟨m, hlen⟩ : ∃ m, r.early.length = m := ⟨_, rfl⟩
  have h1 : es.length = m := by rw [← hlen, ← he, List.length_map]
  have h2 : es'.length = m := by rw [← hlen, ← he', List.length_map]
  have HX := Lib.hid (And.intro hV (And.intro hV' (And.intro h1 (And.intro h2 (he.trans he'.symm)))))
  obtain ⟨A, c, rfl, -, -, -⟩ := hV.val
  obtain ⟨A', c', rfl, -, -, -⟩ := hV'.val
  have hm := hs.early
  rw [hlen] at hm
  rw [h1, h2]
  clear hV hV' h1 h2 he he' hlen hs
  unfold rcC
  have HW : Hid (Blk ((w.alloc (.cells #[.int .i64 r.ses, .int .i64 r.lim, .int .i64 r.next, .slice A m c] 33)).alloc (.cells #[.int .i64 r.ses, .int .i64 r.lim, .int .i64 r.next, .slice A' m c'] 33)) w.heap.size 33 #[.int .i64 r.ses, .int .i64 r.lim, .int .i64 r.next, .slice A m c] ∧ Blk ((w.alloc (.cells #[.int .i64 r.ses, .int .i64 r.lim, .int .i64 r.next, .slice A m c] 33)).alloc (.cells #[.int .i64 r.ses, .int .i64 r.lim, .int .i64 r.next, .slice A' m c'] 33)) (w.heap.size + 1) 33 #[.int .i64 r.ses, .int .i64 r.lim, .int .i64 r.next, .slice A' m c'] ∧ Below w.heap.size w ((w.alloc (.cells #[.int .i64 r.ses, .int .i64 r.lim, .int .i64 r.next, .slice A m c] 33)).alloc (.cells #[.int .i64 r.ses, .int .i64 r.lim, .int .i64 r.next, .slice A' m c'] 33))) := by
    have e1 := (Blk.new w 33 #[.int .i64 r.ses, .int .i64 r.lim, .int .i64 r.next, .slice A m c]).alloc (.cells #[.int .i64 r.ses, .int .i64 r.lim, .int .i64 r.next, .slice A' m c'] 33)
    have e2 := Blk.new (w.alloc (.cells #[.int .i64 r.ses, .int .i64 r.lim, .int .i64 r.next, .slice A m c] 33)) 33 #[.int .i64 r.ses, .int .i64 r.lim, .int .i64 r.next, .slice A' m c']
    rw [World.size_alloc] at e2
    exact ⟨e1, e2, ((Below.refl _ w).alloc (Nat.le_refl _) _).alloc (by simp) _⟩
  go_enter Try.func16, Try.ntmps16
  go_wp2_with fail
  generalize ((w.alloc (.cells #[.int .i64 r.ses, .int .i64 r.lim, .int .i64 r.next, .slice A m c] 33)).alloc (.cells #[.int .i64 r.ses, .int .i64 r.lim, .int .i64 r.next, .slice A' m c'] 33)) = W at *
  go_loopw [5] (fun i wr => ∃ k : Nat, k ≤ m ∧ i = .int .i64 k ∧ Below W.heap.size W wr) (fun i _ => m - (intOf i).toNat)
  case atStart => exact ⟨0, by omega, rfl, Below.refl _ _⟩
  case round =>
    obtain ⟨k, hk, rfl, hbw⟩ := hrel
    have e1 := HW.out.1.below hbw HW.out.1.lt
    have e2 := HW.out.2.1.below hbw HW.out.2.1.lt
    have HB := Lib.hid (And.intro hbw (HW.out.2.2.trans (hbw.mono HW.out.2.2.size)))
    clear hbw
    have xr3 : wr.cell? ⟨w.heap.size, 3, none⟩ = some (.slice A m c) := e1.cell 3
    have xs3 : wr.cell? ⟨w.heap.size + 1, 3, none⟩ = some (.slice A' m c') := e2.cell 3
    have l1 := e1.lt
    have l2 := e2.lt
    clear e1 e2
    by_cases hlt : k < m
    · have hkl : k < es.length := by rw [HX.out.2.2.1]; exact hlt
      have hkl' : k < es'.length := by rw [HX.out.2.2.2.1]; exact hlt
      have hU := HX.out.1.up HB.out.2 (aeR_ab (by simp))
      have hU' := HX.out.2.1.up HB.out.2 (aeR_ab (by simp))
      obtain ⟨b1, o1, d1, hv1, _, _, lb1, hc1⟩ := hU.at_ (fun _ => rfl) (by omega) (by omega)
      obtain ⟨b2, o2, d2, hv2, _, _, lb2, hc2⟩ := hU'.at_ (fun _ => rfl) (by omega) (by omega)
      injection hv1 with hA hn hc
      subst hA hc
      clear hn
      injection hv2 with hA hn hc
      subst hA hc
      clear hn
      have xc0 : wr.drew.cell? ⟨b1, o1 + k * 2, none⟩ = some (.int .i64 es[k].seq) := hc1 k hkl 0 _ rfl
      have xc1 : wr.drew.cell? ⟨b1, o1 + k * 2 + 1, none⟩ = some (.slice es[k].A es[k].p.length es[k].c) := hc1 k hkl 1 _ rfl
      have xd0 : wr.drew.cell? ⟨b2, o2 + k * 2, none⟩ = some (.int .i64 es'[k].seq) := hc2 k hkl' 0 _ rfl
      have xd1 : wr.drew.cell? ⟨b2, o2 + k * 2 + 1, none⟩ = some (.slice es'[k].A es'[k].p.length es'[k].c) := hc2 k hkl' 1 _ rfl
      have hp1 : Byt wr base es[k].A es[k].p := hU.el es[k] (List.getElem_mem hkl)
      have hp2 : Byt wr base' es'[k].A es'[k].p := hU'.el es'[k] (List.getElem_mem hkl')
      have hem : es'[k].am = es[k].am := by
        have := congrArg (fun x => x[k]?) HX.out.2.2.2.2
        simpa [List.getElem?_eq_getElem hkl, List.getElem?_eq_getElem hkl'] using this.symm
      clear hc1 hc2 hU hU'
      generalize es[k] = x at *
      generalize es'[k] = y at *
      clear hkl hkl'
      obtain ⟨xq, xA, xc, xp⟩ := x
      obtain ⟨yq, yA, yc, yp⟩ := y
      unfold Ae.am at hem
      injection hem with hem1 hem2
      dsimp only at hem1 hem2 xc0 xc1 xd0 xd1 hp1 hp2
      subst hem1 hem2
      have i0 : (k : Int) < m := by omega
      have klt : ((k : Int) < m) = True := eq_true i0
      have r1 := run_str wr.drew yp.length xc xA yp (hp1.up (Below.refl _ wr).drew).rd
      have r2 := run_str wr.drew yp.length yc yA yp (hp2.up (Below.refl _ wr).drew).rd
      have xe3 : wr.drew.cell? ⟨w.heap.size, 3, none⟩ = some (.slice (some ⟨b1, o1, none⟩) m c) := xr3
      have xf3 : wr.drew.cell? ⟨w.heap.size + 1, 3, none⟩ = some (.slice (some ⟨b2, o2, none⟩) m c') := xs3
      clear hp1 hp2
      go_upto_region 6 with fail
      refine wp_region_lexP [(0, 1), (2, 1), (6, 1), (8, 1), (1, 1), (7, 1), (3, 1), (9, 1), (4, 1), (10, 1), (5, 1), (11, 1), (12, 1), (13, 1), (14, 1), (16, 1), (21, 1), (23, 1), (15, 1), (22, 1), (17, 1), (24, 1), (18, 1), (25, 1), (19, 1), (26, 1), (20, 1), (27, 1), (28, 1), (29, 1)] [] (fun w9 => w9 = wr.drew) (by kernel_rfl) (by kernel_rfl) (by kernel_rfl) (by kernel_rfl) (by kernel_rfl) rfl ?_
      repeat ((first | (refine lexP_read rfl (by rfl) (by first | exact wanted_none rfl | exact wanted_some (b := true) (c := true) rfl rfl rfl | exact wanted_some (b := false) (c := false) rfl rfl rfl) (by intro w9 hS9; subst hS9; go_simp <;> with_reducible rfl) ?_) | (refine lexP_skip rfl (fun _ => trivial) (by first | exact wanted_some (b := true) (c := false) rfl rfl rfl | exact wanted_some (b := false) (c := true) rfl rfl rfl) ?_) | (refine lexP_builtin rfl (fun _ => trivial) (by first | exact wanted_none rfl | exact wanted_some (b := true) (c := true) rfl rfl rfl | exact wanted_some (b := false) (c := false) rfl rfl rfl) (by intro w9 hS9; subst hS9; go_simp <;> with_reducible rfl) ?_)); (try simp only [Act.put, List.getElem_toArray, List.getElem_cons_succ, List.getElem_cons_zero, List.setIfInBounds_toArray, List.set_cons_zero, List.set_cons_succ]))
      refine lexP_nil (panQ_normal ?_)
      go_wp2_with fail
      go_roundw
      case rel => exact ⟨k + 1, by omega, by go_num, HB.out.1.drew⟩
      case measure => simp [intOf]; omega
    · go_wp2_with fail
      go_ret
      exact ⟨rfl, HB.out.2⟩
end Go.Proofs.Ytanmndhdhlmjgaa

/- The walk of SameSender where both are equal. Conditions: small. -/
namespace Go.Proofs.Ytanmndhdhlmjgaa
open Go.RowKit
set_option linter.unusedSimpArgs false in
set_option maxRecDepth 100000 in
set_option maxHeartbeats 2000000 in
theorem SameSender_true (s : Sm) (v v' : Value) (base base' : Nat) (w : World) (h : SnV w base s v) (h' : SnV w base' s v') (hs : Small s) :
    Calls Try.prog 15 #[v, v'] w fun e w' => e = .returned (.bool true) ∧ Below w.heap.size w w' := by
  obtain ⟨vo, vq, rfl, ⟨es, hV, he⟩, hQ⟩ := h
  obtain ⟨vo', vq', rfl, ⟨es', hV', he'⟩, hQ'⟩ := h'
  obtain ⟨m, hlen⟩ : ∃ m, s.out.length = m := ⟨_, rfl⟩
  obtain ⟨nq, hnq⟩ : ∃ m, s.q.length = m := ⟨_, rfl⟩
  have h1 : es.length = m := by rw [← hlen, ← he, List.length_map]
  have h2 : es'.length = m := by rw [← hlen, ← he', List.length_map]
  have HX := Lib.hid (And.intro hV (And.intro hV' (And.intro h1 (And.intro h2 (he.trans he'.symm)))))
  have HQ := Lib.hid (And.intro hQ (And.intro hQ' hs))
  obtain ⟨A, c, rfl, -, -, -⟩ := hV.val
  obtain ⟨A', c', rfl, -, -, -⟩ := hV'.val
  obtain ⟨Aq, cq, rfl, -, -⟩ := hQ.form
  obtain ⟨Aq', cq', rfl, -, -⟩ := hQ'.form
  have hm := hs.out
  rw [hlen] at hm
  rw [hnq] at HQ
  rw [h1, h2, hnq]
  clear hV hV' h1 h2 he he' hlen hs hQ hQ' hnq
  unfold snC
  have HW : Hid (Blk ((w.alloc (.cells #[.int .i64 s.ses, .int .i64 s.lim, .int .i64 s.tmo, .int .i64 s.base, .int .i64 s.next, .int .i64 s.cred, .slice A m c, .slice Aq nq cq] 25)).alloc (.cells #[.int .i64 s.ses, .int .i64 s.lim, .int .i64 s.tmo, .int .i64 s.base, .int .i64 s.next, .int .i64 s.cred, .slice A' m c', .slice Aq' nq cq'] 25)) w.heap.size 25 #[.int .i64 s.ses, .int .i64 s.lim, .int .i64 s.tmo, .int .i64 s.base, .int .i64 s.next, .int .i64 s.cred, .slice A m c, .slice Aq nq cq] ∧ Blk ((w.alloc (.cells #[.int .i64 s.ses, .int .i64 s.lim, .int .i64 s.tmo, .int .i64 s.base, .int .i64 s.next, .int .i64 s.cred, .slice A m c, .slice Aq nq cq] 25)).alloc (.cells #[.int .i64 s.ses, .int .i64 s.lim, .int .i64 s.tmo, .int .i64 s.base, .int .i64 s.next, .int .i64 s.cred, .slice A' m c', .slice Aq' nq cq'] 25)) (w.heap.size + 1) 25 #[.int .i64 s.ses, .int .i64 s.lim, .int .i64 s.tmo, .int .i64 s.base, .int .i64 s.next, .int .i64 s.cred, .slice A' m c', .slice Aq' nq cq'] ∧ Below w.heap.size w ((w.alloc (.cells #[.int .i64 s.ses, .int .i64 s.lim, .int .i64 s.tmo, .int .i64 s.base, .int .i64 s.next, .int .i64 s.cred, .slice A m c, .slice Aq nq cq] 25)).alloc (.cells #[.int .i64 s.ses, .int .i64 s.lim, .int .i64 s.tmo, .int .i64 s.base, .int .i64 s.next, .int .i64 s.cred, .slice A' m c', .slice Aq' nq cq'] 25))) := by
    have e1 := (Blk.new w 25 #[.int .i64 s.ses, .int .i64 s.lim, .int .i64 s.tmo, .int .i64 s.base, .int .i64 s.next, .int .i64 s.cred, .slice A m c, .slice Aq nq cq]).alloc (.cells #[.int .i64 s.ses, .int .i64 s.lim, .int .i64 s.tmo, .int .i64 s.base, .int .i64 s.next, .int .i64 s.cred, .slice A' m c', .slice Aq' nq cq'] 25)
    have e2 := Blk.new (w.alloc (.cells #[.int .i64 s.ses, .int .i64 s.lim, .int .i64 s.tmo, .int .i64 s.base, .int .i64 s.next, .int .i64 s.cred, .slice A m c, .slice Aq nq cq] 25)) 25 #[.int .i64 s.ses, .int .i64 s.lim, .int .i64 s.tmo, .int .i64 s.base, .int .i64 s.next, .int .i64 s.cred, .slice A' m c', .slice Aq' nq cq']
    rw [World.size_alloc] at e2
    exact ⟨e1, e2, ((Below.refl _ w).alloc (Nat.le_refl _) _).alloc (by simp) _⟩
  go_enter Try.func15, Try.ntmps15
  go_wp2_with fail
  generalize ((w.alloc (.cells #[.int .i64 s.ses, .int .i64 s.lim, .int .i64 s.tmo, .int .i64 s.base, .int .i64 s.next, .int .i64 s.cred, .slice A m c, .slice Aq nq cq] 25)).alloc (.cells #[.int .i64 s.ses, .int .i64 s.lim, .int .i64 s.tmo, .int .i64 s.base, .int .i64 s.next, .int .i64 s.cred, .slice A' m c', .slice Aq' nq cq'] 25)) = W0' at *
  refine (SamePayloads_true s.q _ _ base base' W0' (HQ.out.1.up HW.out.2.2) (HQ.out.2.1.up HW.out.2.2) (Nat.le_trans HQ.out.2.2.q (by omega))).mono ?_
  rintro e W ⟨rfl, hb1⟩
  have HW1 : Hid (Blk W w.heap.size 25 #[.int .i64 s.ses, .int .i64 s.lim, .int .i64 s.tmo, .int .i64 s.base, .int .i64 s.next, .int .i64 s.cred, .slice A m c, .slice Aq nq cq] ∧ Blk W (w.heap.size + 1) 25 #[.int .i64 s.ses, .int .i64 s.lim, .int .i64 s.tmo, .int .i64 s.base, .int .i64 s.next, .int .i64 s.cred, .slice A' m c', .slice Aq' nq cq'] ∧ Below w.heap.size w W) := ⟨HW.out.1.below hb1 HW.out.1.lt, HW.out.2.1.below hb1 HW.out.2.1.lt, HW.out.2.2.trans (hb1.mono HW.out.2.2.size)⟩
  have ya6 : W.cell? ⟨w.heap.size, 6, none⟩ = some (.slice A m c) := HW1.out.1.cell 6
  have yb6 : W.cell? ⟨w.heap.size + 1, 6, none⟩ = some (.slice A' m c') := HW1.out.2.1.cell 6
  have lW1 := HW1.out.1.lt
  have lW2 := HW1.out.2.1.lt
  clear hb1 HW
  go_wp2_with fail
  clear ya6 yb6 lW1 lW2
  go_loopw [5] (fun i wr => ∃ k : Nat, k ≤ m ∧ i = .int .i64 k ∧ Below W.heap.size W wr) (fun i _ => m - (intOf i).toNat)
  case atStart => exact ⟨0, by omega, rfl, Below.refl _ _⟩
  case round =>
    obtain ⟨k, hk, rfl, hbw⟩ := hrel
    have e1 := HW1.out.1.below hbw HW1.out.1.lt
    have e2 := HW1.out.2.1.below hbw HW1.out.2.1.lt
    have HB := Lib.hid (And.intro hbw (HW1.out.2.2.trans (hbw.mono HW1.out.2.2.size)))
    clear hbw
    have xr6 : wr.cell? ⟨w.heap.size, 6, none⟩ = some (.slice A m c) := e1.cell 6
    have xs6 : wr.cell? ⟨w.heap.size + 1, 6, none⟩ = some (.slice A' m c') := e2.cell 6
    have l1 := e1.lt
    have l2 := e2.lt
    clear e1 e2
    by_cases hlt : k < m
    · have hkl : k < es.length := by rw [HX.out.2.2.1]; exact hlt
      have hkl' : k < es'.length := by rw [HX.out.2.2.2.1]; exact hlt
      have hU := HX.out.1.up HB.out.2 (oeR_ab (by simp))
      have hU' := HX.out.2.1.up HB.out.2 (oeR_ab (by simp))
      obtain ⟨b1, o1, d1, hv1, _, _, lb1, hc1⟩ := hU.at_ (fun _ => rfl) (by omega) (by omega)
      obtain ⟨b2, o2, d2, hv2, _, _, lb2, hc2⟩ := hU'.at_ (fun _ => rfl) (by omega) (by omega)
      injection hv1 with hA hn hc
      subst hA hc
      clear hn
      injection hv2 with hA hn hc
      subst hA hc
      clear hn
      have xc0 : wr.cell? ⟨b1, o1 + k * 5, none⟩ = some (.int .i64 es[k].seq) := hc1 k hkl 0 _ rfl
      have xc1 : wr.cell? ⟨b1, o1 + k * 5 + 1, none⟩ = some (.int .i64 es[k].time) := hc1 k hkl 1 _ rfl
      have xc2 : wr.cell? ⟨b1, o1 + k * 5 + 2, none⟩ = some (.int .i64 es[k].cnt) := hc1 k hkl 2 _ rfl
      have xc3 : wr.cell? ⟨b1, o1 + k * 5 + 3, none⟩ = some (.bool es[k].ak) := hc1 k hkl 3 _ rfl
      have xc4 : wr.cell? ⟨b1, o1 + k * 5 + 4, none⟩ = some (.slice es[k].A es[k].p.length es[k].c) := hc1 k hkl 4 _ rfl
      have xd0 : wr.cell? ⟨b2, o2 + k * 5, none⟩ = some (.int .i64 es'[k].seq) := hc2 k hkl' 0 _ rfl
      have xd1 : wr.cell? ⟨b2, o2 + k * 5 + 1, none⟩ = some (.int .i64 es'[k].time) := hc2 k hkl' 1 _ rfl
      have xd2 : wr.cell? ⟨b2, o2 + k * 5 + 2, none⟩ = some (.int .i64 es'[k].cnt) := hc2 k hkl' 2 _ rfl
      have xd3 : wr.cell? ⟨b2, o2 + k * 5 + 3, none⟩ = some (.bool es'[k].ak) := hc2 k hkl' 3 _ rfl
      have xd4 : wr.cell? ⟨b2, o2 + k * 5 + 4, none⟩ = some (.slice es'[k].A es'[k].p.length es'[k].c) := hc2 k hkl' 4 _ rfl
      have hp1 : Byt wr base es[k].A es[k].p := hU.el es[k] (List.getElem_mem hkl)
      have hp2 : Byt wr base' es'[k].A es'[k].p := hU'.el es'[k] (List.getElem_mem hkl')
      have hem : es'[k].om = es[k].om := by
        have := congrArg (fun x => x[k]?) HX.out.2.2.2.2
        simpa [List.getElem?_eq_getElem hkl, List.getElem?_eq_getElem hkl'] using this.symm
      clear hc1 hc2 hU hU'
      generalize es[k] = x at *
      generalize es'[k] = y at *
      clear hkl hkl'
      obtain ⟨xq, xt, xn, xa, xA, xc, xp⟩ := x
      obtain ⟨yq, yt, yn, ya, yA, yc, yp⟩ := y
      unfold Oe.om at hem
      injection hem with hem1 hem2 hem3 hem4 hem5
      dsimp only at hem1 hem2 hem3 hem4 hem5 xc0 xc1 xc2 xc3 xc4 xd0 xd1 xd2 xd3 xd4 hp1 hp2
      subst hem1 hem2 hem3 hem4 hem5
      have i0 : (k : Int) < m := by omega
      have klt : ((k : Int) < m) = True := eq_true i0
      have HPP := Lib.hid (And.intro hp1 hp2)
      clear hp1 hp2
      go_upto_region 8 with fail
      refine wp_region_lexV (.op 0 1 (.op 2 1 (.op 5 1 (.op 7 1 (.op 1 1 (.op 6 1 (.op 3 1 (.op 8 1 (.op 4 1 (.op 9 1 (.two 10 11 (.op 11 0 (.op 12 0 (.op 13 0 .nil))) (.op 10 0 (.op 12 0 (.op 13 0 .nil)))))))))))))) [13] (fun w9 => w9.cell? ⟨w.heap.size, 6, none⟩ = some (.slice (some ⟨b1, o1, none⟩) m c) ∧ w9.cell? ⟨w.heap.size + 1, 6, none⟩ = some (.slice (some ⟨b2, o2, none⟩) m c') ∧ w9.cell? ⟨b1, o1 + k * 5, none⟩ = some (.int .i64 yq) ∧ w9.cell? ⟨b1, o1 + k * 5 + 1, none⟩ = some (.int .i64 yt) ∧ w9.cell? ⟨b1, o1 + k * 5 + 2, none⟩ = some (.int .i64 yn) ∧ w9.cell? ⟨b1, o1 + k * 5 + 3, none⟩ = some (.bool ya) ∧ w9.cell? ⟨b1, o1 + k * 5 + 4, none⟩ = some (.slice xA yp.length xc) ∧ w9.cell? ⟨b2, o2 + k * 5, none⟩ = some (.int .i64 yq) ∧ w9.cell? ⟨b2, o2 + k * 5 + 1, none⟩ = some (.int .i64 yt) ∧ w9.cell? ⟨b2, o2 + k * 5 + 2, none⟩ = some (.int .i64 yn) ∧ w9.cell? ⟨b2, o2 + k * 5 + 3, none⟩ = some (.bool ya) ∧ w9.cell? ⟨b2, o2 + k * 5 + 4, none⟩ = some (.slice yA yp.length yc)) (by kernel_rfl) (by kernel_rfl) (by kernel_rfl) (by kernel_rfl) (by kernel_rfl) ⟨xr6, xs6, xc0, xc1, xc2, xc3, xc4, xd0, xd1, xd2, xd3, xd4⟩ ?_
      repeat ((first | (refine lexV_read rfl (by rfl) (by first | exact wanted_none rfl | exact wanted_some (b := true) (c := true) rfl rfl rfl | exact wanted_some (b := false) (c := false) rfl rfl rfl) (by intro w9 hS9; (try dsimp only at hS9); go_simp <;> with_reducible rfl) ?_) | (refine lexV_skip rfl (fun _ => trivial) (by first | exact wanted_some (b := true) (c := false) rfl rfl rfl | exact wanted_some (b := false) (c := true) rfl rfl rfl) ?_) | (refine lexV_builtin rfl (fun _ => trivial) (by first | exact wanted_none rfl | exact wanted_some (b := true) (c := true) rfl rfl rfl | exact wanted_some (b := false) (c := false) rfl rfl rfl) (by intro w9 hS9; (try dsimp only at hS9); go_simp <;> with_reducible rfl) ?_)); (try simp only [Act.put, List.getElem_toArray, List.getElem_cons_succ, List.getElem_cons_zero, List.setIfInBounds_toArray, List.set_cons_zero, List.set_cons_succ]))
      refine lexV_two ?_ ?_
      · skip
        refine lexV_eff rfl (fun _ => trivial) ?_
        go_simp
        (try simp only [Act.put, List.getElem_toArray, List.getElem_cons_succ, List.getElem_cons_zero, List.setIfInBounds_toArray, List.set_cons_zero, List.set_cons_succ])
        refine lexV_eff rfl (fun _ => trivial) ?_
        go_simp
        (try simp only [Act.put, List.getElem_toArray, List.getElem_cons_succ, List.getElem_cons_zero, List.setIfInBounds_toArray, List.set_cons_zero, List.set_cons_succ])
        refine lexV_eff rfl (fun _ => trivial) ?_
        go_simp
        (try simp only [Act.put, List.getElem_toArray, List.getElem_cons_succ, List.getElem_cons_zero, List.setIfInBounds_toArray, List.set_cons_zero, List.set_cons_succ])
        refine lexV_eff rfl (fun _ => trivial) ?_
        go_simp
        (try simp only [Act.put, List.getElem_toArray, List.getElem_cons_succ, List.getElem_cons_zero, List.setIfInBounds_toArray, List.set_cons_zero, List.set_cons_succ])
        refine lexV_nil (panQ_normal ?_)
        have e1 := ((Blk.new wr 82 #[.int .i64 yq, .int .i64 yt, .int .i64 yn, .bool ya, .slice xA yp.length xc]).alloc (.cells #[.int .i64 yq, .int .i64 yt, .int .i64 yn, .bool ya, .slice yA yp.length yc] 82)).drew
        have e2 := (Blk.new (wr.alloc (.cells #[.int .i64 yq, .int .i64 yt, .int .i64 yn, .bool ya, .slice xA yp.length xc] 82)) 82 #[.int .i64 yq, .int .i64 yt, .int .i64 yn, .bool ya, .slice yA yp.length yc]).drew
        rw [World.size_alloc] at e2
        have hbW : Below wr.heap.size wr ((wr.alloc (.cells #[.int .i64 yq, .int .i64 yt, .int .i64 yn, .bool ya, .slice xA yp.length xc] 82)).alloc (.cells #[.int .i64 yq, .int .i64 yt, .int .i64 yn, .bool ya, .slice yA yp.length yc] 82)).drew := (((Below.refl _ wr).alloc (Nat.le_refl _) _).alloc (by simp) _).drew
        generalize ((wr.alloc (.cells #[.int .i64 yq, .int .i64 yt, .int .i64 yn, .bool ya, .slice xA yp.length xc] 82)).alloc (.cells #[.int .i64 yq, .int .i64 yt, .int .i64 yn, .bool ya, .slice yA yp.length yc] 82)).drew = V at *
        have zc0 : V.cell? ⟨wr.heap.size, 0, none⟩ = some (.int .i64 yq) := e1.cell 0
        have zc1 : V.cell? ⟨wr.heap.size, 1, none⟩ = some (.int .i64 yt) := e1.cell 1
        have zc2 : V.cell? ⟨wr.heap.size, 2, none⟩ = some (.int .i64 yn) := e1.cell 2
        have zc3 : V.cell? ⟨wr.heap.size, 3, none⟩ = some (.bool ya) := e1.cell 3
        have zc4 : V.cell? ⟨wr.heap.size, 4, none⟩ = some (.slice xA yp.length xc) := e1.cell 4
        have zd0 : V.cell? ⟨wr.heap.size + 1, 0, none⟩ = some (.int .i64 yq) := e2.cell 0
        have zd1 : V.cell? ⟨wr.heap.size + 1, 1, none⟩ = some (.int .i64 yt) := e2.cell 1
        have zd2 : V.cell? ⟨wr.heap.size + 1, 2, none⟩ = some (.int .i64 yn) := e2.cell 2
        have zd3 : V.cell? ⟨wr.heap.size + 1, 3, none⟩ = some (.bool ya) := e2.cell 3
        have zd4 : V.cell? ⟨wr.heap.size + 1, 4, none⟩ = some (.slice yA yp.length yc) := e2.cell 4
        have r1 := run_str V yp.length xc xA yp (HPP.out.1.up hbW).rd
        have r2 := run_str V yp.length yc yA yp (HPP.out.2.up hbW).rd
        have HBV := Lib.hid (And.intro (HB.out.1.trans (hbW.mono HB.out.1.size)) hbW)
        have m1 := e1.lt
        have m2 := e2.lt
        clear e1 e2 hbW
        go_wp2_with fail
        go_roundw
        case rel => exact ⟨k + 1, by omega, by go_num, HBV.out.1⟩
        case measure => simp [intOf]; omega
      · skip
        refine lexV_eff rfl (fun _ => trivial) ?_
        go_simp
        (try simp only [Act.put, List.getElem_toArray, List.getElem_cons_succ, List.getElem_cons_zero, List.setIfInBounds_toArray, List.set_cons_zero, List.set_cons_succ])
        refine lexV_eff rfl (fun _ => trivial) ?_
        go_simp
        (try simp only [Act.put, List.getElem_toArray, List.getElem_cons_succ, List.getElem_cons_zero, List.setIfInBounds_toArray, List.set_cons_zero, List.set_cons_succ])
        refine lexV_eff rfl (fun _ => trivial) ?_
        go_simp
        (try simp only [Act.put, List.getElem_toArray, List.getElem_cons_succ, List.getElem_cons_zero, List.setIfInBounds_toArray, List.set_cons_zero, List.set_cons_succ])
        refine lexV_eff rfl (fun _ => trivial) ?_
        go_simp
        (try simp only [Act.put, List.getElem_toArray, List.getElem_cons_succ, List.getElem_cons_zero, List.setIfInBounds_toArray, List.set_cons_zero, List.set_cons_succ])
        refine lexV_nil (panQ_normal ?_)
        have e1 := ((Blk.new wr 82 #[.int .i64 yq, .int .i64 yt, .int .i64 yn, .bool ya, .slice yA yp.length yc]).alloc (.cells #[.int .i64 yq, .int .i64 yt, .int .i64 yn, .bool ya, .slice xA yp.length xc] 82)).drew
        have e2 := (Blk.new (wr.alloc (.cells #[.int .i64 yq, .int .i64 yt, .int .i64 yn, .bool ya, .slice yA yp.length yc] 82)) 82 #[.int .i64 yq, .int .i64 yt, .int .i64 yn, .bool ya, .slice xA yp.length xc]).drew
        rw [World.size_alloc] at e2
        have hbW : Below wr.heap.size wr ((wr.alloc (.cells #[.int .i64 yq, .int .i64 yt, .int .i64 yn, .bool ya, .slice yA yp.length yc] 82)).alloc (.cells #[.int .i64 yq, .int .i64 yt, .int .i64 yn, .bool ya, .slice xA yp.length xc] 82)).drew := (((Below.refl _ wr).alloc (Nat.le_refl _) _).alloc (by simp) _).drew
        generalize ((wr.alloc (.cells #[.int .i64 yq, .int .i64 yt, .int .i64 yn, .bool ya, .slice yA yp.length yc] 82)).alloc (.cells #[.int .i64 yq, .int .i64 yt, .int .i64 yn, .bool ya, .slice xA yp.length xc] 82)).drew = V at *
        have zc0 : V.cell? ⟨wr.heap.size, 0, none⟩ = some (.int .i64 yq) := e1.cell 0
        have zc1 : V.cell? ⟨wr.heap.size, 1, none⟩ = some (.int .i64 yt) := e1.cell 1
        have zc2 : V.cell? ⟨wr.heap.size, 2, none⟩ = some (.int .i64 yn) := e1.cell 2
        have zc3 : V.cell? ⟨wr.heap.size, 3, none⟩ = some (.bool ya) := e1.cell 3
        have zc4 : V.cell? ⟨wr.heap.size, 4, none⟩ = some (.slice yA yp.length yc) := e1.cell 4
        have zd0 : V.cell? ⟨wr.heap.size + 1, 0, none⟩ = some (.int .i64 yq) := e2.cell 0
        have zd1 : V.cell? ⟨wr.heap.size + 1, 1, none⟩ = some (.int .i64 yt) := e2.cell 1
        have zd2 : V.cell? ⟨wr.heap.size + 1, 2, none⟩ = some (.int .i64 yn) := e2.cell 2
        have zd3 : V.cell? ⟨wr.heap.size + 1, 3, none⟩ = some (.bool ya) := e2.cell 3
        have zd4 : V.cell? ⟨wr.heap.size + 1, 4, none⟩ = some (.slice xA yp.length xc) := e2.cell 4
        have r1 := run_str V yp.length xc xA yp (HPP.out.1.up hbW).rd
        have r2 := run_str V yp.length yc yA yp (HPP.out.2.up hbW).rd
        have HBV := Lib.hid (And.intro (HB.out.1.trans (hbW.mono HB.out.1.size)) hbW)
        have m1 := e1.lt
        have m2 := e2.lt
        clear e1 e2 hbW
        go_wp2_with fail
        go_roundw
        case rel => exact ⟨k + 1, by omega, by go_num, HBV.out.1⟩
        case measure => simp [intOf]; omega
    · go_wp2_with fail
      go_ret
      exact ⟨rfl, HB.out.2⟩
end Go.Proofs.Ytanmndhdhlmjgaa
