/- The walk of answer. Conditions: small. -/
import Derived.Test.YtanmndhdhlmjgaaWo
namespace Go.Proofs.Ytanmndhdhlmjgaa
open Go.RowKit
/-- extents whose ends are small -/
def BdS (l : List Xm) : Prop := ∀ x ∈ l, 0 ≤ x.s ∧ 1 ≤ x.c ∧ x.s + x.c ≤ 2147483649
theorem addX_bd {l : List Xm} {n : Int} (h : BdS l) (hn : 0 ≤ n ∧ n ≤ 2147483648) : BdS (addX l n) := by
  unfold addX
  split
  · rename_i x hx
    split
    · intro y hy
      rcases List.mem_append.1 hy with hy | hy
      · exact h y (List.dropLast_subset l hy)
      · rw [List.mem_singleton] at hy
        subst hy
        have := h x (List.mem_of_getLast? hx)
        dsimp only
        omega
    · intro y hy
      rcases List.mem_append.1 hy with hy | hy
      · exact h y hy
      · rw [List.mem_singleton] at hy
        subst hy
        dsimp only
        omega
  · intro y hy
    rw [List.mem_singleton] at hy
    subst hy
    dsimp only
    omega
theorem addX_nil (n : Int) : addX [] n = [⟨n, 1⟩] := rfl
theorem addX_snoc (l : List Xm) (x : Xm) (n : Int) : addX (l ++ [x]) n = if x.s + x.c = n then l ++ [⟨x.s, x.c + 1⟩] else l ++ [x] ++ [⟨n, 1⟩] := by
  unfold addX
  simp
theorem selA_take {l : List Am} {k : Nat} (hk : k < l.length) : selA (l.take (k + 1)) = addX (selA (l.take k)) l[k].seq := by
  unfold selA
  rw [List.take_succ_eq_append_getElem hk, List.foldl_append]
  rfl
theorem nil_or_snoc {α : Type} (l : List α) : l = [] ∨ ∃ L b, l = L ++ [b] := by
  rcases List.eq_nil_or_concat l with h | ⟨L, b, h⟩
  · exact .inl h
  · exact .inr ⟨L, b, by rw [h, List.concat_eq_append]⟩
theorem addX_len (l : List Xm) (n : Int) : (addX l n).length ≤ l.length + 1 := by
  unfold addX
  split
  · split <;> simp <;> omega
  · simp
theorem selA_len (l : List Am) : (selA l).length ≤ l.length := by
  unfold selA
  suffices h : ∀ (l : List Am) (x : List Xm), (l.foldl (fun x a => addX x a.seq) x).length ≤ x.length + l.length by simpa using h l []
  intro l
  induction l with
  | nil => intro x; simp
  | cons a l ih =>
    intro x
    rw [List.foldl_cons]
    have h1 := ih (addX x a.seq)
    have h2 := addX_len x a.seq
    rw [List.length_cons]
    omega
/-- the loop's state -/
structure AnS (w : World) (base : Nat) (r : Rm) (k : Nat) (vx : Value) (xs : List Xm) (W : World) : Prop where
  out : Blk W (w.heap.size + 1) 55 #[.int .i64 0, .int .i64 0, .int .i64 0, .int .i64 0, .int .i64 0, .slice none 0 0, .slice none 0 0]
  pk : Blk W (w.heap.size + 1 + 1) 55 (pkC (answP r) vx (.slice none 0 0))
  own : Own1 encX XeR 87 2 W base w.heap.size vx xs
  eqn : xs = selA (r.early.take k)
  bd : BdS xs
  bel : Below w.heap.size w W
set_option maxRecDepth 100000 in
set_option maxHeartbeats 4000000 in
set_option linter.unusedSimpArgs false in
theorem answer_any (r : Rm) (v : Value) (base : Nat) (w : World) (hv : RcV w base r v) (hn : r.early.length ≤ 10000) (hb : ∀ a ∈ r.early, 0 ≤ a.seq ∧ a.seq ≤ 2147483648) (hbw : base ≤ w.heap.size) :
    Calls Try.prog 70 #[v] w fun e w' => (∃ pv, e = .returned pv ∧ PkV w' base (answP r) pv) ∧ Below w.heap.size w w' := by
  obtain ⟨ve, rfl, es, hE, he⟩ := hv
  obtain ⟨Ae0, ce, rfl, hlc, hcm, -⟩ := hE.val
  obtain ⟨no, hno⟩ : ∃ n, es.length = n := ⟨_, rfl⟩
  have hm2 : no = r.early.length := by rw [← hno, ← he, List.length_map]
  have hm3 : no ≤ 10000 := by omega
  have HE := Lib.hid (And.intro hE (And.intro he (And.intro hno (And.intro hm2 hb))))
  unfold rcC
  rw [hno] at hlc ⊢
  clear hE he hno hm2 hb hn
  go_enter Try.func70, Try.ntmps70
  go_wp2_with fail
  have HA : Hid (AnS w base r 0 (.slice none 0 0) [] (((w.alloc (.cells #[.int .i64 r.ses, .int .i64 r.lim, .int .i64 r.next, .slice Ae0 no ce] 33)).alloc (.cells #[.int .i64 0, .int .i64 0, .int .i64 0, .int .i64 0, .int .i64 0, .slice none 0 0, .slice none 0 0] 55)).alloc (.cells #[.int .i64 1, .int .i64 r.ses, .int .i64 0, .int .i64 r.next, .int .i64 r.lim, .slice none 0 0, .slice none 0 0] 55))) := by
    have h1 := (Blk.new (w.alloc (.cells #[.int .i64 r.ses, .int .i64 r.lim, .int .i64 r.next, .slice Ae0 no ce] 33)) 55 #[.int .i64 0, .int .i64 0, .int .i64 0, .int .i64 0, .int .i64 0, .slice none 0 0, .slice none 0 0]).alloc (.cells #[.int .i64 1, .int .i64 r.ses, .int .i64 0, .int .i64 r.next, .int .i64 r.lim, .slice none 0 0, .slice none 0 0] 55)
    have h2 := Blk.new ((w.alloc (.cells #[.int .i64 r.ses, .int .i64 r.lim, .int .i64 r.next, .slice Ae0 no ce] 33)).alloc (.cells #[.int .i64 0, .int .i64 0, .int .i64 0, .int .i64 0, .int .i64 0, .slice none 0 0, .slice none 0 0] 55)) 55 #[.int .i64 1, .int .i64 r.ses, .int .i64 0, .int .i64 r.next, .int .i64 r.lim, .slice none 0 0, .slice none 0 0]
    rw [World.size_alloc] at h1 h2
    rw [World.size_alloc] at h2
    exact ⟨h1, h2, Own1.nil, by simp [selA], nofun, (((Below.refl _ w).alloc (Nat.le_refl _) _).alloc (by simp) _).alloc (by simp; omega) _⟩
  generalize (((w.alloc (.cells #[.int .i64 r.ses, .int .i64 r.lim, .int .i64 r.next, .slice Ae0 no ce] 33)).alloc (.cells #[.int .i64 0, .int .i64 0, .int .i64 0, .int .i64 0, .int .i64 0, .slice none 0 0, .slice none 0 0] 55)).alloc (.cells #[.int .i64 1, .int .i64 r.ses, .int .i64 0, .int .i64 r.next, .int .i64 r.lim, .slice none 0 0, .slice none 0 0] 55)) = W0 at *
  go_loopw [17] (fun u17 wr => ∃ k vx xs, k ≤ no ∧ u17 = .int .i64 (k : Nat) ∧ Hid (AnS w base r k vx xs wr)) (fun u17 _ => no - (intOf u17).toNat)
  case atStart => exact ⟨0, _, _, by omega, rfl, HA⟩
  case round =>
    obtain ⟨k, vx, xs, hk, rfl, HS⟩ := hrel
    clear HA
    by_cases hlt : k < no
    · have ik : (k : Int) < no := by omega
      have hkl : k < es.length := by rw [HE.out.2.2.1]; exact hlt
      have hkr : k < r.early.length := by rw [← HE.out.2.2.2.1]; exact hlt
      have hVw := HE.out.1.up HS.out.bel (aeR_ab (by simp))
      obtain ⟨b, off, c2, hv2, _, _, hblt, hc⟩ := hVw.at_ (fun _ => rfl) (by omega) (by omega)
      injection hv2 with hA hn2 hc2
      subst hA hc2
      clear hn2
      have xd0 : wr.cell? ⟨b, off + k * 2, none⟩ = some (.int .i64 es[k].seq) := hc k hkl 0 _ rfl
      have xd1 : wr.cell? ⟨b, off + k * 2 + 1, none⟩ = some (.slice es[k].A es[k].p.length es[k].c) := hc k hkl 1 _ rfl
      have hsq0 : es[k].am = r.early[k] := by simp [← HE.out.2.1]
      have hsqb := HE.out.2.2.2.2 r.early[k] (List.getElem_mem hkr)
      have hst := selA_take hkr
      rw [← hsq0] at hsqb hst
      change 0 ≤ es[k].seq ∧ es[k].seq ≤ 2147483648 at hsqb
      change selA (r.early.take (k + 1)) = addX (selA (r.early.take k)) es[k].seq at hst
      rw [← HS.out.eqn] at hst
      have hbd := addX_bd HS.out.bd hsqb
      have HT := Lib.hid (And.intro hst hbd)
      clear hc hVw hsq0 hst hbd hkr
      generalize es[k] = x at *
      clear hkl
      obtain ⟨sq, pA, pc, p⟩ := x
      dsimp only at xd0 xd1 hsqb HT
      obtain ⟨pl, hpl⟩ : ∃ n, p.length = n := ⟨_, rfl⟩
      rw [hpl] at xd1
      clear hpl
      have hbA : Below wr.heap.size wr (wr.alloc (.cells #[.int .i64 sq, .slice pA pl pc] 84)) := (Below.refl _ wr).alloc (Nat.le_refl _) _
      have hS1 : AnS w base r k vx xs (wr.alloc (.cells #[.int .i64 sq, .slice pA pl pc] 84)) := ⟨HS.out.out.below hbA HS.out.out.lt, HS.out.pk.below hbA HS.out.pk.lt, HS.out.own.up hbA xeR_ab, HS.out.eqn, HS.out.bd, HS.out.bel.trans (hbA.mono HS.out.bel.size)⟩
      have HS1 := Lib.hid (And.intro hS1 (Blk.new wr 84 #[.int .i64 sq, .slice pA pl pc]))
      clear hbA hS1
      obtain ⟨Ax, cx, rfl, hx1, hx2⟩ := HS1.out.1.own.vform
      have xp5 : wr.cell? ⟨w.heap.size + 1 + 1, 5, none⟩ = some (.slice Ax xs.length cx) := HS.out.pk.cell 5
      have lP := HS.out.pk.lt
      clear HS
      have hP0 := hx2
      rcases nil_or_snoc xs with rfl | ⟨ys, y, rfl⟩
      · rw [addX_nil] at HT
        have xp5' : (wr.alloc (.cells #[.int .i64 sq, .slice pA pl pc] 84)).cell? ⟨w.heap.size + 1 + 1, 5, none⟩ = some (.slice Ax 0 cx) := HS1.out.1.pk.cell 5
        have xe0 : (wr.alloc (.cells #[.int .i64 sq, .slice pA pl pc] 84)).cell? ⟨wr.heap.size, 0, none⟩ = some (.int .i64 sq) := HS1.out.2.cell 0
        go_upto_region 6 with fail
        refine wp_region_lexP [(0, 1), (1, 1), (2, 1), (3, 1), (5, 1), (10, 1), (12, 1), (18, 1), (4, 1), (6, 1), (11, 1), (13, 1), (19, 1), (7, 1), (14, 1), (8, 1), (15, 1), (9, 1), (16, 1), (17, 1), (20, 1), (21, 1)] [] (fun w9 => w9.cell? ⟨w.heap.size + 1 + 1, 5, none⟩ = some (.slice Ax 0 cx) ∧ w9.cell? ⟨wr.heap.size, 0, none⟩ = some (.int .i64 sq)) (by kernel_rfl) (by kernel_rfl) (by kernel_rfl) (by kernel_rfl) (by kernel_rfl) ⟨xp5', xe0⟩ ?_
        repeat ((first | (refine lexP_read rfl (by rfl) (by first | exact wanted_none rfl | exact wanted_some (b := true) (c := true) rfl rfl rfl | exact wanted_some (b := false) (c := false) rfl rfl rfl) (by intro w9 hS9; (try dsimp only at hS9); go_simp <;> with_reducible rfl) ?_) | (refine lexP_skip rfl (fun _ => trivial) (by first | exact wanted_some (b := true) (c := false) rfl rfl rfl | exact wanted_some (b := false) (c := true) rfl rfl rfl) ?_) | (refine lexP_builtin rfl (fun _ => trivial) (by first | exact wanted_none rfl | exact wanted_some (b := true) (c := true) rfl rfl rfl | exact wanted_some (b := false) (c := false) rfl rfl rfl) (by intro w9 hS9; (try dsimp only at hS9); go_simp <;> with_reducible rfl) ?_)); (try simp only [Act.put, List.getElem_toArray, List.getElem_cons_succ, List.getElem_cons_zero, List.setIfInBounds_toArray, List.set_cons_zero, List.set_cons_succ]))
        refine lexP_nil (panQ_normal ?_)
        clear xp5' xe0
        have hbD : Below (wr.alloc (.cells #[.int .i64 sq, .slice pA pl pc] 84)).heap.size (wr.alloc (.cells #[.int .i64 sq, .slice pA pl pc] 84)) (wr.alloc (.cells #[.int .i64 sq, .slice pA pl pc] 84)).drew := (Below.refl _ _).drew
        have hS2 : AnS w base r k (.slice Ax 0 cx) (([] : List Xm)) (wr.alloc (.cells #[.int .i64 sq, .slice pA pl pc] 84)).drew := ⟨HS1.out.1.out.drew, HS1.out.1.pk.drew, HS1.out.1.own.up hbD xeR_ab, HS1.out.1.eqn, HS1.out.1.bd, HS1.out.1.bel.drew⟩
        have HS2 := Lib.hid (And.intro hS2 HS1.out.2.drew)
        have yp5 : (wr.alloc (.cells #[.int .i64 sq, .slice pA pl pc] 84)).drew.cell? ⟨w.heap.size + 1 + 1, 5, none⟩ = some (.slice Ax 0 cx) := hS2.pk.cell 5
        have ye0 : (wr.alloc (.cells #[.int .i64 sq, .slice pA pl pc] 84)).drew.cell? ⟨wr.heap.size, 0, none⟩ = some (.int .i64 sq) := HS2.out.2.cell 0
        have lP2 := hS2.pk.lt
        have lE2 := HS2.out.2.lt
        clear hS2 hbD xd0 xd1 xp5 lP HS1
        generalize (wr.alloc (.cells #[.int .i64 sq, .slice pA pl pc] 84)).drew = V at *
        have hbb : Below V.heap.size V (V.alloc (.cells #[.int .i64 sq, .int .i64 1] 87)) := (Below.refl _ V).alloc (Nat.le_refl _) _
        have hO := HS2.out.1.own.up hbb xeR_ab
        have hPk := HS2.out.1.pk.below hbb lP2
        have hOut := HS2.out.1.out.below hbb HS2.out.1.out.lt
        have hBl := HS2.out.1.bel.trans (hbb.mono HS2.out.1.bel.size)
        have HX := Lib.hid (And.intro hO (And.intro hPk (And.intro hOut (And.intro hBl (Blk.new V 87 #[.int .i64 sq, .int .i64 1])))))
        have hln : (([] : List Xm) : List Xm).length ≤ 10000 := by have h5 := HS2.out.1.eqn; rw [h5]; exact Nat.le_trans (selA_len _) (by rw [List.length_take]; omega)
        clear hbb hO hPk hOut hBl
        go_wp2_with (at_builtin; refine wpList_push (E := encX) (R := XeR) (t := 87) (sz := 2) (base := base) (low := w.heap.size) (l := ([] : List Xm)) (b := ⟨sq, 1⟩) rfl (.tmp 57) (.tmp 61) 53 rfl (.agg #[.int .i64 0, .int .i64 0]) 16 Try.underlying53 info87 rfl (by omega) (encX_one _) rfl rfl HX.out.1 hbw xeR_ab trivial rfl HX.out.2.2.2.2 (by omega) (by omega) HX.out.2.2.2.1.size ?_; intro v1 w1 hp1; obtain ⟨A1, c1, rfl, _, _⟩ := hp1.own.vform; have hT1 := hp1.turn.base hbw; have hB1 := HX.out.2.1.turn hT1 (by simp); have f5 : w1.cell? ⟨w.heap.size + 1 + 1, 5, none⟩ = some (.slice Ax 0 cx) := hB1.cell 5; have y5 := hB1.frozen 5; have l1 := hB1.lt; have HP := Lib.hid (And.intro hp1 (And.intro hT1 hB1)); clear hp1 hT1 hB1; generalize (([] : List Xm) ++ [(⟨sq, 1⟩ : Xm)]).length = n1 at *)
        have hkS : Blk (w1.setCell ⟨w.heap.size + 1 + 1, 5, none⟩ (.slice A1 n1 c1)) (w.heap.size + 1 + 1) 55 (pkC (answP r) (.slice A1 n1 c1) (.slice none 0 0)) := HP.out.2.2.set_ 5 _
        have hTS : Turn base [55] w1 (w1.setCell ⟨w.heap.size + 1 + 1, 5, none⟩ (.slice A1 n1 c1)) := (Turn.refl base [55] w1).set HP.out.2.2 (by simp) (by omega) 5 _
        have hTw : Turn w.heap.size [87] (V.alloc (.cells #[.int .i64 sq, .int .i64 1] 87)) w1 := HP.out.1.turn
        have hbF : Below w.heap.size w (w1.setCell ⟨w.heap.size + 1 + 1, 5, none⟩ (.slice A1 n1 c1)) := (Turn.belowT HX.out.2.2.2.1 hTw (Nat.le_refl _) HX.out.2.2.2.1.size).setCell (p := ⟨w.heap.size + 1 + 1, 5, none⟩) (by dsimp only; omega) _
        have hoF : Blk (w1.setCell ⟨w.heap.size + 1 + 1, 5, none⟩ (.slice A1 n1 c1)) (w.heap.size + 1) 55 #[.int .i64 0, .int .i64 0, .int .i64 0, .int .i64 0, .int .i64 0, .slice none 0 0, .slice none 0 0] := (HX.out.2.2.1.turn HP.out.2.1 (by simp)).far (p := ⟨w.heap.size + 1 + 1, 5, none⟩) (by dsimp only; omega) _
        have HF : Hid (AnS w base r (k + 1) (.slice A1 n1 c1) (([] : List Xm) ++ [⟨sq, 1⟩]) (w1.setCell ⟨w.heap.size + 1 + 1, 5, none⟩ (.slice A1 n1 c1))) := ⟨hoF, hkS, HP.out.1.own.turn hTS (by simp) xeR_ab, HT.out.1.symm, HT.out.2, hbF⟩
        clear hkS hTS hTw hbF hoF
        go_roundw
        case rel => exact ⟨k + 1, _, _, by omega, by go_num, HF⟩
        case measure => simp [intOf]; omega
      · have hget : ∀ h, (ys ++ [y])[ys.length]'h = y := by simp
        have hset : ∀ b, (ys ++ [y]).set ys.length b = ys ++ [b] := by simp
        have hm : (ys ++ [y]).length = ys.length + 1 := by simp
        obtain ⟨gx, cX, cur, hvx, hgx, hblkx, _, _, hcx⟩ := HS1.out.1.own.form encX_len (by simp)
        injection hvx with hA hnn hcc
        subst hA hcc
        clear hnn
        obtain ⟨xs0, -⟩ := hcx ys.length (by simp) 0 (.int .i64 y.s) (by rw [hget]; rfl)
        obtain ⟨xs1, xz1⟩ := hcx ys.length (by simp) 1 (.int .i64 y.c) (by rw [hget]; rfl)
        rw [Nat.add_zero] at xs0
        have lx := hblkx.lt
        have hy := HS1.out.1.bd y (by simp)
        clear hcx hblkx
        rw [hm] at HS1 xp5 hx1
        rw [addX_snoc] at HT
        have hmb : ys.length + 1 ≤ 10000 := by rw [← hm]; have h5 := HS1.out.1.eqn; rw [h5]; exact Nat.le_trans (selA_len _) (by rw [List.length_take]; omega)
        have HM := Lib.hid (And.intro hm (And.intro hget hset))
        clear hm hget hset
        obtain ⟨m, hmm⟩ : ∃ m, ys.length = m := ⟨_, rfl⟩
        rw [hmm] at HS1 xp5 hx1 hmb HM xs0 xs1 xz1
        clear hmm
        obtain ⟨ys_, yc⟩ := y
        dsimp only at xs0 xs1 hy HT
        have kw : IntKind.i64.wrap (ys_ + yc) = ys_ + yc := by rw [IntWalk.i64_in _ (by omega)]
        have kwm : IntKind.i64.wrap (m : Int) = (m : Int) := by rw [IntWalk.i64_in _ (by omega)]
        have klt : ((m : Int) < (m : Int) + 1) = True := eq_true (by omega)
        have kwm2 : IntKind.i64.wrap ((m : Int) + 1 - 1) = (m : Int) := by rw [IntWalk.i64_in _ (by omega)]; omega
        by_cases hsum : ys_ + yc = sq
        · rw [if_pos hsum] at HT
          have kd : (ys_ + yc == sq) = true := beq_iff_eq.2 hsum
          have HSM := Lib.hid hsum
          clear hsum
          have xp5' : (wr.alloc (.cells #[.int .i64 sq, .slice pA pl pc] 84)).cell? ⟨w.heap.size + 1 + 1, 5, none⟩ = some (.slice (some ⟨gx, 0, none⟩) (m + 1) cx) := HS1.out.1.pk.cell 5
          have xe0 : (wr.alloc (.cells #[.int .i64 sq, .slice pA pl pc] 84)).cell? ⟨wr.heap.size, 0, none⟩ = some (.int .i64 sq) := HS1.out.2.cell 0
          go_upto_region 6 with fail
          refine wp_region_lexP [(0, 1), (1, 1), (2, 1), (3, 1), (5, 1), (10, 1), (12, 1), (18, 1), (4, 1), (6, 1), (11, 1), (13, 1), (19, 1), (7, 1), (14, 1), (8, 1), (15, 1), (9, 1), (16, 1), (17, 1), (20, 1), (21, 1)] [] (fun w9 => w9.cell? ⟨w.heap.size + 1 + 1, 5, none⟩ = some (.slice (some ⟨gx, 0, none⟩) (m + 1) cx) ∧ w9.cell? ⟨wr.heap.size, 0, none⟩ = some (.int .i64 sq) ∧ w9.cell? ⟨gx, m * 2, none⟩ = some (.int .i64 ys_) ∧ w9.cell? ⟨gx, m * 2 + 1, none⟩ = some (.int .i64 yc)) (by kernel_rfl) (by kernel_rfl) (by kernel_rfl) (by kernel_rfl) (by kernel_rfl) ⟨xp5', xe0, xs0, xs1⟩ ?_
          repeat ((first | (refine lexP_read rfl (by rfl) (by first | exact wanted_none rfl | exact wanted_some (b := true) (c := true) rfl rfl rfl | exact wanted_some (b := false) (c := false) rfl rfl rfl) (by intro w9 hS9; (try dsimp only at hS9); go_simp <;> with_reducible rfl) ?_) | (refine lexP_skip rfl (fun _ => trivial) (by first | exact wanted_some (b := true) (c := false) rfl rfl rfl | exact wanted_some (b := false) (c := true) rfl rfl rfl) ?_) | (refine lexP_builtin rfl (fun _ => trivial) (by first | exact wanted_none rfl | exact wanted_some (b := true) (c := true) rfl rfl rfl | exact wanted_some (b := false) (c := false) rfl rfl rfl) (by intro w9 hS9; (try dsimp only at hS9); go_simp <;> with_reducible rfl) ?_)); (try simp only [Act.put, List.getElem_toArray, List.getElem_cons_succ, List.getElem_cons_zero, List.setIfInBounds_toArray, List.set_cons_zero, List.set_cons_succ]))
          refine lexP_nil (panQ_normal ?_)
          clear xp5' xe0
          have hbD : Below (wr.alloc (.cells #[.int .i64 sq, .slice pA pl pc] 84)).heap.size (wr.alloc (.cells #[.int .i64 sq, .slice pA pl pc] 84)) (wr.alloc (.cells #[.int .i64 sq, .slice pA pl pc] 84)).drew := (Below.refl _ _).drew
          have hS2 : AnS w base r k (.slice (some ⟨gx, 0, none⟩) (m + 1) cx) (ys ++ [⟨ys_, yc⟩]) (wr.alloc (.cells #[.int .i64 sq, .slice pA pl pc] 84)).drew := ⟨HS1.out.1.out.drew, HS1.out.1.pk.drew, HS1.out.1.own.up hbD xeR_ab, HS1.out.1.eqn, HS1.out.1.bd, HS1.out.1.bel.drew⟩
          have HS2 := Lib.hid hS2
          have yp5 : (wr.alloc (.cells #[.int .i64 sq, .slice pA pl pc] 84)).drew.cell? ⟨w.heap.size + 1 + 1, 5, none⟩ = some (.slice (some ⟨gx, 0, none⟩) (m + 1) cx) := hS2.pk.cell 5
          have ys1 : (wr.alloc (.cells #[.int .i64 sq, .slice pA pl pc] 84)).drew.cell? ⟨gx, m * 2 + 1, none⟩ = some (.int .i64 yc) := xs1
          have yz1 : (wr.alloc (.cells #[.int .i64 sq, .slice pA pl pc] 84)).drew.frozen? ⟨gx, m * 2 + 1, none⟩ = false := xz1
          have ly : gx < (wr.alloc (.cells #[.int .i64 sq, .slice pA pl pc] 84)).drew.heap.size := lx
          have lP2 := hS2.pk.lt
          clear hS2 hbD xd0 xd1 xp5 lP HS1 xs0 xs1 xz1 lx
          generalize (wr.alloc (.cells #[.int .i64 sq, .slice pA pl pc] 84)).drew = V at *
          have hO := HS2.out.own
          rw [← HM.out.1] at hO
          obtain ⟨hset, hT⟩ := Own1.set (base := base) hO hbw xeR_ab encX_len (k := m) (by rw [HM.out.1]; omega) (j := 1) (by omega) ⟨ys_, yc + 1⟩ (.int .i64 (yc + 1)) (by rw [HM.out.2.1]; rfl) trivial
          rw [HM.out.1, HM.out.2.2] at hset
          have hP2 := HS2.out.pk.turn hT (by simp)
          have hO2 := HS2.out.out.turn hT (by simp)
          have hbF : Below w.heap.size w (V.setCell ⟨gx, m * 2 + 1, none⟩ (.int .i64 (yc + 1))) := HS2.out.bel.setCell (p := ⟨gx, m * 2 + 1, none⟩) hgx _
          have HF : Hid (AnS w base r (k + 1) (.slice (some ⟨gx, 0, none⟩) (m + 1) cx) (ys ++ [⟨ys_, yc + 1⟩]) (V.setCell ⟨gx, m * 2 + 1, none⟩ (.int .i64 (yc + 1)))) := ⟨hO2, hP2, hset, HT.out.1.symm, HT.out.2, hbF⟩
          clear hO hset hT hP2 hO2 hbF
          go_wp2_with fail
          go_roundw
          case rel => exact ⟨k + 1, _, _, by omega, by go_num, HF⟩
          case measure => simp [intOf]; omega
        · rw [if_neg hsum] at HT
          have kd : (ys_ + yc == sq) = false := beq_eq_false_iff_ne.2 hsum
          clear hsum
          have xp5' : (wr.alloc (.cells #[.int .i64 sq, .slice pA pl pc] 84)).cell? ⟨w.heap.size + 1 + 1, 5, none⟩ = some (.slice (some ⟨gx, 0, none⟩) (m + 1) cx) := HS1.out.1.pk.cell 5
          have xe0 : (wr.alloc (.cells #[.int .i64 sq, .slice pA pl pc] 84)).cell? ⟨wr.heap.size, 0, none⟩ = some (.int .i64 sq) := HS1.out.2.cell 0
          go_upto_region 6 with fail
          refine wp_region_lexP [(0, 1), (1, 1), (2, 1), (3, 1), (5, 1), (10, 1), (12, 1), (18, 1), (4, 1), (6, 1), (11, 1), (13, 1), (19, 1), (7, 1), (14, 1), (8, 1), (15, 1), (9, 1), (16, 1), (17, 1), (20, 1), (21, 1)] [] (fun w9 => w9.cell? ⟨w.heap.size + 1 + 1, 5, none⟩ = some (.slice (some ⟨gx, 0, none⟩) (m + 1) cx) ∧ w9.cell? ⟨wr.heap.size, 0, none⟩ = some (.int .i64 sq) ∧ w9.cell? ⟨gx, m * 2, none⟩ = some (.int .i64 ys_) ∧ w9.cell? ⟨gx, m * 2 + 1, none⟩ = some (.int .i64 yc)) (by kernel_rfl) (by kernel_rfl) (by kernel_rfl) (by kernel_rfl) (by kernel_rfl) ⟨xp5', xe0, xs0, xs1⟩ ?_
          repeat ((first | (refine lexP_read rfl (by rfl) (by first | exact wanted_none rfl | exact wanted_some (b := true) (c := true) rfl rfl rfl | exact wanted_some (b := false) (c := false) rfl rfl rfl) (by intro w9 hS9; (try dsimp only at hS9); go_simp <;> with_reducible rfl) ?_) | (refine lexP_skip rfl (fun _ => trivial) (by first | exact wanted_some (b := true) (c := false) rfl rfl rfl | exact wanted_some (b := false) (c := true) rfl rfl rfl) ?_) | (refine lexP_builtin rfl (fun _ => trivial) (by first | exact wanted_none rfl | exact wanted_some (b := true) (c := true) rfl rfl rfl | exact wanted_some (b := false) (c := false) rfl rfl rfl) (by intro w9 hS9; (try dsimp only at hS9); go_simp <;> with_reducible rfl) ?_)); (try simp only [Act.put, List.getElem_toArray, List.getElem_cons_succ, List.getElem_cons_zero, List.setIfInBounds_toArray, List.set_cons_zero, List.set_cons_succ]))
          refine lexP_nil (panQ_normal ?_)
          clear xp5' xe0
          have hbD : Below (wr.alloc (.cells #[.int .i64 sq, .slice pA pl pc] 84)).heap.size (wr.alloc (.cells #[.int .i64 sq, .slice pA pl pc] 84)) (wr.alloc (.cells #[.int .i64 sq, .slice pA pl pc] 84)).drew := (Below.refl _ _).drew
          clear xs0 xs1 xz1 lx
          have hS2 : AnS w base r k (.slice (some ⟨gx, 0, none⟩) (m + 1) cx) ((ys ++ [(⟨ys_, yc⟩ : Xm)])) (wr.alloc (.cells #[.int .i64 sq, .slice pA pl pc] 84)).drew := ⟨HS1.out.1.out.drew, HS1.out.1.pk.drew, HS1.out.1.own.up hbD xeR_ab, HS1.out.1.eqn, HS1.out.1.bd, HS1.out.1.bel.drew⟩
          have HS2 := Lib.hid (And.intro hS2 HS1.out.2.drew)
          have yp5 : (wr.alloc (.cells #[.int .i64 sq, .slice pA pl pc] 84)).drew.cell? ⟨w.heap.size + 1 + 1, 5, none⟩ = some (.slice (some ⟨gx, 0, none⟩) (m + 1) cx) := hS2.pk.cell 5
          have ye0 : (wr.alloc (.cells #[.int .i64 sq, .slice pA pl pc] 84)).drew.cell? ⟨wr.heap.size, 0, none⟩ = some (.int .i64 sq) := HS2.out.2.cell 0
          have lP2 := hS2.pk.lt
          have lE2 := HS2.out.2.lt
          clear hS2 hbD xd0 xd1 xp5 lP HS1
          generalize (wr.alloc (.cells #[.int .i64 sq, .slice pA pl pc] 84)).drew = V at *
          have hbb : Below V.heap.size V (V.alloc (.cells #[.int .i64 sq, .int .i64 1] 87)) := (Below.refl _ V).alloc (Nat.le_refl _) _
          have hO := HS2.out.1.own.up hbb xeR_ab
          have hPk := HS2.out.1.pk.below hbb lP2
          have hOut := HS2.out.1.out.below hbb HS2.out.1.out.lt
          have hBl := HS2.out.1.bel.trans (hbb.mono HS2.out.1.bel.size)
          have HX := Lib.hid (And.intro hO (And.intro hPk (And.intro hOut (And.intro hBl (Blk.new V 87 #[.int .i64 sq, .int .i64 1])))))
          have hln : ((ys ++ [(⟨ys_, yc⟩ : Xm)]) : List Xm).length ≤ 10000 := by have h5 := HS2.out.1.eqn; rw [h5]; exact Nat.le_trans (selA_len _) (by rw [List.length_take]; omega)
          clear hbb hO hPk hOut hBl
          go_wp2_with (at_builtin; refine wpList_push (E := encX) (R := XeR) (t := 87) (sz := 2) (base := base) (low := w.heap.size) (l := (ys ++ [(⟨ys_, yc⟩ : Xm)])) (b := ⟨sq, 1⟩) rfl (.tmp 57) (.tmp 61) 53 rfl (.agg #[.int .i64 0, .int .i64 0]) 16 Try.underlying53 info87 rfl (by omega) (encX_one _) rfl rfl HX.out.1 hbw xeR_ab trivial rfl HX.out.2.2.2.2 (by omega) (by omega) HX.out.2.2.2.1.size ?_; intro v1 w1 hp1; obtain ⟨A1, c1, rfl, _, _⟩ := hp1.own.vform; have hT1 := hp1.turn.base hbw; have hB1 := HX.out.2.1.turn hT1 (by simp); have f5 : w1.cell? ⟨w.heap.size + 1 + 1, 5, none⟩ = some (.slice (some ⟨gx, 0, none⟩) (m + 1) cx) := hB1.cell 5; have y5 := hB1.frozen 5; have l1 := hB1.lt; have HP := Lib.hid (And.intro hp1 (And.intro hT1 hB1)); clear hp1 hT1 hB1; generalize ((ys ++ [(⟨ys_, yc⟩ : Xm)]) ++ [(⟨sq, 1⟩ : Xm)]).length = n1 at *)
          have hkS : Blk (w1.setCell ⟨w.heap.size + 1 + 1, 5, none⟩ (.slice A1 n1 c1)) (w.heap.size + 1 + 1) 55 (pkC (answP r) (.slice A1 n1 c1) (.slice none 0 0)) := HP.out.2.2.set_ 5 _
          have hTS : Turn base [55] w1 (w1.setCell ⟨w.heap.size + 1 + 1, 5, none⟩ (.slice A1 n1 c1)) := (Turn.refl base [55] w1).set HP.out.2.2 (by simp) (by omega) 5 _
          have hTw : Turn w.heap.size [87] (V.alloc (.cells #[.int .i64 sq, .int .i64 1] 87)) w1 := HP.out.1.turn
          have hbF : Below w.heap.size w (w1.setCell ⟨w.heap.size + 1 + 1, 5, none⟩ (.slice A1 n1 c1)) := (Turn.belowT HX.out.2.2.2.1 hTw (Nat.le_refl _) HX.out.2.2.2.1.size).setCell (p := ⟨w.heap.size + 1 + 1, 5, none⟩) (by dsimp only; omega) _
          have hoF : Blk (w1.setCell ⟨w.heap.size + 1 + 1, 5, none⟩ (.slice A1 n1 c1)) (w.heap.size + 1) 55 #[.int .i64 0, .int .i64 0, .int .i64 0, .int .i64 0, .int .i64 0, .slice none 0 0, .slice none 0 0] := (HX.out.2.2.1.turn HP.out.2.1 (by simp)).far (p := ⟨w.heap.size + 1 + 1, 5, none⟩) (by dsimp only; omega) _
          have HF : Hid (AnS w base r (k + 1) (.slice A1 n1 c1) ((ys ++ [(⟨ys_, yc⟩ : Xm)]) ++ [⟨sq, 1⟩]) (w1.setCell ⟨w.heap.size + 1 + 1, 5, none⟩ (.slice A1 n1 c1))) := ⟨hoF, hkS, HP.out.1.own.turn hTS (by simp) xeR_ab, HT.out.1.symm, HT.out.2, hbF⟩
          clear hkS hTS hTw hbF hoF
          go_roundw
          case rel => exact ⟨k + 1, _, _, by omega, by go_num, HF⟩
          case measure => simp [intOf]; omega
    · obtain rfl : k = no := by omega
      have hP := HS.out.pk
      have hO := HS.out.out
      obtain ⟨Ax, cx, hvx, -, -⟩ := HS.out.own.vform
      rw [hvx] at hP HS
      unfold pkC answP at hP
      dsimp only at hP
      have xc0 : wr.cell? ⟨w.heap.size + 1 + 1, 0, none⟩ = some (.int .i64 1) := hP.cell 0
      have xc1 : wr.cell? ⟨w.heap.size + 1 + 1, 1, none⟩ = some (.int .i64 r.ses) := hP.cell 1
      have xc2 : wr.cell? ⟨w.heap.size + 1 + 1, 2, none⟩ = some (.int .i64 0) := hP.cell 2
      have xc3 : wr.cell? ⟨w.heap.size + 1 + 1, 3, none⟩ = some (.int .i64 r.next) := hP.cell 3
      have xc4 : wr.cell? ⟨w.heap.size + 1 + 1, 4, none⟩ = some (.int .i64 r.lim) := hP.cell 4
      have xc5 : wr.cell? ⟨w.heap.size + 1 + 1, 5, none⟩ = some (.slice Ax xs.length cx) := hP.cell 5
      have xc6 : wr.cell? ⟨w.heap.size + 1 + 1, 6, none⟩ = some (.slice none 0 0) := hP.cell 6
      have xd0 : wr.cell? ⟨w.heap.size + 1, 0, none⟩ = some (.int .i64 0) := hO.cell 0
      have xd1 : wr.cell? ⟨w.heap.size + 1, 1, none⟩ = some (.int .i64 0) := hO.cell 1
      have xd2 : wr.cell? ⟨w.heap.size + 1, 2, none⟩ = some (.int .i64 0) := hO.cell 2
      have xd3 : wr.cell? ⟨w.heap.size + 1, 3, none⟩ = some (.int .i64 0) := hO.cell 3
      have xd4 : wr.cell? ⟨w.heap.size + 1, 4, none⟩ = some (.int .i64 0) := hO.cell 4
      have xd5 : wr.cell? ⟨w.heap.size + 1, 5, none⟩ = some (.slice none 0 0) := hO.cell 5
      have xd6 : wr.cell? ⟨w.heap.size + 1, 6, none⟩ = some (.slice none 0 0) := hO.cell 6
      have xy0 := hO.frozen 0
      have xy1 := hO.frozen 1
      have xy2 := hO.frozen 2
      have xy3 := hO.frozen 3
      have xy4 := hO.frozen 4
      have xy5 := hO.frozen 5
      have xy6 := hO.frozen 6
      have lP := hP.lt
      have lO := hO.lt
      have hkF := set55_blk hO (.int .i64 1) (.int .i64 r.ses) (.int .i64 0) (.int .i64 r.next) (.int .i64 r.lim) (.slice Ax xs.length cx) (.slice none 0 0)
      have hTF := set55_turn hO (base := base) (by omega) (.int .i64 1) (.int .i64 r.ses) (.int .i64 0) (.int .i64 r.next) (.int .i64 r.lim) (.slice Ax xs.length cx) (.slice none 0 0)
      have hbF := set55_below HS.out.bel (g := w.heap.size + 1) (by omega) (.int .i64 1) (.int .i64 r.ses) (.int .i64 0) (.int .i64 r.next) (.int .i64 r.lim) (.slice Ax xs.length cx) (.slice none 0 0)
      have hOw := HS.out.own.turn hTF (by simp) xeR_ab
      have hsel : xs = selA r.early := by have h5 := HS.out.eqn; rw [HE.out.2.2.2.1, List.take_length] at h5; exact h5
      have HF := Lib.hid (And.intro hkF (And.intro hOw (And.intro hbF hsel)))
      clear hkF hTF hbF hOw hsel hP hO
      go_wp2_with fail
      refine bodyPost_ret (results_cell1 (t := 55) rfl _ _ (w.heap.size + 1) _ _ rfl HF.out.1 Try.underlying55 rfl (by kernel_rfl)) rfl ?_
      refine ⟨⟨_, rfl, ⟨_, _, rfl, ?_, ⟨none, 0, rfl, Rd.none_⟩⟩⟩, HF.out.2.2.1⟩
      show XsV _ _ (selA r.early) _
      rw [← HF.out.2.2.2]
      exact HF.out.2.1.vec
end Go.Proofs.Ytanmndhdhlmjgaa
