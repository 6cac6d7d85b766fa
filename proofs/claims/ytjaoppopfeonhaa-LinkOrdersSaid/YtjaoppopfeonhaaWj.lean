/- The walk of link's insert. Condition: at most 9000 flights. -/
import Derived.Test.YtjaoppopfeonhaaWi
import Derived.WalkMore
namespace Go.Proofs.Ytjaoppopfeonhaa
open Go.RowKit
theorem flat_take (l : List Ev) (q : Nat) : (l.flatMap encEv).take (q * 3) = (l.take q).flatMap encEv := by
  induction l generalizing q with
  | nil => simp
  | cons e l ih =>
    cases q with
    | zero => simp
    | succ q =>
      rw [List.take_succ_cons, List.flatMap_cons, List.flatMap_cons, ← ih, List.take_append, encEv_len]
      rw [List.take_of_length_le (by rw [encEv_len]; omega), show (q + 1) * 3 - 3 = q * 3 by omega]
theorem flat_drop (l : List Ev) (q : Nat) : (l.flatMap encEv).drop (q * 3) = (l.drop q).flatMap encEv := by
  induction l generalizing q with
  | nil => simp
  | cons e l ih =>
    cases q with
    | zero => simp
    | succ q =>
      rw [List.drop_succ_cons, List.flatMap_cons, ← ih, List.drop_append, encEv_len]
      rw [List.drop_of_length_le (by rw [encEv_len]; omega), show (q + 1) * 3 - 3 = q * 3 by omega, List.nil_append]
theorem OwnE.ins {W W' : World} {base q : Nat} {v v' : Value} {l : List Ev} {x : Ev} (h : OwnE W base v l) (ho : W'.ownsRow base 69 3 v' (l.length + 1) ((l.flatMap encEv).take (q * 3) ++ encEv x ++ (l.flatMap encEv).drop (q * 3))) (hg : W.grownBy W' v.ownBlock) (hv : v'.ownBlock = v.ownBlock ∨ v'.ownBlock = some W.heap.size)
    (hx : EvR W x) (hf : ∀ ad, 0 < x.p.length → x.A = some ad → v.ownBlock ≠ some ad.block) : OwnE W' base v' (l.take q ++ x :: l.drop q) := by
  refine ⟨?_, fun e he => ?_⟩
  · have h1 : (l.take q ++ x :: l.drop q).length = l.length + 1 := by simp; omega
    have h2 : (l.take q ++ x :: l.drop q).flatMap encEv = (l.flatMap encEv).take (q * 3) ++ encEv x ++ (l.flatMap encEv).drop (q * 3) := by
      rw [List.flatMap_append, List.flatMap_cons, flat_take, flat_drop, List.append_assoc]
    rw [h1, h2]
    exact ho
  · rcases List.mem_append.1 he with he | he
    · have he := List.mem_of_mem_take he
      exact ⟨evR_grown (h.ev e he).1 (h.ev e he).2 hg, far_grown (h.ev e he).1 (h.ev e he).2 hv⟩
    · rcases List.mem_cons.1 he with rfl | he
      · exact ⟨evR_grown hx hf hg, far_grown hx hf hv⟩
      · have he := List.mem_of_mem_drop he
        exact ⟨evR_grown (h.ev e he).1 (h.ev e he).2 hg, far_grown (h.ev e he).1 (h.ev e he).2 hv⟩
theorem grown_of_below {w W w' : World} {row : Option Nat} (hb : Below w.heap.size w W) (hg : W.grownBy w' row) : w.grownBy w' row :=
  ⟨hg.1.trans hb.1, hg.2.trans hb.2, hg.3.trans hb.3, Nat.le_trans hb.size hg.size, fun k hk hr => (hg.block k (Nat.lt_of_lt_of_le hk hb.size) hr).trans (hb.block k hk)⟩
/-- what insert answers -/
def InsE (w : World) (base : Nat) (v : Value) (l : List Ev) (e : Ending) (w' : World) : Prop :=
  ∃ v', e = .returned v' ∧ OwnE w' base v' l ∧ w.grownBy w' v.ownBlock ∧ ∀ g, v'.ownBlock = some g → v.ownBlock = some g ∨ w.heap.size ≤ g
theorem atE_none {f : Em → Bool} {l : List Ev} (h : ∀ j x, j < l.length → (l.map Ev.em)[j]? = some x → f x = false) : atE f (l.map Ev.em) = l.length := by
  unfold atE
  rw [idxB_none]
  · simp
  · intro x hx
    obtain ⟨j, hj, hjx⟩ := List.getElem_of_mem hx
    rw [List.length_map] at hj
    exact h j x hj (by rw [List.getElem?_eq_getElem (by rw [List.length_map]; exact hj), hjx])
theorem atE_some {f : Em → Bool} {l : List Ev} {k : Nat} {e : Em} (h : ∀ j x, j < k → (l.map Ev.em)[j]? = some x → f x = false) (hk : (l.map Ev.em)[k]? = some e) (he : f e = true) : atE f (l.map Ev.em) = k := by
  unfold atE
  rw [idxB_some h hk he]
set_option linter.unusedSimpArgs false in
set_option maxRecDepth 100000 in
set_option maxHeartbeats 2000000 in
theorem insert_any (base : Nat) (v : Value) (es : List Ev) (t n : Int) (A : Option Addr) (c : Nat) (p : List Nat) (w : World) (h : OwnE w base v es) (hN : NewP base es) (hx : EvR w ⟨t, n, A, c, p⟩) (hf : ∀ ad, 0 < p.length → A = some ad → v.ownBlock ≠ some ad.block) (hl : es.length ≤ 9000) (hbase : base ≤ w.heap.size) :
    Calls Try.prog 41 #[v, .agg (evC t n A p.length c)] w (InsE w base v (es.take (atE (laterB t) (es.map Ev.em)) ++ ⟨t, n, A, c, p⟩ :: es.drop (atE (laterB t) (es.map Ev.em)))) := by
  obtain ⟨A0, c0, rfl⟩ := h.form
  obtain ⟨m, hm⟩ : ∃ m, es.length = m := ⟨_, rfl⟩
  have HM := Lib.hid hm
  rw [hm] at h hf hl ⊢
  unfold evC
  have hb0 : Below w.heap.size w (w.alloc (.cells #[.int .i64 t, .int .i64 n, .slice A p.length c] 69)) := (Below.refl _ _).alloc (Nat.le_refl _) _
  have g0 := Blk.new w 69 #[.int .i64 t, .int .i64 n, .slice A p.length c]
  have hs0 : (w.alloc (.cells #[.int .i64 t, .int .i64 n, .slice A p.length c] 69)).heap.size = w.heap.size + 1 := by simp
  have hE := h.evs.1
  clear hm
  have HX := Lib.hid (And.intro h (And.intro hN (And.intro hx (And.intro hf hbase))))
  have HE := Lib.hid hE
  clear h hN hx hf hE
  obtain ⟨Q, hQ⟩ : ∃ Q, Q = InsE w base (.slice A0 m c0) (es.take (atE (laterB t) (es.map Ev.em)) ++ ⟨t, n, A, c, p⟩ :: es.drop (atE (laterB t) (es.map Ev.em))) := ⟨_, rfl⟩
  rw [← hQ]
  have HQ := Lib.hid hQ
  clear hQ
  go_enter Try.func41, Try.ntmps41
  go_wp2_with fail
  refine wp_scope_straight ?_
  go_wp2_with fail
  refine wp_label ?_
  go_wp2_with fail
  have HG := Lib.hid (And.intro g0 (And.intro hb0 hs0))
  clear g0 hb0 hs0
  generalize (w.alloc (.cells #[.int .i64 t, .int .i64 n, .slice A p.length c] 69)) = W0 at *
  go_loopw [5, 6, 7, 12] (fun u5 _ _ u12 W => ∃ (k : Nat), k ≤ m ∧ u5 = .int .i64 (m : Nat) ∧ u12 = .int .i64 (k : Nat) ∧ (∀ j x, j < k → (es.map Ev.em)[j]? = some x → laterB t x = false) ∧ Below W0.heap.size W0 W) (fun _ _ _ u12 _ => m + 1 - (intOf u12).toNat)
  case atStart => exact ⟨0, by omega, rfl, rfl, fun j x hj => absurd hj (by omega), Below.refl _ _⟩
  case round =>
    obtain ⟨k, hk, rfl, rfl, hlate, hb⟩ := hrel
    have hbw := HG.out.2.1.trans (hb.mono HG.out.2.1.size)
    have gx := HG.out.1.below hb (by have := HG.out.2.2; omega)
    have x0 : wr.cell? ⟨w.heap.size, 0, none⟩ = some (.int .i64 t) := gx.cell 0
    have x1 : wr.cell? ⟨w.heap.size, 1, none⟩ = some (.int .i64 n) := gx.cell 1
    have x2 : wr.cell? ⟨w.heap.size, 2, none⟩ = some (.slice A p.length c) := gx.cell 2
    have hsr : w.heap.size + 1 ≤ wr.heap.size := by have := hb.size; have := HG.out.2.2; omega
    have HB := Lib.hid hbw
    have HR := Lib.hid (And.intro hlate (And.intro hb gx))
    clear hlate hb hbw gx
    by_cases hlt : k < m
    · have hkl : k < es.length := by rw [HM.out]; exact hlt
      obtain ⟨b, off, rfl, hbw, hc⟩ := HE.out.cells (by omega)
      obtain ⟨d0, d1, d2⟩ := hc k _ (List.getElem?_eq_getElem hkl)
      replace d0 := (HB.out.cell (p := ⟨b, off + k * 3, none⟩) hbw).trans d0
      replace d1 := (HB.out.cell (p := ⟨b, off + k * 3 + 1, none⟩) hbw).trans d1
      replace d2 := (HB.out.cell (p := ⟨b, off + k * 3 + 2, none⟩) hbw).trans d2
      have HS : Hid ((es.map Ev.em)[k]? = some es[k].em) := by
        show _ = _
        rw [List.getElem?_map, List.getElem?_eq_getElem hkl]
        rfl
      clear hc
      generalize hlk : es[k] = ev at *
      obtain ⟨et, en, eA, ec, ep⟩ := ev
      dsimp only at d0 d1 d2
      dsimp only [Ev.em] at HS
      clear hlk
      have ik : (k : Int) < m := by omega
      go_upto_region 5 with fail
      have g1 := Blk.new wr 69 #[.int .i64 et, .int .i64 en, .slice eA ep.length ec]
      have hb1 : Below wr.heap.size wr (wr.alloc (.cells #[.int .i64 et, .int .i64 en, .slice eA ep.length ec] 69)) := (Below.refl _ _).alloc (Nat.le_refl _) _
      generalize hW1 : (wr.alloc (.cells #[.int .i64 et, .int .i64 en, .slice eA ep.length ec] 69)) = W1 at *
      have hs1 : W1.heap.size = wr.heap.size + 1 := by rw [← hW1]; simp
      clear hW1 d0 d1 d2 x0 x1 x2
      have gx := HR.out.2.2.below hb1 (by omega)
      have x0 : W1.cell? ⟨w.heap.size, 0, none⟩ = some (.int .i64 t) := gx.cell 0
      have x1 : W1.cell? ⟨w.heap.size, 1, none⟩ = some (.int .i64 n) := gx.cell 1
      have x2 : W1.cell? ⟨w.heap.size, 2, none⟩ = some (.slice A p.length c) := gx.cell 2
      have d0 : W1.cell? ⟨wr.heap.size, 0, none⟩ = some (.int .i64 et) := g1.cell 0
      have HB1 : Hid (Below w.heap.size w W1) := HB.out.trans (hb1.mono HB.out.size)
      have HW1 := Lib.hid (HR.out.2.1.trans (hb1.mono HR.out.2.1.size))
      have hsr1 : w.heap.size + 1 ≤ W1.heap.size := by omega
      clear g1 hb1 gx hs1
      by_cases hgt : t < et
      · have hq : atE (laterB t) (es.map Ev.em) = k := atE_some HR.out.1 HS.out (by simpa [laterB] using hgt)
        have hQ := HQ.out
        rw [hq] at hQ
        have HQ2 := Lib.hid hQ
        clear hQ HQ hq
        have vB := Blk.new W1 69 #[.int .i64 t, .int .i64 n, .slice A p.length c]
        have hbv : Below W1.heap.size W1 (W1.alloc (.cells #[.int .i64 t, .int .i64 n, .slice A p.length c] 69)) := (Below.refl _ _).alloc (Nat.le_refl _) _
        have hszv : (W1.alloc (.cells #[.int .i64 t, .int .i64 n, .slice A p.length c] 69)).heap.size = W1.heap.size + 1 := by simp
        have HV := Lib.hid (And.intro vB (And.intro hbv hszv))
        clear vB hbv hszv
        go_wp2_with fail
        generalize (W1.alloc (.cells #[.int .i64 t, .int .i64 n, .slice A p.length c] 69)) = V at *
        have hbV : Below w.heap.size w V := HB1.out.trans (HV.out.2.1.mono HB1.out.size)
        have hoV := HX.out.1.below hbV
        have hoA := hoV.own
        rw [HM.out] at hoA
        refine (Insert_any base k (.slice (some ⟨b, off, none⟩) m c0) m (es.flatMap encEv) W1.heap.size #[.int .i64 t, .int .i64 n, .slice A p.length c] V hoA HV.out.1 rfl (by simp [Value.oneCell']) (encEv_one _) (by omega) (by omega) (fun e => by have h1 := own_lt HX.out.1.own _ e; have h2 := HB1.out.size; omega) (by have h1 := HX.out.2.2.2.2; have h2 := hbV.size; omega)).mono ?_
        rintro e w9 ⟨⟨v9, rfl, ho9, hv9⟩, hg9⟩
        clear hoA
        have ho9' : w9.ownsRow base 69 3 v9 (es.length + 1) ((es.flatMap encEv).take (k * 3) ++ encEv ⟨t, n, A, c, p⟩ ++ (es.flatMap encEv).drop (k * 3)) := by rw [HM.out]; exact ho9
        clear ho9
        go_wp2_with fail
        change Q (.returned v9) w9
        rw [HQ2.out]
        refine ⟨v9, rfl, ?_, grown_of_below hbV hg9, fun g hg => ?_⟩
        · exact hoV.ins (x := ⟨t, n, A, c, p⟩) ho9' hg9 hv9 (HX.out.2.2.1.up hbV) HX.out.2.2.2.1
        · rcases hv9 with e | e
          · rw [e] at hg; exact .inl hg
          · rw [e] at hg; injection hg with hg; have := hbV.size; exact .inr (by omega)
      · have HGT := Lib.hid hgt
        go_wp2_with fail
        go_roundw
        case rel =>
          refine ⟨k + 1, by omega, rfl, by go_num, fun j x hj hx => ?_, HW1.out⟩
          rcases Nat.lt_or_ge j k with h | h
          · exact HR.out.1 j x h hx
          · obtain rfl : j = k := by omega
            rw [HS.out] at hx
            injection hx with hx
            rw [← hx]
            simpa [laterB] using HGT.out
        case measure => simp [intOf]; omega
    · obtain rfl : k = m := by omega
      have hq : atE (laterB t) (es.map Ev.em) = k := by rw [atE_none (by rw [HM.out]; exact HR.out.1), HM.out]
      have hQ := HQ.out
      rw [hq] at hQ
      have HQ2 := Lib.hid hQ
      clear hQ HQ hq
      have vB := Blk.new wr 69 #[.int .i64 t, .int .i64 n, .slice A p.length c]
      have hbv : Below wr.heap.size wr (wr.alloc (.cells #[.int .i64 t, .int .i64 n, .slice A p.length c] 69)) := (Below.refl _ _).alloc (Nat.le_refl _) _
      have hszv : (wr.alloc (.cells #[.int .i64 t, .int .i64 n, .slice A p.length c] 69)).heap.size = wr.heap.size + 1 := by simp
      have HV := Lib.hid (And.intro vB (And.intro hbv hszv))
      clear vB hbv hszv
      go_wp2_with fail
      generalize (wr.alloc (.cells #[.int .i64 t, .int .i64 n, .slice A p.length c] 69)) = V at *
      have hbV : Below w.heap.size w V := HB.out.trans (HV.out.2.1.mono HB.out.size)
      have hoV := HX.out.1.below hbV
      have hoA := hoV.own
      rw [HM.out] at hoA
      refine (Insert_any base k (.slice A0 k c0) k (es.flatMap encEv) wr.heap.size #[.int .i64 t, .int .i64 n, .slice A p.length c] V hoA HV.out.1 rfl (by simp [Value.oneCell']) (encEv_one _) (by omega) (by omega) (fun e => by have h1 := own_lt HX.out.1.own _ e; have h2 := HB.out.size; omega) (by have h1 := HX.out.2.2.2.2; have h2 := hbV.size; omega)).mono ?_
      rintro e w9 ⟨⟨v9, rfl, ho9, hv9⟩, hg9⟩
      clear hoA
      have ho9' : w9.ownsRow base 69 3 v9 (es.length + 1) ((es.flatMap encEv).take (k * 3) ++ encEv ⟨t, n, A, c, p⟩ ++ (es.flatMap encEv).drop (k * 3)) := by rw [HM.out]; exact ho9
      clear ho9
      go_wp2_with fail
      change Q (.returned v9) w9
      rw [HQ2.out]
      refine ⟨v9, rfl, ?_, grown_of_below hbV hg9, fun g hg => ?_⟩
      · exact hoV.ins (x := ⟨t, n, A, c, p⟩) ho9' hg9 hv9 (HX.out.2.2.1.up hbV) HX.out.2.2.2.1
      · rcases hv9 with e | e
        · rw [e] at hg; exact .inl hg
        · rw [e] at hg; injection hg with hg; have := hbV.size; exact .inr (by omega)
end Go.Proofs.Ytjaoppopfeonhaa
