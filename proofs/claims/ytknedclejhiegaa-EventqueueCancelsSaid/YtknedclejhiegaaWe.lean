/- The walks of SameEvent, SameEvents, Same: they say yes of what is the same. Condition: at most 10000 events. -/
import Derived.Test.YtknedclejhiegaaWd
import Derived.Test.YtknedclejhiegaaLibX
import Derived.Test.YtknedclejhiegaaLibP
namespace Go.Proofs.Ytknedclejhiegaa
open Go.RowKit
/-- the string of bytes -/
def strB (l : List Nat) : ByteArray := strOfNums (l.map fun x : Nat => (x : Int))
theorem run_str (w : World) (n c : Nat) (A : Option Addr) (l : List Nat) (hR : Reads w w.heap.size 1 A n (u8s l)) : (convert 30 9 (.slice A n c)).run Try.prog w = .ok (.string (strB l)) w := by
  have hlen : l.length = n := by have := hR.1; rw [u8s_len] at this; omega
  rcases Nat.eq_zero_or_pos n with h0 | h0
  · subst h0
    have hl : l = [] := List.eq_nil_of_length_eq_zero hlen
    subst hl
    cases A with
    | none => exact run_convert_bytes_nil w 30 5 Try.underlying30 Try.underlying5 0 c 9 Try.underlying9
    | some a =>
      rw [run_convert_bytes_string w 30 9 5 _ 0 c Try.underlying30 Try.underlying5 Try.underlying9]
      exact run_bytesToString w a 0 c [] (run_loadCells_list (P := Try.prog) w a [] (fun j v hj => by simp at hj))
  · obtain ⟨b, off, rfl, _, hc⟩ := hR.plain h0 (by omega)
    refine run_convert_bytes_arg w 30 5 Try.underlying30 Try.underlying5 b off n c (l.map fun x : Nat => (x : Int)) (by simpa using hlen) (fun i hi => ?_) 9 Try.underlying9
    refine hc i _ ?_
    have hil : i < l.length := by omega
    simp [u8s, List.getD, hil]
set_option maxHeartbeats 2000000 in
theorem SameEvent_true (t n k o : Int) (c c' : Nat) (A A' : Option Addr) (p : List Nat) (w : World) (hR : Reads w w.heap.size 1 A p.length (u8s p)) (hR' : Reads w w.heap.size 1 A' p.length (u8s p)) :
    Calls Try.prog 21 #[.agg (evC t n k o A p.length c), .agg (evC t n k o A' p.length c')] w fun e w' => e = .returned (.bool true) ∧ Below w.heap.size w w' := by
  have hb : Below w.heap.size w ((w.alloc (.cells #[.int .i64 t, .int .i64 n, .int .i64 k, .int .i64 o, .slice A p.length c] 32)).alloc (.cells #[.int .i64 t, .int .i64 n, .int .i64 k, .int .i64 o, .slice A' p.length c'] 32)) := ((Below.refl _ w).alloc (Nat.le_refl _) _).alloc (by simp) _
  have r1 := run_str _ p.length c A p ((hR.below hb).more hb.size)
  have r2 := run_str _ p.length c' A' p ((hR'.below hb).more hb.size)
  unfold evC
  go_enter Try.func21, Try.ntmps21
  go_wp2
  go_ret
  exact ⟨by simp, hb⟩
set_option linter.unusedSimpArgs false in
set_option maxRecDepth 100000 in
set_option maxHeartbeats 4000000 in
theorem SameEvents_true (n c c' : Nat) (A A' : Option Addr) (l l' : List Ev) (w : World) (hR : Evs w A n l) (hR' : Evs w A' n l') (hn : n ≤ 10000) (ht : l.map Ev.em = l'.map Ev.em) :
    Calls Try.prog 28 #[.slice A n c, .slice A' n c'] w fun e w' => e = .returned (.bool true) ∧ Below w.heap.size w w' := by
  have hlen := hR.count
  have hlen' := hR'.count
  have HX := Lib.hid (And.intro hR (And.intro hR' (And.intro hlen (And.intro hlen' ht))))
  clear hR hR' hlen hlen' ht
  go_enter Try.func28, Try.ntmps28
  go_wp2_with fail
  go_loopw [5] (fun i W => ∃ k : Nat, k ≤ n ∧ i = .int .i64 k ∧ Below w.heap.size w W) (fun i _ => n - (intOf i).toNat)
  case atStart => exact ⟨0, by omega, rfl, Below.refl _ _⟩
  case round =>
    obtain ⟨k, hk, rfl, hb⟩ := hrel
    by_cases hkn : k < n
    · obtain ⟨hR, hR', hlen, hlen', ht⟩ := HX.out
      have hkl : k < l.length := by omega
      have hkl' : k < l'.length := by omega
      obtain ⟨b, off, rfl, hbb, hc⟩ := hR.cells (by omega)
      obtain ⟨b', off', rfl, hbb', hc'⟩ := hR'.cells (by omega)
      have htk : l[k].em = l'[k].em := by
        have h := congrArg (fun x => x[k]?) ht
        simpa [List.getElem?_eq_getElem hkl, List.getElem?_eq_getElem hkl'] using h
      have hpk := (hR.ev _ (List.getElem_mem hkl)).up hb
      have hpk' := (hR'.ev _ (List.getElem_mem hkl')).up hb
      have hcx := hc k _ (List.getElem?_eq_getElem hkl)
      have hcx' := hc' k _ (List.getElem?_eq_getElem hkl')
      generalize l[k] = x at *
      generalize l'[k] = y at *
      obtain ⟨xt, xn, xk, xo, xA, xc, xp⟩ := x
      obtain ⟨yt, yn, yk, yo, yA, yc, yp⟩ := y
      simp only [Ev.em, Em.mk.injEq] at htk
      obtain ⟨rfl, rfl, rfl, rfl, rfl⟩ := htk
      dsimp only at hcx hcx'
      have d0 := (hb.cell (p := ⟨b, off + k * 5, none⟩) hbb).trans hcx.1
      have e0 := (hb.cell (p := ⟨b', off' + k * 5, none⟩) hbb').trans hcx'.1
      have d1 := (hb.cell (p := ⟨b, off + k * 5 + 1, none⟩) hbb).trans hcx.2.1
      have e1 := (hb.cell (p := ⟨b', off' + k * 5 + 1, none⟩) hbb').trans hcx'.2.1
      have d2 := (hb.cell (p := ⟨b, off + k * 5 + 2, none⟩) hbb).trans hcx.2.2.1
      have e2 := (hb.cell (p := ⟨b', off' + k * 5 + 2, none⟩) hbb').trans hcx'.2.2.1
      have d3 := (hb.cell (p := ⟨b, off + k * 5 + 3, none⟩) hbb).trans hcx.2.2.2.1
      have e3 := (hb.cell (p := ⟨b', off' + k * 5 + 3, none⟩) hbb').trans hcx'.2.2.2.1
      have d4 := (hb.cell (p := ⟨b, off + k * 5 + 4, none⟩) hbb).trans hcx.2.2.2.2
      have e4 := (hb.cell (p := ⟨b', off' + k * 5 + 4, none⟩) hbb').trans hcx'.2.2.2.2
      have HP := Lib.hid (And.intro hpk (And.intro hpk' hb))
      clear hR hR' hlen hlen' ht hc hc' hcx hcx' hpk hpk' hb
      have hkn' : (k : Int) < n := by omega
      have hk0 : (0 : Int) ≤ k := by omega
      go_upto_region 6 with fail
      refine wp_pan (Pc := fun _ _ _ => False) (fun _ _ _ h => h.elim) ?_
      refine wp_region_tail_lit (S := fun V => V.cell? ⟨b, off + k * 5, none⟩ = some (.int .i64 xt) ∧ V.cell? ⟨b, off + k * 5 + 1, none⟩ = some (.int .i64 xn) ∧ V.cell? ⟨b, off + k * 5 + 2, none⟩ = some (.int .i64 xk) ∧ V.cell? ⟨b, off + k * 5 + 3, none⟩ = some (.int .i64 xo) ∧ V.cell? ⟨b, off + k * 5 + 4, none⟩ = some (.slice xA xp.length xc) ∧ V.cell? ⟨b', off' + k * 5, none⟩ = some (.int .i64 xt) ∧ V.cell? ⟨b', off' + k * 5 + 1, none⟩ = some (.int .i64 xn) ∧ V.cell? ⟨b', off' + k * 5 + 2, none⟩ = some (.int .i64 xk) ∧ V.cell? ⟨b', off' + k * 5 + 3, none⟩ = some (.int .i64 xo) ∧ V.cell? ⟨b', off' + k * 5 + 4, none⟩ = some (.slice yA xp.length yc)) 8 (by kernel_rfl) (by kernel_rfl) ⟨d0, d1, d2, d3, d4, e0, e1, e2, e3, e4⟩ (fun hHeld => ?_)
      simp only [List.take, List.drop]
      refine wpAnyH_take (i := 0) (oi := _) (v := ?_) rfl (by kernel_rfl) (by kernel_rfl) (by kernel_rfl) (fun _ _ _ h => h) (Or.inl ⟨by rfl, ?_⟩) (by assumption) ?_
      rotate_left 1
      · (intro w9 hS9; (try dsimp only at hS9); go_simp <;> with_reducible rfl)
      try simp only [List.getElem_toArray, List.getElem_cons_succ, List.getElem_cons_zero, Act.put, List.setIfInBounds_toArray, List.set_cons_zero, List.set_cons_succ]
      refine wpAnyH_take (i := 1) (oi := _) (v := ?_) rfl (by kernel_rfl) (by kernel_rfl) (by kernel_rfl) (fun _ _ _ h => h) (Or.inl ⟨by rfl, ?_⟩) (by assumption) ?_
      rotate_left 1
      · (intro w9 hS9; (try dsimp only at hS9); go_simp <;> with_reducible rfl)
      try simp only [List.getElem_toArray, List.getElem_cons_succ, List.getElem_cons_zero, Act.put, List.setIfInBounds_toArray, List.set_cons_zero, List.set_cons_succ]
      refine wpAnyH_take (i := 2) (oi := _) (v := ?_) rfl (by kernel_rfl) (by kernel_rfl) (by kernel_rfl) (fun _ _ _ h => h) (Or.inl ⟨by rfl, ?_⟩) (by assumption) ?_
      rotate_left 1
      · (intro w9 hS9; (try dsimp only at hS9); go_simp <;> with_reducible rfl)
      try simp only [List.getElem_toArray, List.getElem_cons_succ, List.getElem_cons_zero, Act.put, List.setIfInBounds_toArray, List.set_cons_zero, List.set_cons_succ]
      refine wpAnyH_take (i := 3) (oi := _) (v := ?_) rfl (by kernel_rfl) (by kernel_rfl) (by kernel_rfl) (fun _ _ _ h => h) (Or.inl ⟨by rfl, ?_⟩) (by assumption) ?_
      rotate_left 1
      · (intro w9 hS9; (try dsimp only at hS9); go_simp <;> with_reducible rfl)
      try simp only [List.getElem_toArray, List.getElem_cons_succ, List.getElem_cons_zero, Act.put, List.setIfInBounds_toArray, List.set_cons_zero, List.set_cons_succ]
      refine wpAnyH_take (i := 4) (oi := _) (v := ?_) rfl (by kernel_rfl) (by kernel_rfl) (by kernel_rfl) (fun _ _ _ h => h) (Or.inl ⟨by rfl, ?_⟩) (by assumption) ?_
      rotate_left 1
      · (intro w9 hS9; (try dsimp only at hS9); go_simp <;> with_reducible rfl)
      try simp only [List.getElem_toArray, List.getElem_cons_succ, List.getElem_cons_zero, Act.put, List.setIfInBounds_toArray, List.set_cons_zero, List.set_cons_succ]
      refine wpAnyH_take (i := 5) (oi := _) (v := ?_) rfl (by kernel_rfl) (by kernel_rfl) (by kernel_rfl) (fun _ _ _ h => h) (Or.inl ⟨by rfl, ?_⟩) (by assumption) ?_
      rotate_left 1
      · (intro w9 hS9; (try dsimp only at hS9); go_simp <;> with_reducible rfl)
      try simp only [List.getElem_toArray, List.getElem_cons_succ, List.getElem_cons_zero, Act.put, List.setIfInBounds_toArray, List.set_cons_zero, List.set_cons_succ]
      refine wpAnyH_take (i := 6) (oi := _) (v := ?_) rfl (by kernel_rfl) (by kernel_rfl) (by kernel_rfl) (fun _ _ _ h => h) (Or.inl ⟨by rfl, ?_⟩) (by assumption) ?_
      rotate_left 1
      · (intro w9 hS9; (try dsimp only at hS9); go_simp <;> with_reducible rfl)
      try simp only [List.getElem_toArray, List.getElem_cons_succ, List.getElem_cons_zero, Act.put, List.setIfInBounds_toArray, List.set_cons_zero, List.set_cons_succ]
      refine wpAnyH_take (i := 7) (oi := _) (v := ?_) rfl (by kernel_rfl) (by kernel_rfl) (by kernel_rfl) (fun _ _ _ h => h) (Or.inl ⟨by rfl, ?_⟩) (by assumption) ?_
      rotate_left 1
      · (intro w9 hS9; (try dsimp only at hS9); go_simp <;> with_reducible rfl)
      try simp only [List.getElem_toArray, List.getElem_cons_succ, List.getElem_cons_zero, Act.put, List.setIfInBounds_toArray, List.set_cons_zero, List.set_cons_succ]
      refine wpAnyH_done (by kernel_rfl) ?_ _
      refine tailQ_step rfl ?_
      go_wp2_with fail
      refine (SameEvent_true xt xn xk xo xc yc xA yA xp _ (Reads.drew HP.out.1) (Reads.drew HP.out.2.1)).mono ?_
      rintro e w7 ⟨rfl, hb7⟩
      go_wp2_with fail
      refine tailQ_step rfl ?_
      go_wp2_with fail
      refine tailQ_nil (panQ_normal ?_)
      go_wp2_with fail
      exact ⟨⟨k + 1, by omega, by go_num, HP.out.2.2.trans (((Below.refl _ wr).drew.trans hb7).mono HP.out.2.2.size)⟩, by simp [intOf]; omega⟩
    · go_wp2_with fail
      go_ret
      exact ⟨rfl, hb⟩
set_option maxHeartbeats 1000000 in
theorem Same_true (n c c' : Nat) (nx : Int) (A A' : Option Addr) (l l' : List Ev) (w : World) (hR : Evs w A n l) (hR' : Evs w A' n l') (hn : n ≤ 10000) (ht : l.map Ev.em = l'.map Ev.em) :
    Calls Try.prog 16 #[.agg #[.slice A n c, .int .i64 nx], .agg #[.slice A' n c', .int .i64 nx]] w fun e w' => e = .returned (.bool true) ∧ Below w.heap.size w w' := by
  have hb : Below w.heap.size w ((w.alloc (.cells #[.slice A n c, .int .i64 nx] 24)).alloc (.cells #[.slice A' n c', .int .i64 nx] 24)) := ((Below.refl _ w).alloc (Nat.le_refl _) _).alloc (by simp) _
  have HS := Lib.hid (SameEvents_true n c c' A A' l l' _ (hR.up hb) (hR'.up hb) hn ht)
  have HB := Lib.hid hb
  clear hR hR' ht hb
  go_enter Try.func16, Try.ntmps16
  go_wp2_with fail
  refine HS.out.mono ?_
  rintro e w1 ⟨rfl, hb1⟩
  go_wp2_with fail
  go_ret
  exact ⟨by simp, HB.out.trans (hb1.mono HB.out.size)⟩
end Go.Proofs.Ytknedclejhiegaa
