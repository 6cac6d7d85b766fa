/- The walk of SameList. Condition: at most 2000 records. -/
import Derived.Test.YtbiiahbhgjjhgaaWt
namespace Go.Proofs.Ytbiiahbhgjjhgaa
open Go.RowKit
set_option linter.unusedSimpArgs false in
set_option maxRecDepth 100000 in
set_option maxHeartbeats 2000000 in
theorem SameList_any (n c c' : Nat) (A A' : Option Addr) (l l' : List Rc) (w : World) (hR : Reads w w.heap.size 3 A n (l.flatMap encRc)) (hR' : Reads w w.heap.size 3 A' n (l'.flatMap encRc)) (hn : n ≤ 2000)
    (hp : ∀ r ∈ l, Reads w w.heap.size 1 r.A r.p.length (u8s r.p)) (hp' : ∀ r ∈ l', Reads w w.heap.size 1 r.A r.p.length (u8s r.p)) (ht : l.map Rc.trip = l'.map Rc.trip) :
    Calls Try.prog 23 #[.slice A n c, .slice A' n c'] w fun e w' => e = .returned (.bool true) ∧ Below w.heap.size w w' := by
  have hlen := hR.count encRc_len (by omega)
  have hlen' := hR'.count encRc_len (by omega)
  have HX := Lib.hid (And.intro hR (And.intro hR' (And.intro hlen (And.intro hlen' (And.intro hp (And.intro hp' ht))))))
  clear hR hR' hlen hlen' hp hp' ht
  go_enter Try.func23, Try.ntmps23
  go_wp2_with fail
  go_loopw [5] (fun i W => ∃ k : Nat, k ≤ n ∧ i = .int .i64 k ∧ Below w.heap.size w W) (fun i _ => n - (intOf i).toNat)
  case atStart => exact ⟨0, by omega, rfl, Below.refl _ _⟩
  case round =>
    obtain ⟨k, hk, rfl, hb⟩ := hrel
    by_cases hkn : k < n
    · obtain ⟨hR, hR', hlen, hlen', hp, hp', ht⟩ := HX.out
      have hkl : k < l.length := by omega
      have hkl' : k < l'.length := by omega
      obtain ⟨b, off, rfl, hbb, hc⟩ := hR.elems3 encRc_len (by omega)
      obtain ⟨b', off', rfl, hbb', hc'⟩ := hR'.elems3 encRc_len (by omega)
      have htk : l[k].trip = l'[k].trip := by
        have h := congrArg (fun x => x[k]?) ht
        simpa [List.getElem?_eq_getElem hkl, List.getElem?_eq_getElem hkl'] using h
      have hpk := (hp _ (List.getElem_mem hkl)).up hb
      have hpk' := (hp' _ (List.getElem_mem hkl')).up hb
      have hcx := hc k hkl _ _ _ rfl
      have hcx' := hc' k hkl' _ _ _ rfl
      generalize l[k] = x at *
      generalize l'[k] = y at *
      obtain ⟨xk, xq, xA, xc, xp⟩ := x
      obtain ⟨yk, yq, yA, yc, yp⟩ := y
      dsimp only [Rc.trip] at htk hpk hpk' hcx hcx'
      injection htk with e1 e2
      injection e2 with e2 e3
      subst e1 e2 e3
      have d0 := (hb.cell (p := ⟨b, off + k * 3, none⟩) hbb).trans hcx.1
      have d1 := (hb.cell (p := ⟨b, off + k * 3 + 1, none⟩) hbb).trans hcx.2.1
      have d2 := (hb.cell (p := ⟨b, off + k * 3 + 2, none⟩) hbb).trans hcx.2.2
      have e0 := (hb.cell (p := ⟨b', off' + k * 3, none⟩) hbb').trans hcx'.1
      have e1 := (hb.cell (p := ⟨b', off' + k * 3 + 1, none⟩) hbb').trans hcx'.2.1
      have e2 := (hb.cell (p := ⟨b', off' + k * 3 + 2, none⟩) hbb').trans hcx'.2.2
      have HP := Lib.hid (And.intro hpk (And.intro hpk' hb))
      clear hR hR' hlen hlen' hp hp' ht hc hc' hcx hcx' hpk hpk' hb
      have hkn' : (k : Int) < n := by omega
      have hk0 : (0 : Int) ≤ k := by omega
      go_upto_region 6 with fail
      refine wp_pan (Pc := fun _ _ _ => False) (fun _ _ _ h => h.elim) ?_
      refine wp_region_tail_lit (S := fun V => V.cell? ⟨b, off + k * 3, none⟩ = some (.int .i64 (xk : Nat)) ∧ V.cell? ⟨b, off + k * 3 + 1, none⟩ = some (.int .i64 (xq : Nat)) ∧ V.cell? ⟨b, off + k * 3 + 2, none⟩ = some (.slice xA xp.length xc) ∧ V.cell? ⟨b', off' + k * 3, none⟩ = some (.int .i64 (xk : Nat)) ∧ V.cell? ⟨b', off' + k * 3 + 1, none⟩ = some (.int .i64 (xq : Nat)) ∧ V.cell? ⟨b', off' + k * 3 + 2, none⟩ = some (.slice yA xp.length yc)) 8 (by kernel_rfl) (by kernel_rfl) ⟨d0, d1, d2, e0, e1, e2⟩ (fun hHeld => ?_)
      simp only [List.take, List.drop]
      refine wpAnyH_take (i := 0) (oi := _) (v := ?_) rfl (by kernel_rfl) (by kernel_rfl) (by kernel_rfl) (fun _ _ _ h => h) (Or.inl ⟨by rfl, ?_⟩) (by assumption) ?_
      rotate_left 1
      · (intro w9 hS9; (try dsimp only at hS9); go_simp <;> with_reducible rfl)
      try simp only [List.getElem_toArray, List.getElem_cons_succ, List.getElem_cons_zero, Act.put, List.setIfInBounds_toArray, List.set_cons_zero, List.set_cons_succ]
      refine wpAnyH_take (i := 1) (oi := _) (v := ?_) rfl (by kernel_rfl) (by kernel_rfl) (by kernel_rfl) (fun _ _ _ h => h) (Or.inl ⟨by rfl, ?_⟩) (by assumption) ?_
      rotate_left 1
      · (intro w9 hS9; (try dsimp only at hS9); go_simp <;> with_reducible rfl)
      try simp only [List.getElem_toArray, List.getElem_cons_succ, List.getElem_cons_zero, Act.put, List.setIfInBounds_toArray, List.set_cons_zero, List.set_cons_succ]
      refine wpAnyH_take (i := 2) (oi := _) (v := ?_) rfl (by kernel_rfl) (by kernel_rfl) (by kernel_rfl) (fun _ _ _ h => h) (Or.inl ⟨by rfl, ?_⟩) (by assumption) ?_
      rotate_left 1
      · (intro w9 hS9; (try dsimp only at hS9); go_simp <;> with_reducible rfl)
      try simp only [List.getElem_toArray, List.getElem_cons_succ, List.getElem_cons_zero, Act.put, List.setIfInBounds_toArray, List.set_cons_zero, List.set_cons_succ]
      refine wpAnyH_take (i := 3) (oi := _) (v := ?_) rfl (by kernel_rfl) (by kernel_rfl) (by kernel_rfl) (fun _ _ _ h => h) (Or.inl ⟨by rfl, ?_⟩) (by assumption) ?_
      rotate_left 1
      · (intro w9 hS9; (try dsimp only at hS9); go_simp <;> with_reducible rfl)
      try simp only [List.getElem_toArray, List.getElem_cons_succ, List.getElem_cons_zero, Act.put, List.setIfInBounds_toArray, List.set_cons_zero, List.set_cons_succ]
      refine wpAnyH_take (i := 4) (oi := _) (v := ?_) rfl (by kernel_rfl) (by kernel_rfl) (by kernel_rfl) (fun _ _ _ h => h) (Or.inl ⟨by rfl, ?_⟩) (by assumption) ?_
      rotate_left 1
      · (intro w9 hS9; (try dsimp only at hS9); go_simp <;> with_reducible rfl)
      try simp only [List.getElem_toArray, List.getElem_cons_succ, List.getElem_cons_zero, Act.put, List.setIfInBounds_toArray, List.set_cons_zero, List.set_cons_succ]
      refine wpAnyH_take (i := 5) (oi := _) (v := ?_) rfl (by kernel_rfl) (by kernel_rfl) (by kernel_rfl) (fun _ _ _ h => h) (Or.inl ⟨by rfl, ?_⟩) (by assumption) ?_
      rotate_left 1
      · (intro w9 hS9; (try dsimp only at hS9); go_simp <;> with_reducible rfl)
      try simp only [List.getElem_toArray, List.getElem_cons_succ, List.getElem_cons_zero, Act.put, List.setIfInBounds_toArray, List.set_cons_zero, List.set_cons_succ]
      refine wpAnyH_take (i := 6) (oi := _) (v := ?_) rfl (by kernel_rfl) (by kernel_rfl) (by kernel_rfl) (fun _ _ _ h => h) (Or.inl ⟨by rfl, ?_⟩) (by assumption) ?_
      rotate_left 1
      · (intro w9 hS9; (try dsimp only at hS9); go_simp <;> with_reducible rfl)
      try simp only [List.getElem_toArray, List.getElem_cons_succ, List.getElem_cons_zero, Act.put, List.setIfInBounds_toArray, List.set_cons_zero, List.set_cons_succ]
      refine wpAnyH_take (i := 7) (oi := _) (v := ?_) rfl (by kernel_rfl) (by kernel_rfl) (by kernel_rfl) (fun _ _ _ h => h) (Or.inl ⟨by rfl, ?_⟩) (by assumption) ?_
      rotate_left 1
      · (intro w9 hS9; (try dsimp only at hS9); go_simp <;> with_reducible rfl)
      try simp only [List.getElem_toArray, List.getElem_cons_succ, List.getElem_cons_zero, Act.put, List.setIfInBounds_toArray, List.set_cons_zero, List.set_cons_succ]
      refine wpAnyH_done (by kernel_rfl) ?_ _
      refine tailQ_step rfl ?_
      go_wp2_with fail
      refine (Same_any (xk : Nat) (xq : Nat) (xk : Nat) (xq : Nat) xp.length xc xp.length yc xA yA xp xp _ HP.out.1.drew HP.out.2.1.drew).mono ?_
      rintro e w7 ⟨rfl, hb7⟩
      rw [sameB_refl]
      go_wp2_with fail
      refine tailQ_step rfl ?_
      go_wp2_with fail
      refine tailQ_nil (panQ_normal ?_)
      go_wp2_with fail
      exact ⟨⟨k + 1, by omega, by go_num, HP.out.2.2.trans (((Below.refl _ wr).drew.trans hb7).mono HP.out.2.2.size)⟩, by simp [intOf]; omega⟩
    · go_wp2_with fail
      go_ret
      exact ⟨rfl, hb⟩
end Go.Proofs.Ytbiiahbhgjjhgaa
