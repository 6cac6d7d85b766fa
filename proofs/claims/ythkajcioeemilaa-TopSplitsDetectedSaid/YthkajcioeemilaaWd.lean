/- The walk of role.Check: a site in order. No condition. -/
import Derived.Test.YthkajcioeemilaaWc
import Derived.Test.YthkajcioeemilaaLibX
import Derived.Test.YthkajcioeemilaaLibP
namespace Go.Proofs.Ythkajcioeemilaa
open Go.RowKit
/-- a site -/
structure Si where
  num : Int
  role : Int
  ep : Int
  ap : Int
  l : List Sp
  src : Int
  al : Bool
  co : Bool
def siV (s : Si) (A : Option Addr) (c : Nat) : Array Value := #[.int .i64 s.num, .int .i64 s.role, .int .i64 s.ep, .int .i64 s.ap, .slice A s.l.length c, .int .i64 s.src, .bool s.al, .bool s.co]
/-- a site in order -/
structure SiOk (s : Si) : Prop where
  num : 0 ≤ s.num ∧ s.num ≤ 3
  role : 0 ≤ s.role ∧ s.role ≤ 5
  ep : 0 ≤ s.ep ∧ s.ep ≤ 1073741824
  ap : 0 ≤ s.ap ∧ s.ap ≤ 1073741824
  none : s.ep = 0 → s.role = 0
  len : s.l.length ≤ 100
  cor : CorF 0 0 s.l
  he : (hdS s.l).e ≤ s.ep
  ht : (hdS s.l).t = s.ap
  src : if recvB s.role = true then (0 ≤ s.src ∧ s.src ≤ 3) ∧ s.src ≠ s.num else s.src = -1
def SiR (w : World) (A : Option Addr) (s : Si) : Prop := Reads w w.heap.size 3 A s.l.length (s.l.flatMap encSp)
theorem SiR.up {w w' : World} {A : Option Addr} {s : Si} (h : SiR w A s) (hb : Below w.heap.size w w') : SiR w' A s := Reads.up h hb
set_option linter.unusedSimpArgs false in
set_option maxRecDepth 100000 in
set_option maxHeartbeats 4000000 in
theorem other_yes (s : Si) (A : Option Addr) (c : Nat) (n : Int) (h : 0 ≤ n ∧ n ≤ 3) (hne : n ≠ s.num) (w : World) : Calls Try.prog 33 #[.agg (siV s A c), .int .i64 n] w fun x w' => x = .returned (.bool true) ∧ Below w.heap.size w w' := by
  obtain ⟨num, role, ep, ap, l, src, al, co⟩ := s
  unfold siV
  dsimp only at hne ⊢
  have b0 := Blk.new w 34 #[.int .i64 num, .int .i64 role, .int .i64 ep, .int .i64 ap, .slice A l.length c, .int .i64 src, .bool al, .bool co]
  have hb0 : Below w.heap.size w (w.alloc (.cells #[.int .i64 num, .int .i64 role, .int .i64 ep, .int .i64 ap, .slice A l.length c, .int .i64 src, .bool al, .bool co] 34)) := (Below.refl _ w).alloc (Nat.le_refl _) _
  have HB := Lib.hid (And.intro b0 hb0)
  clear b0 hb0
  go_enter Try.func33, Try.ntmps33
  go_upto_region 1 with fail
  generalize (w.alloc (.cells #[.int .i64 num, .int .i64 role, .int .i64 ep, .int .i64 ap, .slice A l.length c, .int .i64 src, .bool al, .bool co] 34)) = V at *
  have x0 := HB.out.1.cell 0
  have kn : (n != num) = true := by simp [hne]
  go_wp2_with fail
  refine (in_yes n 0 3 h V).mono ?_
  rintro _ _ ⟨rfl, rfl⟩
  go_wp2_with fail
  go_ret
  exact ⟨rfl, HB.out.2⟩
theorem fld0 : ∀ (e f t : Int) (w : World), (Instr.field 65 (.agg #[.int .i64 e, .int .i64 f, .int .i64 t]) 0).run Try.prog w = .ok (.int .i64 e) w := by
  intro e f t w
  kernel_rfl
theorem fld2 : ∀ (e f t : Int) (w : World), (Instr.field 65 (.agg #[.int .i64 e, .int .i64 f, .int .i64 t]) 2).run Try.prog w = .ok (.int .i64 t) w := by
  intro e f t w
  kernel_rfl
set_option linter.unusedSimpArgs false in
set_option maxRecDepth 100000 in
set_option maxHeartbeats 4000000 in
theorem Check_ok (s : Si) (A : Option Addr) (c : Nat) (w : World) (hR : SiR w A s) (h : SiOk s) : Calls Try.prog 25 #[.agg (siV s A c)] w fun x w' => x = .returned (.int .i64 0) ∧ Below w.heap.size w w' := by
  have HS := Lib.hid (And.intro hR h)
  have hf0 := fld0
  have hf2 := fld2
  obtain ⟨h1, h2, h3, h4, h5, h6, h7, h8, h9, h10⟩ := h
  clear hR h6 h7
  obtain ⟨num, role, ep, ap, l, src, al, co⟩ := s
  unfold siV
  dsimp only at h1 h2 h3 h4 h5 h8 h9 h10 ⊢
  have b0 := Blk.new w 34 #[.int .i64 num, .int .i64 role, .int .i64 ep, .int .i64 ap, .slice A l.length c, .int .i64 src, .bool al, .bool co]
  have hb0 : Below w.heap.size w (w.alloc (.cells #[.int .i64 num, .int .i64 role, .int .i64 ep, .int .i64 ap, .slice A l.length c, .int .i64 src, .bool al, .bool co] 34)) := (Below.refl _ w).alloc (Nat.le_refl _) _
  have HB := Lib.hid (And.intro b0 hb0)
  have H8 := Lib.hid (And.intro h8 (And.intro h9 (And.intro h5 h10)))
  clear b0 hb0 h8 h9 h5 h10
  go_enter Try.func25, Try.ntmps25
  go_upto_region 1 with fail
  generalize (w.alloc (.cells #[.int .i64 num, .int .i64 role, .int .i64 ep, .int .i64 ap, .slice A l.length c, .int .i64 src, .bool al, .bool co] 34)) = V at *
  have x0 := HB.out.1.cell 0
  have x1 := HB.out.1.cell 1
  have x2 := HB.out.1.cell 2
  have x3 := HB.out.1.cell 3
  have x4 := HB.out.1.cell 4
  have x5 := HB.out.1.cell 5
  have x6 := HB.out.1.cell 6
  have x7 := HB.out.1.cell 7
  go_wp2_with fail
  refine (in_yes num 0 3 h1 V).mono ?_
  rintro _ _ ⟨rfl, rfl⟩
  go_wp2_with fail
  refine (in_yes role 0 5 h2 V).mono ?_
  rintro _ _ ⟨rfl, rfl⟩
  go_wp2_with fail
  refine (in_yes ep 0 1073741824 h3 V).mono ?_
  rintro _ _ ⟨rfl, rfl⟩
  go_wp2_with fail
  refine (in_yes ap 0 1073741824 h4 V).mono ?_
  rintro _ _ ⟨rfl, rfl⟩
  by_cases hz : ep = 0
  · subst hz
    have hr0 := H8.out.2.2.1 rfl
    subst hr0
    go_wp2_with fail
    have HG := Lib.hid HB.out.1
    have HW := Lib.hid HB.out.2
    have hl := HG.out.lt
    refine (rcorrect_ok V A c l (HS.out.1.up HB.out.2) (by have := HS.out.2.len; dsimp only at this; omega) HS.out.2.cor).mono ?_
    rintro z w1 ⟨rfl, hb1⟩
    have hG := HG.out.below hb1 hl
    have HW := Lib.hid (HW.out.trans (hb1.mono HW.out.size))
    have HG := Lib.hid hG
    have hl := HG.out.lt
    clear hG hb1 x0 x1 x2 x3 x4 x5 x6 x7
    have x0 := HG.out.cell 0
    have x1 := HG.out.cell 1
    have x2 := HG.out.cell 2
    have x3 := HG.out.cell 3
    have x4 := HG.out.cell 4
    have x5 := HG.out.cell 5
    have x6 := HG.out.cell 6
    have x7 := HG.out.cell 7
    go_upto_region 11 with fail
    refine wp_pan (Pc := fun _ _ _ => False) (fun _ _ _ h => h.elim) ?_
    refine wp_region_tail_lit (S := fun V => V.cell? ⟨w.heap.size, 2, none⟩ = some (.int .i64 0) ∧ V.cell? ⟨w.heap.size, 3, none⟩ = some (.int .i64 ap) ∧ V.cell? ⟨w.heap.size, 4, none⟩ = some (.slice A l.length c)) 7 (by kernel_rfl) (by kernel_rfl) ⟨(((Below.refl w1.heap.size w1).drew).cell (p := ⟨w.heap.size, 2, none⟩) hl).trans x2, (((Below.refl w1.heap.size w1).drew).cell (p := ⟨w.heap.size, 3, none⟩) hl).trans x3, (((Below.refl w1.heap.size w1).drew).cell (p := ⟨w.heap.size, 4, none⟩) hl).trans x4⟩ (fun hHeld => ?_)
    simp only [List.take, List.drop]
    refine wpAnyH_take (i := 0) (oi := _) (v := ?_) rfl (by kernel_rfl) (by kernel_rfl) (by kernel_rfl) (fun _ _ _ h => h) (Or.inl ⟨by rfl, ?_⟩) (by assumption) ?_
    rotate_left 1
    · (intro w9 hS9; (try dsimp only at hS9); go_simp <;> with_reducible rfl)
    try simp only [List.getElem_toArray, List.getElem_cons_succ, List.getElem_cons_zero, Act.put, List.setIfInBounds_toArray, List.set_cons_zero, List.set_cons_succ]
    refine wpAnyH_take (i := 1) (oi := _) (v := ?_) rfl (by kernel_rfl) (by kernel_rfl) (by kernel_rfl) (fun _ _ _ h => h) (Or.inl ⟨by rfl, ?_⟩) (by assumption) ?_
    rotate_left 1
    · (intro w9 hS9; (try dsimp only at hS9); go_simp <;> with_reducible rfl)
    try simp only [List.getElem_toArray, List.getElem_cons_succ, List.getElem_cons_zero, Act.put, List.setIfInBounds_toArray, List.set_cons_zero, List.set_cons_succ]
    refine wpAnyH_take (i := 4) (oi := _) (v := ?_) rfl (by kernel_rfl) (by kernel_rfl) (by kernel_rfl) (fun _ _ _ h => h) (Or.inl ⟨by rfl, ?_⟩) (by assumption) ?_
    rotate_left 1
    · (intro w9 hS9; (try dsimp only at hS9); go_simp <;> with_reducible rfl)
    try simp only [List.getElem_toArray, List.getElem_cons_succ, List.getElem_cons_zero, Act.put, List.setIfInBounds_toArray, List.set_cons_zero, List.set_cons_succ]
    refine wpAnyH_take (i := 5) (oi := _) (v := ?_) rfl (by kernel_rfl) (by kernel_rfl) (by kernel_rfl) (fun _ _ _ h => h) (Or.inl ⟨by rfl, ?_⟩) (by assumption) ?_
    rotate_left 1
    · (intro w9 hS9; (try dsimp only at hS9); go_simp <;> with_reducible rfl)
    try simp only [List.getElem_toArray, List.getElem_cons_succ, List.getElem_cons_zero, Act.put, List.setIfInBounds_toArray, List.set_cons_zero, List.set_cons_succ]
    refine wpAnyH_ready (rs := [2]) (by kernel_rfl) (by simp) ?_
    refine AllReadyH.cons (o := _) rfl (fun K hK => ?_) AllReadyH.nil
    try simp only [List.getElem_toArray, List.getElem_cons_succ, List.getElem_cons_zero]
    try rw [if_pos (show Region.wanted _ _ = true from rfl)]
    go_simp
    refine (head_ok w1.drew A c l (HS.out.1.up (HW.out.drew)) (by have := HS.out.2.len; dsimp only at this; omega)).mono ?_
    rintro x wy ⟨rfl, hby⟩
    have hwy : Below w1.heap.size w1 wy := ((Below.refl _ w1).drew).trans hby
    go_wp2_with fail
    refine hK.out _ _ ⟨(hwy.cell (p := ⟨w.heap.size, 2, none⟩) hl).trans x2, (hwy.cell (p := ⟨w.heap.size, 3, none⟩) hl).trans x3, (hwy.cell (p := ⟨w.heap.size, 4, none⟩) hl).trans x4⟩ (fun hHeld => ?_)
    clear hK K
    try simp only [List.getElem_toArray, List.getElem_cons_succ, List.getElem_cons_zero, Act.put, List.setIfInBounds_toArray, List.set_cons_zero, List.set_cons_succ]
    refine wpAnyH_take (i := 3) (oi := _) (v := ?_) rfl (by kernel_rfl) (by kernel_rfl) (by kernel_rfl) (fun _ _ _ h => h) (Or.inl ⟨by rfl, ?_⟩) (by assumption) ?_
    rotate_left 1
    · (intro w9 hS9; (try dsimp only at hS9); go_simp <;> with_reducible rfl)
    try simp only [List.getElem_toArray, List.getElem_cons_succ, List.getElem_cons_zero, Act.put, List.setIfInBounds_toArray, List.set_cons_zero, List.set_cons_succ]
    refine wpAnyH_take (i := 6) (oi := _) (v := ?_) rfl (by kernel_rfl) (by kernel_rfl) (by kernel_rfl) (fun _ _ _ h => h) (Or.inl ⟨by rfl, ?_⟩) (by assumption) ?_
    rotate_left 1
    · (intro w9 hS9; (try dsimp only at hS9); go_simp <;> with_reducible rfl)
    try simp only [List.getElem_toArray, List.getElem_cons_succ, List.getElem_cons_zero, Act.put, List.setIfInBounds_toArray, List.set_cons_zero, List.set_cons_succ]
    refine wpAnyH_done (by kernel_rfl) ?_ _
    refine tailQ_step rfl ?_
    go_wp2_with fail
    refine tailQ_nil (panQ_normal ?_)
    have hG := HG.out.below hwy hl
    have HW := Lib.hid (HW.out.trans (hwy.mono HW.out.size))
    have HG := Lib.hid hG
    have hl := HG.out.lt
    clear hG hwy x0 x1 x2 x3 x4 x5 x6 x7
    have x0 := HG.out.cell 0
    have x1 := HG.out.cell 1
    have x2 := HG.out.cell 2
    have x3 := HG.out.cell 3
    have x4 := HG.out.cell 4
    have x5 := HG.out.cell 5
    have x6 := HG.out.cell 6
    have x7 := HG.out.cell 7
    have k8 : ¬ 0 < (hdS l).e := by have := H8.out.1; omega
    go_upto_region 13 with fail
    generalize wy = w2 at *
    refine wp_pan (Pc := fun _ _ _ => False) (fun _ _ _ h => h.elim) ?_
    refine wp_region_tail_lit (S := fun V => V.cell? ⟨w.heap.size, 2, none⟩ = some (.int .i64 0) ∧ V.cell? ⟨w.heap.size, 3, none⟩ = some (.int .i64 ap) ∧ V.cell? ⟨w.heap.size, 4, none⟩ = some (.slice A l.length c)) 7 (by kernel_rfl) (by kernel_rfl) ⟨(((Below.refl w2.heap.size w2).drew).cell (p := ⟨w.heap.size, 2, none⟩) hl).trans x2, (((Below.refl w2.heap.size w2).drew).cell (p := ⟨w.heap.size, 3, none⟩) hl).trans x3, (((Below.refl w2.heap.size w2).drew).cell (p := ⟨w.heap.size, 4, none⟩) hl).trans x4⟩ (fun hHeld => ?_)
    simp only [List.take, List.drop]
    refine wpAnyH_take (i := 0) (oi := _) (v := ?_) rfl (by kernel_rfl) (by kernel_rfl) (by kernel_rfl) (fun _ _ _ h => h) (Or.inl ⟨by rfl, ?_⟩) (by assumption) ?_
    rotate_left 1
    · (intro w9 hS9; (try dsimp only at hS9); go_simp <;> with_reducible rfl)
    try simp only [List.getElem_toArray, List.getElem_cons_succ, List.getElem_cons_zero, Act.put, List.setIfInBounds_toArray, List.set_cons_zero, List.set_cons_succ]
    refine wpAnyH_take (i := 1) (oi := _) (v := ?_) rfl (by kernel_rfl) (by kernel_rfl) (by kernel_rfl) (fun _ _ _ h => h) (Or.inl ⟨by rfl, ?_⟩) (by assumption) ?_
    rotate_left 1
    · (intro w9 hS9; (try dsimp only at hS9); go_simp <;> with_reducible rfl)
    try simp only [List.getElem_toArray, List.getElem_cons_succ, List.getElem_cons_zero, Act.put, List.setIfInBounds_toArray, List.set_cons_zero, List.set_cons_succ]
    refine wpAnyH_take (i := 4) (oi := _) (v := ?_) rfl (by kernel_rfl) (by kernel_rfl) (by kernel_rfl) (fun _ _ _ h => h) (Or.inl ⟨by rfl, ?_⟩) (by assumption) ?_
    rotate_left 1
    · (intro w9 hS9; (try dsimp only at hS9); go_simp <;> with_reducible rfl)
    try simp only [List.getElem_toArray, List.getElem_cons_succ, List.getElem_cons_zero, Act.put, List.setIfInBounds_toArray, List.set_cons_zero, List.set_cons_succ]
    refine wpAnyH_take (i := 5) (oi := _) (v := ?_) rfl (by kernel_rfl) (by kernel_rfl) (by kernel_rfl) (fun _ _ _ h => h) (Or.inl ⟨by rfl, ?_⟩) (by assumption) ?_
    rotate_left 1
    · (intro w9 hS9; (try dsimp only at hS9); go_simp <;> with_reducible rfl)
    try simp only [List.getElem_toArray, List.getElem_cons_succ, List.getElem_cons_zero, Act.put, List.setIfInBounds_toArray, List.set_cons_zero, List.set_cons_succ]
    refine wpAnyH_ready (rs := [2]) (by kernel_rfl) (by simp) ?_
    refine AllReadyH.cons (o := _) rfl (fun K hK => ?_) AllReadyH.nil
    try simp only [List.getElem_toArray, List.getElem_cons_succ, List.getElem_cons_zero]
    try rw [if_pos (show Region.wanted _ _ = true from rfl)]
    go_simp
    refine (head_ok w2.drew A c l (HS.out.1.up (HW.out.drew)) (by have := HS.out.2.len; dsimp only at this; omega)).mono ?_
    rintro x wy ⟨rfl, hby⟩
    have hwy : Below w2.heap.size w2 wy := ((Below.refl _ w2).drew).trans hby
    go_wp2_with fail
    refine hK.out _ _ ⟨(hwy.cell (p := ⟨w.heap.size, 2, none⟩) hl).trans x2, (hwy.cell (p := ⟨w.heap.size, 3, none⟩) hl).trans x3, (hwy.cell (p := ⟨w.heap.size, 4, none⟩) hl).trans x4⟩ (fun hHeld => ?_)
    clear hK K
    try simp only [List.getElem_toArray, List.getElem_cons_succ, List.getElem_cons_zero, Act.put, List.setIfInBounds_toArray, List.set_cons_zero, List.set_cons_succ]
    refine wpAnyH_take (i := 3) (oi := _) (v := ?_) rfl (by kernel_rfl) (by kernel_rfl) (by kernel_rfl) (fun _ _ _ h => h) (Or.inl ⟨by rfl, ?_⟩) (by assumption) ?_
    rotate_left 1
    · (intro w9 hS9; (try dsimp only at hS9); go_simp <;> with_reducible rfl)
    try simp only [List.getElem_toArray, List.getElem_cons_succ, List.getElem_cons_zero, Act.put, List.setIfInBounds_toArray, List.set_cons_zero, List.set_cons_succ]
    refine wpAnyH_take (i := 6) (oi := _) (v := ?_) rfl (by kernel_rfl) (by kernel_rfl) (by kernel_rfl) (fun _ _ _ h => h) (Or.inl ⟨by rfl, ?_⟩) (by assumption) ?_
    rotate_left 1
    · (intro w9 hS9; (try dsimp only at hS9); go_simp <;> with_reducible rfl)
    try simp only [List.getElem_toArray, List.getElem_cons_succ, List.getElem_cons_zero, Act.put, List.setIfInBounds_toArray, List.set_cons_zero, List.set_cons_succ]
    refine wpAnyH_done (by kernel_rfl) ?_ _
    refine tailQ_step rfl ?_
    go_wp2_with fail
    refine tailQ_nil (panQ_normal ?_)
    have hG := HG.out.below hwy hl
    have HW := Lib.hid (HW.out.trans (hwy.mono HW.out.size))
    have HG := Lib.hid hG
    have hl := HG.out.lt
    clear hG hwy x0 x1 x2 x3 x4 x5 x6 x7
    have x0 := HG.out.cell 0
    have x1 := HG.out.cell 1
    have x2 := HG.out.cell 2
    have x3 := HG.out.cell 3
    have x4 := HG.out.cell 4
    have x5 := HG.out.cell 5
    have x6 := HG.out.cell 6
    have x7 := HG.out.cell 7
    have k9 : ((hdS l).t != ap) = false := by rw [H8.out.2.1]; simp
    go_wp2_with fail
    refine (recv_any 0 wy).mono ?_
    rintro _ _ ⟨rfl, rfl⟩
    have hr : recvB 0 = false := rfl
    have hs9 := H8.out.2.2.2
    rw [hr, if_neg (by simp)] at hs9
    subst hs9
    rw [hr]
    go_wp2_with fail
    refine (recv_any 0 wy).mono ?_
    rintro _ _ ⟨rfl, rfl⟩
    rw [hr]
    go_wp2_with fail
    go_ret
    exact ⟨rfl, HW.out⟩
  · have kz : (ep == 0) = false := by rw [beq_eq_false_iff_ne]; exact hz
    go_wp2_with fail
    have HG := Lib.hid HB.out.1
    have HW := Lib.hid HB.out.2
    have hl := HG.out.lt
    refine (rcorrect_ok V A c l (HS.out.1.up HB.out.2) (by have := HS.out.2.len; dsimp only at this; omega) HS.out.2.cor).mono ?_
    rintro z w1 ⟨rfl, hb1⟩
    have hG := HG.out.below hb1 hl
    have HW := Lib.hid (HW.out.trans (hb1.mono HW.out.size))
    have HG := Lib.hid hG
    have hl := HG.out.lt
    clear hG hb1 x0 x1 x2 x3 x4 x5 x6 x7
    have x0 := HG.out.cell 0
    have x1 := HG.out.cell 1
    have x2 := HG.out.cell 2
    have x3 := HG.out.cell 3
    have x4 := HG.out.cell 4
    have x5 := HG.out.cell 5
    have x6 := HG.out.cell 6
    have x7 := HG.out.cell 7
    go_upto_region 11 with fail
    refine wp_pan (Pc := fun _ _ _ => False) (fun _ _ _ h => h.elim) ?_
    refine wp_region_tail_lit (S := fun V => V.cell? ⟨w.heap.size, 2, none⟩ = some (.int .i64 ep) ∧ V.cell? ⟨w.heap.size, 3, none⟩ = some (.int .i64 ap) ∧ V.cell? ⟨w.heap.size, 4, none⟩ = some (.slice A l.length c)) 7 (by kernel_rfl) (by kernel_rfl) ⟨(((Below.refl w1.heap.size w1).drew).cell (p := ⟨w.heap.size, 2, none⟩) hl).trans x2, (((Below.refl w1.heap.size w1).drew).cell (p := ⟨w.heap.size, 3, none⟩) hl).trans x3, (((Below.refl w1.heap.size w1).drew).cell (p := ⟨w.heap.size, 4, none⟩) hl).trans x4⟩ (fun hHeld => ?_)
    simp only [List.take, List.drop]
    refine wpAnyH_take (i := 0) (oi := _) (v := ?_) rfl (by kernel_rfl) (by kernel_rfl) (by kernel_rfl) (fun _ _ _ h => h) (Or.inl ⟨by rfl, ?_⟩) (by assumption) ?_
    rotate_left 1
    · (intro w9 hS9; (try dsimp only at hS9); go_simp <;> with_reducible rfl)
    try simp only [List.getElem_toArray, List.getElem_cons_succ, List.getElem_cons_zero, Act.put, List.setIfInBounds_toArray, List.set_cons_zero, List.set_cons_succ]
    refine wpAnyH_take (i := 1) (oi := _) (v := ?_) rfl (by kernel_rfl) (by kernel_rfl) (by kernel_rfl) (fun _ _ _ h => h) (Or.inl ⟨by rfl, ?_⟩) (by assumption) ?_
    rotate_left 1
    · (intro w9 hS9; (try dsimp only at hS9); go_simp <;> with_reducible rfl)
    try simp only [List.getElem_toArray, List.getElem_cons_succ, List.getElem_cons_zero, Act.put, List.setIfInBounds_toArray, List.set_cons_zero, List.set_cons_succ]
    refine wpAnyH_take (i := 4) (oi := _) (v := ?_) rfl (by kernel_rfl) (by kernel_rfl) (by kernel_rfl) (fun _ _ _ h => h) (Or.inl ⟨by rfl, ?_⟩) (by assumption) ?_
    rotate_left 1
    · (intro w9 hS9; (try dsimp only at hS9); go_simp <;> with_reducible rfl)
    try simp only [List.getElem_toArray, List.getElem_cons_succ, List.getElem_cons_zero, Act.put, List.setIfInBounds_toArray, List.set_cons_zero, List.set_cons_succ]
    refine wpAnyH_take (i := 5) (oi := _) (v := ?_) rfl (by kernel_rfl) (by kernel_rfl) (by kernel_rfl) (fun _ _ _ h => h) (Or.inl ⟨by rfl, ?_⟩) (by assumption) ?_
    rotate_left 1
    · (intro w9 hS9; (try dsimp only at hS9); go_simp <;> with_reducible rfl)
    try simp only [List.getElem_toArray, List.getElem_cons_succ, List.getElem_cons_zero, Act.put, List.setIfInBounds_toArray, List.set_cons_zero, List.set_cons_succ]
    refine wpAnyH_ready (rs := [2]) (by kernel_rfl) (by simp) ?_
    refine AllReadyH.cons (o := _) rfl (fun K hK => ?_) AllReadyH.nil
    try simp only [List.getElem_toArray, List.getElem_cons_succ, List.getElem_cons_zero]
    try rw [if_pos (show Region.wanted _ _ = true from rfl)]
    go_simp
    refine (head_ok w1.drew A c l (HS.out.1.up (HW.out.drew)) (by have := HS.out.2.len; dsimp only at this; omega)).mono ?_
    rintro x wy ⟨rfl, hby⟩
    have hwy : Below w1.heap.size w1 wy := ((Below.refl _ w1).drew).trans hby
    go_wp2_with fail
    refine hK.out _ _ ⟨(hwy.cell (p := ⟨w.heap.size, 2, none⟩) hl).trans x2, (hwy.cell (p := ⟨w.heap.size, 3, none⟩) hl).trans x3, (hwy.cell (p := ⟨w.heap.size, 4, none⟩) hl).trans x4⟩ (fun hHeld => ?_)
    clear hK K
    try simp only [List.getElem_toArray, List.getElem_cons_succ, List.getElem_cons_zero, Act.put, List.setIfInBounds_toArray, List.set_cons_zero, List.set_cons_succ]
    refine wpAnyH_take (i := 3) (oi := _) (v := ?_) rfl (by kernel_rfl) (by kernel_rfl) (by kernel_rfl) (fun _ _ _ h => h) (Or.inl ⟨by rfl, ?_⟩) (by assumption) ?_
    rotate_left 1
    · (intro w9 hS9; (try dsimp only at hS9); go_simp <;> with_reducible rfl)
    try simp only [List.getElem_toArray, List.getElem_cons_succ, List.getElem_cons_zero, Act.put, List.setIfInBounds_toArray, List.set_cons_zero, List.set_cons_succ]
    refine wpAnyH_take (i := 6) (oi := _) (v := ?_) rfl (by kernel_rfl) (by kernel_rfl) (by kernel_rfl) (fun _ _ _ h => h) (Or.inl ⟨by rfl, ?_⟩) (by assumption) ?_
    rotate_left 1
    · (intro w9 hS9; (try dsimp only at hS9); go_simp <;> with_reducible rfl)
    try simp only [List.getElem_toArray, List.getElem_cons_succ, List.getElem_cons_zero, Act.put, List.setIfInBounds_toArray, List.set_cons_zero, List.set_cons_succ]
    refine wpAnyH_done (by kernel_rfl) ?_ _
    refine tailQ_step rfl ?_
    go_wp2_with fail
    refine tailQ_nil (panQ_normal ?_)
    have hG := HG.out.below hwy hl
    have HW := Lib.hid (HW.out.trans (hwy.mono HW.out.size))
    have HG := Lib.hid hG
    have hl := HG.out.lt
    clear hG hwy x0 x1 x2 x3 x4 x5 x6 x7
    have x0 := HG.out.cell 0
    have x1 := HG.out.cell 1
    have x2 := HG.out.cell 2
    have x3 := HG.out.cell 3
    have x4 := HG.out.cell 4
    have x5 := HG.out.cell 5
    have x6 := HG.out.cell 6
    have x7 := HG.out.cell 7
    have k8 : ¬ ep < (hdS l).e := by have := H8.out.1; omega
    go_upto_region 13 with fail
    generalize wy = w2 at *
    refine wp_pan (Pc := fun _ _ _ => False) (fun _ _ _ h => h.elim) ?_
    refine wp_region_tail_lit (S := fun V => V.cell? ⟨w.heap.size, 2, none⟩ = some (.int .i64 ep) ∧ V.cell? ⟨w.heap.size, 3, none⟩ = some (.int .i64 ap) ∧ V.cell? ⟨w.heap.size, 4, none⟩ = some (.slice A l.length c)) 7 (by kernel_rfl) (by kernel_rfl) ⟨(((Below.refl w2.heap.size w2).drew).cell (p := ⟨w.heap.size, 2, none⟩) hl).trans x2, (((Below.refl w2.heap.size w2).drew).cell (p := ⟨w.heap.size, 3, none⟩) hl).trans x3, (((Below.refl w2.heap.size w2).drew).cell (p := ⟨w.heap.size, 4, none⟩) hl).trans x4⟩ (fun hHeld => ?_)
    simp only [List.take, List.drop]
    refine wpAnyH_take (i := 0) (oi := _) (v := ?_) rfl (by kernel_rfl) (by kernel_rfl) (by kernel_rfl) (fun _ _ _ h => h) (Or.inl ⟨by rfl, ?_⟩) (by assumption) ?_
    rotate_left 1
    · (intro w9 hS9; (try dsimp only at hS9); go_simp <;> with_reducible rfl)
    try simp only [List.getElem_toArray, List.getElem_cons_succ, List.getElem_cons_zero, Act.put, List.setIfInBounds_toArray, List.set_cons_zero, List.set_cons_succ]
    refine wpAnyH_take (i := 1) (oi := _) (v := ?_) rfl (by kernel_rfl) (by kernel_rfl) (by kernel_rfl) (fun _ _ _ h => h) (Or.inl ⟨by rfl, ?_⟩) (by assumption) ?_
    rotate_left 1
    · (intro w9 hS9; (try dsimp only at hS9); go_simp <;> with_reducible rfl)
    try simp only [List.getElem_toArray, List.getElem_cons_succ, List.getElem_cons_zero, Act.put, List.setIfInBounds_toArray, List.set_cons_zero, List.set_cons_succ]
    refine wpAnyH_take (i := 4) (oi := _) (v := ?_) rfl (by kernel_rfl) (by kernel_rfl) (by kernel_rfl) (fun _ _ _ h => h) (Or.inl ⟨by rfl, ?_⟩) (by assumption) ?_
    rotate_left 1
    · (intro w9 hS9; (try dsimp only at hS9); go_simp <;> with_reducible rfl)
    try simp only [List.getElem_toArray, List.getElem_cons_succ, List.getElem_cons_zero, Act.put, List.setIfInBounds_toArray, List.set_cons_zero, List.set_cons_succ]
    refine wpAnyH_take (i := 5) (oi := _) (v := ?_) rfl (by kernel_rfl) (by kernel_rfl) (by kernel_rfl) (fun _ _ _ h => h) (Or.inl ⟨by rfl, ?_⟩) (by assumption) ?_
    rotate_left 1
    · (intro w9 hS9; (try dsimp only at hS9); go_simp <;> with_reducible rfl)
    try simp only [List.getElem_toArray, List.getElem_cons_succ, List.getElem_cons_zero, Act.put, List.setIfInBounds_toArray, List.set_cons_zero, List.set_cons_succ]
    refine wpAnyH_ready (rs := [2]) (by kernel_rfl) (by simp) ?_
    refine AllReadyH.cons (o := _) rfl (fun K hK => ?_) AllReadyH.nil
    try simp only [List.getElem_toArray, List.getElem_cons_succ, List.getElem_cons_zero]
    try rw [if_pos (show Region.wanted _ _ = true from rfl)]
    go_simp
    refine (head_ok w2.drew A c l (HS.out.1.up (HW.out.drew)) (by have := HS.out.2.len; dsimp only at this; omega)).mono ?_
    rintro x wy ⟨rfl, hby⟩
    have hwy : Below w2.heap.size w2 wy := ((Below.refl _ w2).drew).trans hby
    go_wp2_with fail
    refine hK.out _ _ ⟨(hwy.cell (p := ⟨w.heap.size, 2, none⟩) hl).trans x2, (hwy.cell (p := ⟨w.heap.size, 3, none⟩) hl).trans x3, (hwy.cell (p := ⟨w.heap.size, 4, none⟩) hl).trans x4⟩ (fun hHeld => ?_)
    clear hK K
    try simp only [List.getElem_toArray, List.getElem_cons_succ, List.getElem_cons_zero, Act.put, List.setIfInBounds_toArray, List.set_cons_zero, List.set_cons_succ]
    refine wpAnyH_take (i := 3) (oi := _) (v := ?_) rfl (by kernel_rfl) (by kernel_rfl) (by kernel_rfl) (fun _ _ _ h => h) (Or.inl ⟨by rfl, ?_⟩) (by assumption) ?_
    rotate_left 1
    · (intro w9 hS9; (try dsimp only at hS9); go_simp <;> with_reducible rfl)
    try simp only [List.getElem_toArray, List.getElem_cons_succ, List.getElem_cons_zero, Act.put, List.setIfInBounds_toArray, List.set_cons_zero, List.set_cons_succ]
    refine wpAnyH_take (i := 6) (oi := _) (v := ?_) rfl (by kernel_rfl) (by kernel_rfl) (by kernel_rfl) (fun _ _ _ h => h) (Or.inl ⟨by rfl, ?_⟩) (by assumption) ?_
    rotate_left 1
    · (intro w9 hS9; (try dsimp only at hS9); go_simp <;> with_reducible rfl)
    try simp only [List.getElem_toArray, List.getElem_cons_succ, List.getElem_cons_zero, Act.put, List.setIfInBounds_toArray, List.set_cons_zero, List.set_cons_succ]
    refine wpAnyH_done (by kernel_rfl) ?_ _
    refine tailQ_step rfl ?_
    go_wp2_with fail
    refine tailQ_nil (panQ_normal ?_)
    have hG := HG.out.below hwy hl
    have HW := Lib.hid (HW.out.trans (hwy.mono HW.out.size))
    have HG := Lib.hid hG
    have hl := HG.out.lt
    clear hG hwy x0 x1 x2 x3 x4 x5 x6 x7
    have x0 := HG.out.cell 0
    have x1 := HG.out.cell 1
    have x2 := HG.out.cell 2
    have x3 := HG.out.cell 3
    have x4 := HG.out.cell 4
    have x5 := HG.out.cell 5
    have x6 := HG.out.cell 6
    have x7 := HG.out.cell 7
    have k9 : ((hdS l).t != ap) = false := by rw [H8.out.2.1]; simp
    go_wp2_with fail
    refine (recv_any role wy).mono ?_
    rintro _ _ ⟨rfl, rfl⟩
    have hs9 := H8.out.2.2.2
    cases hr : recvB role with
    | true =>
      rw [hr, if_pos rfl] at hs9
      go_wp2_with fail
      refine (other_yes ⟨num, role, ep, ap, l, src, al, co⟩ A c src hs9.1 hs9.2 wy).mono ?_
      rintro z w3 ⟨rfl, hb3⟩
      have hG := HG.out.below hb3 hl
      have HW := Lib.hid (HW.out.trans (hb3.mono HW.out.size))
      have HG := Lib.hid hG
      have hl := HG.out.lt
      clear hG hb3 x0 x1 x2 x3 x4 x5 x6 x7
      have x0 := HG.out.cell 0
      have x1 := HG.out.cell 1
      have x2 := HG.out.cell 2
      have x3 := HG.out.cell 3
      have x4 := HG.out.cell 4
      have x5 := HG.out.cell 5
      have x6 := HG.out.cell 6
      have x7 := HG.out.cell 7
      go_wp2_with fail
      refine (recv_any role w3).mono ?_
      rintro _ _ ⟨rfl, rfl⟩
      rw [hr]
      go_wp2_with fail
      go_ret
      exact ⟨rfl, HW.out⟩
    | false =>
      rw [hr, if_neg (by simp)] at hs9
      subst hs9
      go_wp2_with fail
      refine (recv_any role wy).mono ?_
      rintro _ _ ⟨rfl, rfl⟩
      rw [hr]
      go_wp2_with fail
      go_ret
      exact ⟨rfl, HW.out⟩
end Go.Proofs.Ythkajcioeemilaa
