/- A step in which a request reaches the witness. Conditions: the state in order. -/
import Derived.Test.YtggaaajkbnhofaaWn
namespace Go.Proofs.Ytggaaajkbnhofaa
open Go.RowKit
theorem blk_ne {W : World} {b b' : Nat} {t t' : TypeId} {cs cs' : Array Value} (h : Blk W b t cs) (h' : Blk W b' t' cs') (ht : t ≠ t') : b ≠ b' := by
  intro e
  subst e
  unfold Blk at h h'
  rw [h] at h'
  injection h' with h'
  injection h' with _ h2
  exact ht h2
/-- the witness's answer is laid down -/
theorem StB.hand {W W9 : World} {g low : Nat} {s s' : St} {vL vR vA vA' : Value} {n9 : Nat} {xs9 : List Value} (h : StB g low s vL vR vA W) (ho : W9.ownsRow low 49 8 vA' n9 xs9) (hg : W.grownBy W9 vA.ownBlock) (e9 h9 u9 : Int) (hn : n9 = s'.an.length) (hx : xs9 = s'.an.flatMap encMs) (hl : s'.ls = s.ls) (hr : s'.rq = s.rq)
    (hc : ((((stC s vL vR vA).setIfInBounds 3 (.int .i64 e9)).setIfInBounds 4 (.int .i64 h9)).setIfInBounds 5 (.int .i64 u9)).setIfInBounds 8 vA' = stC s' vL vR vA') :
    StB g low s' vL vR vA' ((((W9.setCell ⟨g, 3, none⟩ (.int .i64 e9)).setCell ⟨g, 4, none⟩ (.int .i64 h9)).setCell ⟨g, 5, none⟩ (.int .i64 u9)).setCell ⟨g, 8, none⟩ vA') := by
  subst hn hx
  have k0 : Blk W9 g 39 (stC s vL vR vA) := h.blk.grown hg (fun e => tag_ne h.A h.blk (by decide) g e.symm rfl)
  have far : ∀ {e : TypeId} {sz : Nat} {v : Value} {n : Nat} {xs : List Value}, W9.ownsRow low e sz v n xs → e ≠ 39 → ((((W9.setCell ⟨g, 3, none⟩ (.int .i64 e9)).setCell ⟨g, 4, none⟩ (.int .i64 h9)).setCell ⟨g, 5, none⟩ (.int .i64 u9)).setCell ⟨g, 8, none⟩ vA').ownsRow low e sz v n xs := by
    intro e sz v n xs hv he
    have hne : v.ownBlock ≠ some g := fun e' => tag_ne hv k0 he g e' rfl
    exact own_far (own_far (own_far (own_far hv (p := ⟨g, 3, none⟩) hne _) (p := ⟨g, 4, none⟩) hne _) (p := ⟨g, 5, none⟩) hne _) (p := ⟨g, 8, none⟩) hne _
  refine ⟨?_, ?_, ?_, far ho (by decide)⟩
  · rw [← hc]; exact (((k0.set_ 3 _).set_ 4 _).set_ 5 _).set_ 8 _
  · rw [hl]; exact far (own_grow h.L hg (fun b hb e' => tag_two h.L h.A (by decide) b hb e')) (by decide)
  · rw [hr]; exact far (own_grow h.R hg (fun b hb e' => tag_two h.R h.A (by decide) b hb e')) (by decide)
def renL (s : St) (m : Ms) : List Ms := if ownB s.we s.wh s.wu s.now m.fr m.ep = true then [⟨16, 4, m.fr, m.nm, s.tm, s.we⟩] else [⟨12, 4, m.fr, m.nm, 0, s.we⟩]
/-- a request for an epoch is granted -/
def acqP (s : St) (m : Ms) : Prop := s.we < m.ep ∧ (heldB s.wh s.wu s.now = false ∨ s.wh = m.fr)
instance (s : St) (m : Ms) : Decidable (acqP s m) := by unfold acqP; infer_instance
def handW (s : St) (m : Ms) : Int × Int × Int :=
  if m.kd = 15 then (if acqP s m then (m.ep, m.fr, s.now + s.tm) else (s.we, s.wh, renU s.we s.wh s.wu s.now s.tm m.fr m.ep))
  else if m.kd = 17 then (s.we, s.wh, renU s.we s.wh s.wu s.now s.tm m.fr m.ep)
  else (if m.ep = s.we ∧ m.fr = s.wh then (s.we, -1, 0) else (s.we, s.wh, s.wu))
def handA (s : St) (m : Ms) : List Ms :=
  if m.kd = 15 then (if acqP s m then [⟨16, 4, m.fr, m.nm, s.tm, m.ep⟩] else renL s m)
  else if m.kd = 17 then renL s m else []
def handM (s : St) (m : Ms) : St := { s with we := (handW s m).1, wh := (handW s m).2.1, wu := (handW s m).2.2, an := s.an ++ handA s m }
/-- a request in order -/
structure RqOk (m : Ms) : Prop where
  kd : m.kd = 15 ∨ m.kd = 17 ∨ m.kd = 18
  fr : 0 ≤ m.fr ∧ m.fr ≤ 3
  ep : 0 ≤ m.ep ∧ m.ep ≤ 1000000
/-- a witness in order -/
structure WiOk (s : St) : Prop where
  we : 0 ≤ s.we ∧ s.we ≤ 1000000
  wh : s.wh = -1 ∨ 0 ≤ s.wh ∧ s.wh ≤ 3
  wu : 0 ≤ s.wu ∧ s.wu ≤ 1000000
  now : 0 ≤ s.now ∧ s.now ≤ 1000000
  tm : 1 ≤ s.tm ∧ s.tm ≤ 100
theorem renA_map (s : St) (m : Ms) : renA s.we s.wh s.wu s.now s.tm m.fr m.nm m.ep = (renL s m).map encMs := by
  unfold renA renL
  split <;> rfl
theorem Handle_st (s : St) (m : Ms) (hs : WiOk s) (hm : RqOk m) (w : World) :
    Calls Try.prog 12 #[.agg #[.int .i64 s.we, .int .i64 s.wh, .int .i64 s.wu], .int .i64 s.now, .int .i64 s.tm, .agg #[.int .i64 m.kd, .int .i64 m.fr, .int .i64 m.dt, .int .i64 m.nm, .int .i64 m.vl, .int .i64 m.ep, .slice none 0 0, .slice none 0 0]] w (HaR w (handW s m).1 (handW s m).2.1 (handW s m).2.2 ((handA s m).map encMs)) := by
  obtain ⟨h1, h2, h3, h4, h5⟩ := hs
  obtain ⟨g1, g2, g3⟩ := hm
  obtain ⟨kd, fr, dt, nm, vl, ep⟩ := m
  dsimp only at g1 g2 g3 ⊢
  rcases g1 with rfl | rfl | rfl
  · unfold handW handA
    rw [if_pos rfl, if_pos rfl]
    by_cases ha : acqP s ⟨15, fr, dt, nm, vl, ep⟩
    · rw [if_pos ha, if_pos ha]
      exact Handle15 s.we s.wh s.wu s.now s.tm fr dt nm vl ep ep fr (s.now + s.tm) [msL 16 4 fr nm s.tm ep] w (by omega) h2 (by omega) (by omega) (by omega) g2 (by omega) (fun g W hB => acquire_yes _ _ _ _ _ _ _ _ _ _ _ g W hB (by omega) ha.1 ha.2)
    · rw [if_neg ha, if_neg ha, ← renA_map]
      exact Handle15 s.we s.wh s.wu s.now s.tm fr dt nm vl ep _ _ _ _ w (by omega) h2 (by omega) (by omega) (by omega) g2 (by omega) (fun g W hB => acquire_no _ _ _ _ _ _ _ _ _ _ _ g W hB (by omega) ha)
  · unfold handW handA
    rw [if_neg (show ¬ (17 : Int) = 15 by decide), if_neg (show ¬ (17 : Int) = 15 by decide), if_pos rfl, if_pos rfl, ← renA_map]
    exact Handle17 s.we s.wh s.wu s.now s.tm fr dt nm vl ep _ _ _ _ w (by omega) h2 (by omega) (by omega) (by omega) g2 (by omega) (fun g W hB => renew_any _ _ _ _ _ _ _ _ _ _ _ g W hB (by omega))
  · unfold handW handA
    rw [if_neg (show ¬ (18 : Int) = 15 by decide), if_neg (show ¬ (18 : Int) = 15 by decide), if_neg (show ¬ (18 : Int) = 17 by decide), if_neg (show ¬ (18 : Int) = 17 by decide)]
    by_cases ha : ep = s.we ∧ fr = s.wh
    · rw [if_pos ha]
      exact Handle18 s.we s.wh s.wu s.now s.tm fr dt nm vl ep _ _ _ [] w (by omega) h2 (by omega) (by omega) (by omega) g2 (by omega) (fun g W hB => release_yes _ _ _ _ _ _ _ _ _ _ _ g W hB ha.1 ha.2)
    · rw [if_neg ha]
      exact Handle18 s.we s.wh s.wu s.now s.tm fr dt nm vl ep _ _ _ [] w (by omega) h2 (by omega) (by omega) (by omega) g2 (by omega) (fun g W hB => release_no _ _ _ _ _ _ _ _ _ _ _ g W hB ha)
set_option linter.unusedSimpArgs false in
set_option maxRecDepth 100000 in
set_option maxHeartbeats 8000000 in
theorem step3 (w W : World) (g low : Nat) (s : St) (si wh : Int) (hI : StI w g low s W) (hl : LsOk s.ls) (hw : WiOk s) (hr : ∀ q ∈ s.rq, RqOk q.m) (hrn : s.rq.length ≤ 100) (han : s.an.length ≤ 100) :
    Calls Try.prog 5 #[.pointer (some ⟨g, 0, none⟩), .agg #[.int .i64 3, .int .i64 si, .int .i64 wh]] W fun x W' => x = .returned (.bool true) ∧ ∃ s', StI w g low s' W' ∧ (s' = s ∨ ∃ q, q ∈ s.rq ∧ s' = handM s q.m) := by
  obtain ⟨vL, vR, vA, hB⟩ := hI.blk
  obtain ⟨AL, cL, rfl, _, _, _⟩ := own_slice hB.L
  have hgl := hB.blk.lt
  obtain ⟨r1, i, k1, k2, hi3, hr1, hr1'⟩ := pick3 si
  have w1 : IntKind.i64.wrap (r1 + 3) = r1 + 3 := IntWalk.i64_in _ (by omega)
  have hi' : ((i : Nat) : Int) < 3 := by omega
  have b0 := Blk.new W 27 #[.int .i64 3, .int .i64 si, .int .i64 wh]
  have hb0 : Below W.heap.size W (W.alloc (.cells #[.int .i64 3, .int .i64 si, .int .i64 wh] 27)) := (Below.refl _ W).alloc (Nat.le_refl _) _
  have hs0 : W.heap.size < (W.alloc (.cells #[.int .i64 3, .int .i64 si, .int .i64 wh] 27)).heap.size := by simp
  go_enter Try.func5, Try.ntmps5
  go_upto_region 1 with fail
  generalize (W.alloc (.cells #[.int .i64 3, .int .i64 si, .int .i64 wh] 27)) = V at *
  have HI0 := Lib.hid (And.intro (hI.below hb0) (hB.below hb0))
  have v0 : V.cell? ⟨W.heap.size, 0, none⟩ = some (.int .i64 3) := b0.cell 0
  have v1 : V.cell? ⟨W.heap.size, 1, none⟩ = some (.int .i64 si) := b0.cell 1
  have v2 : V.cell? ⟨W.heap.size, 2, none⟩ = some (.int .i64 wh) := b0.cell 2
  have c6 : V.cell? ⟨g, 6, none⟩ = some (.slice AL 3 cL) := HI0.out.2.blk.cell 6
  have hgl0 : g < V.heap.size := HI0.out.2.blk.lt
  obtain ⟨bl, rfl, hbl, hlb, ⟨curL, hBL⟩, hcl⟩ := ls_cells HI0.out.2.L
  obtain ⟨l0, l1, l2⟩ := hcl i hi3
  have hli := hl i hi3
  clear hcl hI hB
  obtain ⟨e, he⟩ : ∃ e : Int, e = (s.ls i).1 := ⟨_, rfl⟩
  rw [← he] at l1 hli
  obtain ⟨u, hu⟩ : ∃ u : Int, u = (s.ls i).2 := ⟨_, rfl⟩
  rw [← hu] at l2 hli
  have HEU := Lib.hid (And.intro he hu)
  clear he hu
  have bA := Blk.new V 41 #[.int .i64 (i : Nat), .int .i64 e, .int .i64 u]
  have hbA : Below V.heap.size V (V.alloc (.cells #[.int .i64 (i : Nat), .int .i64 e, .int .i64 u] 41)) := (Below.refl _ V).alloc (Nat.le_refl _) _
  have hsA : V.heap.size < (V.alloc (.cells #[.int .i64 (i : Nat), .int .i64 e, .int .i64 u] 41)).heap.size := by simp
  go_upto_region 3 with fail
  generalize (V.alloc (.cells #[.int .i64 (i : Nat), .int .i64 e, .int .i64 u] 41)) = V1 at *
  have HI1 := Lib.hid (And.intro (HI0.out.1.below hbA) (HI0.out.2.below hbA))
  have b1 := b0.below hbA hs0
  have hbl1 : bl < V1.heap.size := by omega
  have hBL1 := hBL.below hbA hbl
  have HL := Lib.hid (And.intro hlb hBL1)
  clear c6 l0 l1 l2 v0 v1 v2 k1 k2 w1 hbA HI0 b0 hBL hlb hBL1 hb0
  have v0 : V1.cell? ⟨W.heap.size, 0, none⟩ = some (.int .i64 3) := b1.cell 0
  have v1 : V1.cell? ⟨W.heap.size, 1, none⟩ = some (.int .i64 si) := b1.cell 1
  have v2 : V1.cell? ⟨W.heap.size, 2, none⟩ = some (.int .i64 wh) := b1.cell 2
  have x0 : V1.cell? ⟨V.heap.size, 0, none⟩ = some (.int .i64 (i : Nat)) := bA.cell 0
  have x1 : V1.cell? ⟨V.heap.size, 1, none⟩ = some (.int .i64 e) := bA.cell 1
  have x2 : V1.cell? ⟨V.heap.size, 2, none⟩ = some (.int .i64 u) := bA.cell 2
  obtain ⟨i0, hi0, hz0, hz1, hz2⟩ := info_parts (show (Try.prog.info? 49).map (fun i => (i.zero, i.size, i.bytes)) = some (some (.agg #[.int .i64 0, .int .i64 0, .int .i64 0, .int .i64 0, .int .i64 0, .int .i64 0, .slice none 0 0, .slice none 0 0]), 8, 96) by kernel_rfl)
  have HII := Lib.hid (And.intro hi0 (And.intro hz0 (And.intro hz1 hz2)))
  clear hi0 hz0 hz1 hz2
  obtain ⟨AR, cR, rfl, _, _, hRR⟩ := own_slice HI1.out.2.R
  obtain ⟨n, hnn⟩ : ∃ n, s.rq.length = n := ⟨_, rfl⟩
  have c7 : V1.cell? ⟨g, 7, none⟩ = some (.slice AR n cR) := by rw [← hnn]; exact HI1.out.2.blk.cell 7
  have HN := Lib.hid hnn
  have HRR := Lib.hid hRR
  rw [hnn] at hrn
  clear hnn hRR x0 x1 x2
  by_cases hn0 : n = 0
  · subst hn0
    go_wp2_with fail
    go_ret
    exact ⟨rfl, s, HI1.out.1, .inl rfl⟩
  obtain ⟨p1, p2, a, k3, k4, k5, hnl, hp1, hp1', hp2, hp2'⟩ := pick_idx n (by omega) wh
  have hal : a < s.rq.length := by rw [HN.out]; exact hnl
  have hma := hr s.rq[a] (List.getElem_mem hal)
  obtain ⟨ba, oa, hAA, hba, hca⟩ := HRR.out.elems (E := encRq) (fun _ => rfl) (by omega) (by omega)
  have hmem : s.rq[a] ∈ s.rq := List.getElem_mem hal
  have a0 := hca a hal 0 _ rfl
  have a1 := hca a hal 1 _ rfl
  have a2 := hca a hal 2 _ rfl
  have a3 := hca a hal 3 _ rfl
  have a4 := hca a hal 4 _ rfl
  have a5 := hca a hal 5 _ rfl
  have a6 := hca a hal 6 _ rfl
  have a7 := hca a hal 7 _ rfl
  have a8 := hca a hal 8 _ rfl
  clear hca
  subst hAA
  generalize s.rq[a] = rq at *
  obtain ⟨t, m⟩ := rq
  dsimp only at hma a0 a1 a2 a3 a4 a5 a6 a7 a8
  rw [Nat.add_zero] at a0
  simp only [← Nat.add_assoc] at a1 a2 a3 a4 a5 a6 a7 a8
  have kn : ((n : Int) == 0) = false := by rw [beq_eq_false_iff_ne]; omega
  have kn0 : (0 : Int) < n := by omega
  have zw1 : IntKind.i64.wrap ((n : Int) - 1) = (n : Int) - 1 := IntWalk.i64_in _ (by omega)
  have zw2 : IntKind.i64.wrap (p1 + n) = p1 + n := IntWalk.i64_in _ (by omega)
  have zw3 : IntKind.i64.wrap ((a : Nat) : Int) = (a : Nat) := IntWalk.i64_in _ (by omega)
  have zw4 : ((a : Nat) : Int) < n := by omega
  have hg1 : g < V1.heap.size := HI1.out.2.blk.lt
  have hW1 : W.heap.size < V1.heap.size := b1.lt
  have bM := Blk.new V1 57 #[.int .i64 0, .int .i64 0, .int .i64 0, .int .i64 0, .int .i64 0, .int .i64 0, .int .i64 0, .slice none 0 0, .slice none 0 0]
  have hbM : Below V1.heap.size V1 (V1.alloc (.cells #[.int .i64 0, .int .i64 0, .int .i64 0, .int .i64 0, .int .i64 0, .int .i64 0, .int .i64 0, .slice none 0 0, .slice none 0 0] 57)).drew := ((Below.refl _ V1).alloc (Nat.le_refl _) _).drew
  go_upto_region 20 with fail
  refine wp_pan (Pc := fun _ _ _ => False) (fun _ _ _ h => h.elim) ?_
  refine wp_region_tail_lit (S := fun V => V.cell? ⟨g, 7, none⟩ = some (.slice (some ⟨ba, oa, none⟩) n cR) ∧ V.cell? ⟨W.heap.size, 2, none⟩ = some (.int .i64 wh) ∧ V.cell? ⟨ba, oa + a * 9, none⟩ = some (.int .i64 t) ∧ V.cell? ⟨ba, oa + a * 9 + 1, none⟩ = some (.int .i64 m.kd) ∧ V.cell? ⟨ba, oa + a * 9 + 2, none⟩ = some (.int .i64 m.fr) ∧ V.cell? ⟨ba, oa + a * 9 + 3, none⟩ = some (.int .i64 m.dt) ∧ V.cell? ⟨ba, oa + a * 9 + 4, none⟩ = some (.int .i64 m.nm) ∧ V.cell? ⟨ba, oa + a * 9 + 5, none⟩ = some (.int .i64 m.vl) ∧ V.cell? ⟨ba, oa + a * 9 + 6, none⟩ = some (.int .i64 m.ep) ∧ V.cell? ⟨ba, oa + a * 9 + 7, none⟩ = some (.slice none 0 0) ∧ V.cell? ⟨ba, oa + a * 9 + 8, none⟩ = some (.slice none 0 0)) 18 (by kernel_rfl) (by kernel_rfl) ⟨(((Below.refl V1.heap.size V1).drew).cell (p := ⟨g, 7, none⟩) hg1).trans c7, (((Below.refl V1.heap.size V1).drew).cell (p := ⟨W.heap.size, 2, none⟩) hW1).trans v2, (((Below.refl V1.heap.size V1).drew).cell (p := ⟨ba, oa + a * 9, none⟩) hba).trans a0, (((Below.refl V1.heap.size V1).drew).cell (p := ⟨ba, oa + a * 9 + 1, none⟩) hba).trans a1, (((Below.refl V1.heap.size V1).drew).cell (p := ⟨ba, oa + a * 9 + 2, none⟩) hba).trans a2, (((Below.refl V1.heap.size V1).drew).cell (p := ⟨ba, oa + a * 9 + 3, none⟩) hba).trans a3, (((Below.refl V1.heap.size V1).drew).cell (p := ⟨ba, oa + a * 9 + 4, none⟩) hba).trans a4, (((Below.refl V1.heap.size V1).drew).cell (p := ⟨ba, oa + a * 9 + 5, none⟩) hba).trans a5, (((Below.refl V1.heap.size V1).drew).cell (p := ⟨ba, oa + a * 9 + 6, none⟩) hba).trans a6, (((Below.refl V1.heap.size V1).drew).cell (p := ⟨ba, oa + a * 9 + 7, none⟩) hba).trans a7, (((Below.refl V1.heap.size V1).drew).cell (p := ⟨ba, oa + a * 9 + 8, none⟩) hba).trans a8⟩ (fun hHeld => ?_)
  simp only [List.take, List.drop]
  refine wpAnyH_take (i := 0) (oi := _) (v := ?_) rfl (by kernel_rfl) (by kernel_rfl) (by kernel_rfl) (fun _ _ _ h => h) (Or.inl ⟨by rfl, ?_⟩) (by assumption) ?_
  rotate_left 1
  · (intro w9 hS9; (try dsimp only at hS9); go_simp <;> with_reducible rfl)
  try simp only [List.getElem_toArray, List.getElem_cons_succ, List.getElem_cons_zero, Act.put, List.setIfInBounds_toArray, List.set_cons_zero, List.set_cons_succ]
  refine wpAnyH_take (i := 1) (oi := _) (v := ?_) rfl (by kernel_rfl) (by kernel_rfl) (by kernel_rfl) (fun _ _ _ h => h) (Or.inl ⟨by rfl, ?_⟩) (by assumption) ?_
  rotate_left 1
  · (intro w9 hS9; (try dsimp only at hS9); go_simp <;> with_reducible rfl)
  try simp only [List.getElem_toArray, List.getElem_cons_succ, List.getElem_cons_zero, Act.put, List.setIfInBounds_toArray, List.set_cons_zero, List.set_cons_succ]
  refine wpAnyH_take (i := 2) (oi := _) (v := ?_) rfl (by kernel_rfl) (by kernel_rfl) (by kernel_rfl) (fun _ _ _ h => h) (Or.inl ⟨by rfl, ?_⟩) (by assumption) ?_
  rotate_left 1
  · (intro w9 hS9; (try dsimp only at hS9); go_simp <;> with_reducible rfl)
  try simp only [List.getElem_toArray, List.getElem_cons_succ, List.getElem_cons_zero, Act.put, List.setIfInBounds_toArray, List.set_cons_zero, List.set_cons_succ]
  refine wpAnyH_take (i := 3) (oi := _) (v := ?_) rfl (by kernel_rfl) (by kernel_rfl) (by kernel_rfl) (fun _ _ _ h => h) (Or.inl ⟨by rfl, ?_⟩) (by assumption) ?_
  rotate_left 1
  · (intro w9 hS9; (try dsimp only at hS9); go_simp <;> with_reducible rfl)
  try simp only [List.getElem_toArray, List.getElem_cons_succ, List.getElem_cons_zero, Act.put, List.setIfInBounds_toArray, List.set_cons_zero, List.set_cons_succ]
  refine wpAnyH_take (i := 4) (oi := _) (v := ?_) rfl (by kernel_rfl) (by kernel_rfl) (by kernel_rfl) (fun _ _ _ h => h) (Or.inl ⟨by rfl, ?_⟩) (by assumption) ?_
  rotate_left 1
  · (intro w9 hS9; (try dsimp only at hS9); go_simp <;> with_reducible rfl)
  try simp only [List.getElem_toArray, List.getElem_cons_succ, List.getElem_cons_zero, Act.put, List.setIfInBounds_toArray, List.set_cons_zero, List.set_cons_succ]
  refine wpAnyH_take (i := 5) (oi := _) (v := ?_) rfl (by kernel_rfl) (by kernel_rfl) (by kernel_rfl) (fun _ _ _ h => h) (Or.inl ⟨by rfl, ?_⟩) (by assumption) ?_
  rotate_left 1
  · (intro w9 hS9; (try dsimp only at hS9); go_simp <;> with_reducible rfl)
  try simp only [List.getElem_toArray, List.getElem_cons_succ, List.getElem_cons_zero, Act.put, List.setIfInBounds_toArray, List.set_cons_zero, List.set_cons_succ]
  refine wpAnyH_take (i := 6) (oi := _) (v := ?_) rfl (by kernel_rfl) (by kernel_rfl) (by kernel_rfl) (fun _ _ _ h => h) (Or.inl ⟨by rfl, ?_⟩) (by assumption) ?_
  rotate_left 1
  · (intro w9 hS9; (try dsimp only at hS9); go_simp <;> with_reducible rfl)
  try simp only [List.getElem_toArray, List.getElem_cons_succ, List.getElem_cons_zero, Act.put, List.setIfInBounds_toArray, List.set_cons_zero, List.set_cons_succ]
  refine wpAnyH_take (i := 7) (oi := _) (v := ?_) rfl (by kernel_rfl) (by kernel_rfl) (by kernel_rfl) (fun _ _ _ h => h) (Or.inl ⟨by rfl, ?_⟩) (by assumption) ?_
  rotate_left 1
  · (intro w9 hS9; (try dsimp only at hS9); go_simp <;> with_reducible rfl)
  try simp only [List.getElem_toArray, List.getElem_cons_succ, List.getElem_cons_zero, Act.put, List.setIfInBounds_toArray, List.set_cons_zero, List.set_cons_succ]
  refine wpAnyH_take (i := 8) (oi := _) (v := ?_) rfl (by kernel_rfl) (by kernel_rfl) (by kernel_rfl) (fun _ _ _ h => h) (Or.inl ⟨by rfl, ?_⟩) (by assumption) ?_
  rotate_left 1
  · (intro w9 hS9; (try dsimp only at hS9); go_simp <;> with_reducible rfl)
  try simp only [List.getElem_toArray, List.getElem_cons_succ, List.getElem_cons_zero, Act.put, List.setIfInBounds_toArray, List.set_cons_zero, List.set_cons_succ]
  refine wpAnyH_take (i := 9) (oi := _) (v := ?_) rfl (by kernel_rfl) (by kernel_rfl) (by kernel_rfl) (fun _ _ _ h => h) (Or.inl ⟨by rfl, ?_⟩) (by assumption) ?_
  rotate_left 1
  · (intro w9 hS9; (try dsimp only at hS9); go_simp <;> with_reducible rfl)
  try simp only [List.getElem_toArray, List.getElem_cons_succ, List.getElem_cons_zero, Act.put, List.setIfInBounds_toArray, List.set_cons_zero, List.set_cons_succ]
  refine wpAnyH_take (i := 10) (oi := _) (v := ?_) rfl (by kernel_rfl) (by kernel_rfl) (by kernel_rfl) (fun _ _ _ h => h) (Or.inl ⟨by rfl, ?_⟩) (by assumption) ?_
  rotate_left 1
  · (intro w9 hS9; (try dsimp only at hS9); go_simp <;> with_reducible rfl)
  try simp only [List.getElem_toArray, List.getElem_cons_succ, List.getElem_cons_zero, Act.put, List.setIfInBounds_toArray, List.set_cons_zero, List.set_cons_succ]
  refine wpAnyH_take (i := 11) (oi := _) (v := ?_) rfl (by kernel_rfl) (by kernel_rfl) (by kernel_rfl) (fun _ _ _ h => h) (Or.inl ⟨by rfl, ?_⟩) (by assumption) ?_
  rotate_left 1
  · (intro w9 hS9; (try dsimp only at hS9); go_simp <;> with_reducible rfl)
  try simp only [List.getElem_toArray, List.getElem_cons_succ, List.getElem_cons_zero, Act.put, List.setIfInBounds_toArray, List.set_cons_zero, List.set_cons_succ]
  refine wpAnyH_take (i := 12) (oi := _) (v := ?_) rfl (by kernel_rfl) (by kernel_rfl) (by kernel_rfl) (fun _ _ _ h => h) (Or.inl ⟨by rfl, ?_⟩) (by assumption) ?_
  rotate_left 1
  · (intro w9 hS9; (try dsimp only at hS9); go_simp <;> with_reducible rfl)
  try simp only [List.getElem_toArray, List.getElem_cons_succ, List.getElem_cons_zero, Act.put, List.setIfInBounds_toArray, List.set_cons_zero, List.set_cons_succ]
  refine wpAnyH_take (i := 13) (oi := _) (v := ?_) rfl (by kernel_rfl) (by kernel_rfl) (by kernel_rfl) (fun _ _ _ h => h) (Or.inl ⟨by rfl, ?_⟩) (by assumption) ?_
  rotate_left 1
  · (intro w9 hS9; (try dsimp only at hS9); go_simp <;> with_reducible rfl)
  try simp only [List.getElem_toArray, List.getElem_cons_succ, List.getElem_cons_zero, Act.put, List.setIfInBounds_toArray, List.set_cons_zero, List.set_cons_succ]
  refine wpAnyH_take (i := 14) (oi := _) (v := ?_) rfl (by kernel_rfl) (by kernel_rfl) (by kernel_rfl) (fun _ _ _ h => h) (Or.inl ⟨by rfl, ?_⟩) (by assumption) ?_
  rotate_left 1
  · (intro w9 hS9; (try dsimp only at hS9); go_simp <;> with_reducible rfl)
  try simp only [List.getElem_toArray, List.getElem_cons_succ, List.getElem_cons_zero, Act.put, List.setIfInBounds_toArray, List.set_cons_zero, List.set_cons_succ]
  refine wpAnyH_take (i := 15) (oi := _) (v := ?_) rfl (by kernel_rfl) (by kernel_rfl) (by kernel_rfl) (fun _ _ _ h => h) (Or.inl ⟨by rfl, ?_⟩) (by assumption) ?_
  rotate_left 1
  · (intro w9 hS9; (try dsimp only at hS9); go_simp <;> with_reducible rfl)
  try simp only [List.getElem_toArray, List.getElem_cons_succ, List.getElem_cons_zero, Act.put, List.setIfInBounds_toArray, List.set_cons_zero, List.set_cons_succ]
  refine wpAnyH_take (i := 16) (oi := _) (v := ?_) rfl (by kernel_rfl) (by kernel_rfl) (by kernel_rfl) (fun _ _ _ h => h) (Or.inl ⟨by rfl, ?_⟩) (by assumption) ?_
  rotate_left 1
  · (intro w9 hS9; (try dsimp only at hS9); go_simp <;> with_reducible rfl)
  try simp only [List.getElem_toArray, List.getElem_cons_succ, List.getElem_cons_zero, Act.put, List.setIfInBounds_toArray, List.set_cons_zero, List.set_cons_succ]
  refine wpAnyH_ready (rs := [17]) (by kernel_rfl) (by simp) ?_
  refine AllReadyH.cons (o := _) rfl (fun K hK => ?_) AllReadyH.nil
  try simp only [List.getElem_toArray, List.getElem_cons_succ, List.getElem_cons_zero]
  try rw [if_pos (show Region.wanted _ _ = true from rfl)]
  go_simp
  obtain ⟨Wn, hWn⟩ : ∃ W9, (V1.alloc (.cells #[.int .i64 0, .int .i64 0, .int .i64 0, .int .i64 0, .int .i64 0, .int .i64 0, .int .i64 0, .slice none 0 0, .slice none 0 0] 57)).drew = W9 := ⟨_, rfl⟩
  rw [hWn] at hbM
  have bM : Blk Wn V1.heap.size 57 #[.int .i64 0, .int .i64 0, .int .i64 0, .int .i64 0, .int .i64 0, .int .i64 0, .int .i64 0, .slice none 0 0, .slice none 0 0] := by rw [← hWn]; exact bM
  rw [hWn]
  clear hWn
  refine hK.out _ _ ⟨(hbM.cell (p := ⟨g, 7, none⟩) hg1).trans c7, (hbM.cell (p := ⟨W.heap.size, 2, none⟩) hW1).trans v2, (hbM.cell (p := ⟨ba, oa + a * 9, none⟩) hba).trans a0, (hbM.cell (p := ⟨ba, oa + a * 9 + 1, none⟩) hba).trans a1, (hbM.cell (p := ⟨ba, oa + a * 9 + 2, none⟩) hba).trans a2, (hbM.cell (p := ⟨ba, oa + a * 9 + 3, none⟩) hba).trans a3, (hbM.cell (p := ⟨ba, oa + a * 9 + 4, none⟩) hba).trans a4, (hbM.cell (p := ⟨ba, oa + a * 9 + 5, none⟩) hba).trans a5, (hbM.cell (p := ⟨ba, oa + a * 9 + 6, none⟩) hba).trans a6, (hbM.cell (p := ⟨ba, oa + a * 9 + 7, none⟩) hba).trans a7, (hbM.cell (p := ⟨ba, oa + a * 9 + 8, none⟩) hba).trans a8⟩ (fun hHeld => ?_)
  clear hK K
  try simp only [List.getElem_toArray, List.getElem_cons_succ, List.getElem_cons_zero, Act.put, List.setIfInBounds_toArray, List.set_cons_zero, List.set_cons_succ]
  refine wpAnyH_done (by kernel_rfl) ?_ _
  refine tailQ_step rfl ?_
  go_wp2_with (refine wpList_store_row rfl _ _ _ rfl V1.heap.size _ rfl rfl 57 _ bM (by kernel_rfl) rfl (by simp [Value.oneCell']) ?_)
  refine tailQ_nil (panQ_normal ?_)
  have hbV : Below V1.heap.size V1 (Wn.setRow V1.heap.size #[.int .i64 t, .int .i64 m.kd, .int .i64 m.fr, .int .i64 m.dt, .int .i64 m.nm, .int .i64 m.vl, .int .i64 m.ep, .slice none 0 0, .slice none 0 0]) := below_setRow hbM (Nat.le_refl _) _
  have bV : Blk (Wn.setRow V1.heap.size #[.int .i64 t, .int .i64 m.kd, .int .i64 m.fr, .int .i64 m.dt, .int .i64 m.nm, .int .i64 m.vl, .int .i64 m.ep, .slice none 0 0, .slice none 0 0]) V1.heap.size 57 #[.int .i64 t, .int .i64 m.kd, .int .i64 m.fr, .int .i64 m.dt, .int .i64 m.nm, .int .i64 m.vl, .int .i64 m.ep, .slice none 0 0, .slice none 0 0] := bM.setRow _
  clear bM hbM c7 a0 a1 a2 a3 a4 a5 a6 a7 a8 k3 k4 k5 zw1 zw2 zw3 zw4 kn kn0 hp1 hp1' hp2 hp2' v0 v1 v2
  generalize (Wn.setRow V1.heap.size #[.int .i64 t, .int .i64 m.kd, .int .i64 m.fr, .int .i64 m.dt, .int .i64 m.nm, .int .i64 m.vl, .int .i64 m.ep, .slice none 0 0, .slice none 0 0]) = V2 at *
  have HI2 := Lib.hid (And.intro (HI1.out.1.below hbV) (HI1.out.2.below hbV))
  clear hbV
  have HC : Hid (∀ V : World, Calls Try.prog 12 #[.agg #[.int .i64 s.we, .int .i64 s.wh, .int .i64 s.wu], .int .i64 s.now, .int .i64 s.tm, .agg #[.int .i64 m.kd, .int .i64 m.fr, .int .i64 m.dt, .int .i64 m.nm, .int .i64 m.vl, .int .i64 m.ep, .slice none 0 0, .slice none 0 0]] V (HaR V (handW s m).1 (handW s m).2.1 (handW s m).2.2 ((handA s m).map encMs))) := fun V => Handle_st s m hw hma V
  obtain ⟨e9, he9⟩ : ∃ x, (handW s m).1 = x := ⟨_, rfl⟩
  obtain ⟨h9, hh9⟩ : ∃ x, (handW s m).2.1 = x := ⟨_, rfl⟩
  obtain ⟨u9, hu9⟩ : ∃ x, (handW s m).2.2 = x := ⟨_, rfl⟩
  rw [he9, hh9, hu9] at HC
  have HW9 := Lib.hid (And.intro he9 (And.intro hh9 hu9))
  clear he9 hh9 hu9
  obtain ⟨al, hal9⟩ : ∃ x, (handA s m).map encMs = x := ⟨_, rfl⟩
  rw [hal9] at HC
  have HAL := Lib.hid hal9
  clear hal9
  go_upto_region 21 with fail
  go_cut [15, 16] from 119 to 137 (fun s15 s16 wx => ∃ gn v, s15 = .pointer (some ⟨gn, 0, none⟩) ∧ s16 = v ∧ Below V2.heap.size V2 wx ∧ Blk wx gn 32 #[.int .i64 e9, .int .i64 h9, .int .i64 u9] ∧ V2.heap.size ≤ gn ∧ wx.ownsRow V2.heap.size 49 8 v al.length al.flatten)
  case first =>
    refine wp_pan (Pc := fun _ _ _ => False) (fun _ _ _ h => h.elim) ?_
    refine wp_region_tail_lit (S := fun V => V.cell? ⟨g, 0, none⟩ = some (.int .i64 s.now) ∧ V.cell? ⟨g, 1, none⟩ = some (.int .i64 s.tm) ∧ V.cell? ⟨g, 3, none⟩ = some (.int .i64 s.we) ∧ V.cell? ⟨g, 4, none⟩ = some (.int .i64 s.wh) ∧ V.cell? ⟨g, 5, none⟩ = some (.int .i64 s.wu) ∧ V.cell? ⟨V1.heap.size, 1, none⟩ = some (.int .i64 m.kd) ∧ V.cell? ⟨V1.heap.size, 2, none⟩ = some (.int .i64 m.fr) ∧ V.cell? ⟨V1.heap.size, 3, none⟩ = some (.int .i64 m.dt) ∧ V.cell? ⟨V1.heap.size, 4, none⟩ = some (.int .i64 m.nm) ∧ V.cell? ⟨V1.heap.size, 5, none⟩ = some (.int .i64 m.vl) ∧ V.cell? ⟨V1.heap.size, 6, none⟩ = some (.int .i64 m.ep) ∧ V.cell? ⟨V1.heap.size, 7, none⟩ = some (.slice none 0 0) ∧ V.cell? ⟨V1.heap.size, 8, none⟩ = some (.slice none 0 0)) 20 (by kernel_rfl) (by kernel_rfl) ⟨(show Blk V2.drew g 39 _ from HI2.out.2.blk).cell 0, (show Blk V2.drew g 39 _ from HI2.out.2.blk).cell 1, (show Blk V2.drew g 39 _ from HI2.out.2.blk).cell 3, (show Blk V2.drew g 39 _ from HI2.out.2.blk).cell 4, (show Blk V2.drew g 39 _ from HI2.out.2.blk).cell 5, (show Blk V2.drew V1.heap.size 57 _ from bV).cell 1, (show Blk V2.drew V1.heap.size 57 _ from bV).cell 2, (show Blk V2.drew V1.heap.size 57 _ from bV).cell 3, (show Blk V2.drew V1.heap.size 57 _ from bV).cell 4, (show Blk V2.drew V1.heap.size 57 _ from bV).cell 5, (show Blk V2.drew V1.heap.size 57 _ from bV).cell 6, (show Blk V2.drew V1.heap.size 57 _ from bV).cell 7, (show Blk V2.drew V1.heap.size 57 _ from bV).cell 8⟩ (fun hHeld => ?_)
    simp only [List.take, List.drop]
    refine wpAnyH_take (i := 0) (oi := _) (v := ?_) rfl (by kernel_rfl) (by kernel_rfl) (by kernel_rfl) (fun _ _ _ h => h) (Or.inl ⟨by rfl, ?_⟩) (by assumption) ?_
    rotate_left 1
    · (intro w9 hS9; (try dsimp only at hS9); go_simp <;> with_reducible rfl)
    try simp only [List.getElem_toArray, List.getElem_cons_succ, List.getElem_cons_zero, Act.put, List.setIfInBounds_toArray, List.set_cons_zero, List.set_cons_succ]
    refine wpAnyH_take (i := 1) (oi := _) (v := ?_) rfl (by kernel_rfl) (by kernel_rfl) (by kernel_rfl) (fun _ _ _ h => h) (Or.inl ⟨by rfl, ?_⟩) (by assumption) ?_
    rotate_left 1
    · (intro w9 hS9; (try dsimp only at hS9); go_simp <;> with_reducible rfl)
    try simp only [List.getElem_toArray, List.getElem_cons_succ, List.getElem_cons_zero, Act.put, List.setIfInBounds_toArray, List.set_cons_zero, List.set_cons_succ]
    refine wpAnyH_take (i := 2) (oi := _) (v := ?_) rfl (by kernel_rfl) (by kernel_rfl) (by kernel_rfl) (fun _ _ _ h => h) (Or.inl ⟨by rfl, ?_⟩) (by assumption) ?_
    rotate_left 1
    · (intro w9 hS9; (try dsimp only at hS9); go_simp <;> with_reducible rfl)
    try simp only [List.getElem_toArray, List.getElem_cons_succ, List.getElem_cons_zero, Act.put, List.setIfInBounds_toArray, List.set_cons_zero, List.set_cons_succ]
    refine wpAnyH_take (i := 3) (oi := _) (v := ?_) rfl (by kernel_rfl) (by kernel_rfl) (by kernel_rfl) (fun _ _ _ h => h) (Or.inl ⟨by rfl, ?_⟩) (by assumption) ?_
    rotate_left 1
    · (intro w9 hS9; (try dsimp only at hS9); go_simp <;> with_reducible rfl)
    try simp only [List.getElem_toArray, List.getElem_cons_succ, List.getElem_cons_zero, Act.put, List.setIfInBounds_toArray, List.set_cons_zero, List.set_cons_succ]
    refine wpAnyH_take (i := 4) (oi := _) (v := ?_) rfl (by kernel_rfl) (by kernel_rfl) (by kernel_rfl) (fun _ _ _ h => h) (Or.inl ⟨by rfl, ?_⟩) (by assumption) ?_
    rotate_left 1
    · (intro w9 hS9; (try dsimp only at hS9); go_simp <;> with_reducible rfl)
    try simp only [List.getElem_toArray, List.getElem_cons_succ, List.getElem_cons_zero, Act.put, List.setIfInBounds_toArray, List.set_cons_zero, List.set_cons_succ]
    refine wpAnyH_take (i := 5) (oi := _) (v := ?_) rfl (by kernel_rfl) (by kernel_rfl) (by kernel_rfl) (fun _ _ _ h => h) (Or.inl ⟨by rfl, ?_⟩) (by assumption) ?_
    rotate_left 1
    · (intro w9 hS9; (try dsimp only at hS9); go_simp <;> with_reducible rfl)
    try simp only [List.getElem_toArray, List.getElem_cons_succ, List.getElem_cons_zero, Act.put, List.setIfInBounds_toArray, List.set_cons_zero, List.set_cons_succ]
    refine wpAnyH_take (i := 6) (oi := _) (v := ?_) rfl (by kernel_rfl) (by kernel_rfl) (by kernel_rfl) (fun _ _ _ h => h) (Or.inl ⟨by rfl, ?_⟩) (by assumption) ?_
    rotate_left 1
    · (intro w9 hS9; (try dsimp only at hS9); go_simp <;> with_reducible rfl)
    try simp only [List.getElem_toArray, List.getElem_cons_succ, List.getElem_cons_zero, Act.put, List.setIfInBounds_toArray, List.set_cons_zero, List.set_cons_succ]
    refine wpAnyH_take (i := 7) (oi := _) (v := ?_) rfl (by kernel_rfl) (by kernel_rfl) (by kernel_rfl) (fun _ _ _ h => h) (Or.inl ⟨by rfl, ?_⟩) (by assumption) ?_
    rotate_left 1
    · (intro w9 hS9; (try dsimp only at hS9); go_simp <;> with_reducible rfl)
    try simp only [List.getElem_toArray, List.getElem_cons_succ, List.getElem_cons_zero, Act.put, List.setIfInBounds_toArray, List.set_cons_zero, List.set_cons_succ]
    refine wpAnyH_take (i := 8) (oi := _) (v := ?_) rfl (by kernel_rfl) (by kernel_rfl) (by kernel_rfl) (fun _ _ _ h => h) (Or.inl ⟨by rfl, ?_⟩) (by assumption) ?_
    rotate_left 1
    · (intro w9 hS9; (try dsimp only at hS9); go_simp <;> with_reducible rfl)
    try simp only [List.getElem_toArray, List.getElem_cons_succ, List.getElem_cons_zero, Act.put, List.setIfInBounds_toArray, List.set_cons_zero, List.set_cons_succ]
    refine wpAnyH_take (i := 9) (oi := _) (v := ?_) rfl (by kernel_rfl) (by kernel_rfl) (by kernel_rfl) (fun _ _ _ h => h) (Or.inl ⟨by rfl, ?_⟩) (by assumption) ?_
    rotate_left 1
    · (intro w9 hS9; (try dsimp only at hS9); go_simp <;> with_reducible rfl)
    try simp only [List.getElem_toArray, List.getElem_cons_succ, List.getElem_cons_zero, Act.put, List.setIfInBounds_toArray, List.set_cons_zero, List.set_cons_succ]
    refine wpAnyH_take (i := 10) (oi := _) (v := ?_) rfl (by kernel_rfl) (by kernel_rfl) (by kernel_rfl) (fun _ _ _ h => h) (Or.inl ⟨by rfl, ?_⟩) (by assumption) ?_
    rotate_left 1
    · (intro w9 hS9; (try dsimp only at hS9); go_simp <;> with_reducible rfl)
    try simp only [List.getElem_toArray, List.getElem_cons_succ, List.getElem_cons_zero, Act.put, List.setIfInBounds_toArray, List.set_cons_zero, List.set_cons_succ]
    refine wpAnyH_take (i := 11) (oi := _) (v := ?_) rfl (by kernel_rfl) (by kernel_rfl) (by kernel_rfl) (fun _ _ _ h => h) (Or.inl ⟨by rfl, ?_⟩) (by assumption) ?_
    rotate_left 1
    · (intro w9 hS9; (try dsimp only at hS9); go_simp <;> with_reducible rfl)
    try simp only [List.getElem_toArray, List.getElem_cons_succ, List.getElem_cons_zero, Act.put, List.setIfInBounds_toArray, List.set_cons_zero, List.set_cons_succ]
    refine wpAnyH_take (i := 12) (oi := _) (v := ?_) rfl (by kernel_rfl) (by kernel_rfl) (by kernel_rfl) (fun _ _ _ h => h) (Or.inl ⟨by rfl, ?_⟩) (by assumption) ?_
    rotate_left 1
    · (intro w9 hS9; (try dsimp only at hS9); go_simp <;> with_reducible rfl)
    try simp only [List.getElem_toArray, List.getElem_cons_succ, List.getElem_cons_zero, Act.put, List.setIfInBounds_toArray, List.set_cons_zero, List.set_cons_succ]
    refine wpAnyH_take (i := 13) (oi := _) (v := ?_) rfl (by kernel_rfl) (by kernel_rfl) (by kernel_rfl) (fun _ _ _ h => h) (Or.inl ⟨by rfl, ?_⟩) (by assumption) ?_
    rotate_left 1
    · (intro w9 hS9; (try dsimp only at hS9); go_simp <;> with_reducible rfl)
    try simp only [List.getElem_toArray, List.getElem_cons_succ, List.getElem_cons_zero, Act.put, List.setIfInBounds_toArray, List.set_cons_zero, List.set_cons_succ]
    refine wpAnyH_ready (rs := [14, 18]) (by kernel_rfl) (by simp) ?_
    refine AllReadyH.cons (o := _) rfl (fun K hK => ?_) ?_
    · try simp only [List.getElem_toArray, List.getElem_cons_succ, List.getElem_cons_zero]
      try rw [if_pos (show Region.wanted _ _ = true from rfl)]
      go_simp
      refine (HC.out V2.drew).mono ?_
      rintro x wy ⟨hby, v, rfl, hvo⟩
      have hwy : Below V2.heap.size V2 wy := (Below.refl V2.heap.size V2).drew.trans (hby.mono (Below.refl V2.heap.size V2).drew.size)
      have hvo := own_base hvo (Below.refl V2.heap.size V2).drew.size
      go_wp2_with fail
      refine hK.out _ _ ⟨(HI2.out.2.blk.below hwy HI2.out.2.blk.lt).cell 0, (HI2.out.2.blk.below hwy HI2.out.2.blk.lt).cell 1, (HI2.out.2.blk.below hwy HI2.out.2.blk.lt).cell 3, (HI2.out.2.blk.below hwy HI2.out.2.blk.lt).cell 4, (HI2.out.2.blk.below hwy HI2.out.2.blk.lt).cell 5, (bV.below hwy bV.lt).cell 1, (bV.below hwy bV.lt).cell 2, (bV.below hwy bV.lt).cell 3, (bV.below hwy bV.lt).cell 4, (bV.below hwy bV.lt).cell 5, (bV.below hwy bV.lt).cell 6, (bV.below hwy bV.lt).cell 7, (bV.below hwy bV.lt).cell 8⟩ (fun hHeld => ?_)
      clear hK K
      try simp only [List.getElem_toArray, List.getElem_cons_succ, List.getElem_cons_zero, Act.put, List.setIfInBounds_toArray, List.set_cons_zero, List.set_cons_succ]
      refine wpAnyH_take (i := 15) (oi := _) (v := ?_) rfl (by kernel_rfl) (by kernel_rfl) (by kernel_rfl) (fun _ _ _ h => h) (Or.inl ⟨by rfl, ?_⟩) (by assumption) ?_
      rotate_left 1
      · (intro w9 hS9; (try dsimp only at hS9); go_simp <;> with_reducible rfl)
      try simp only [List.getElem_toArray, List.getElem_cons_succ, List.getElem_cons_zero, Act.put, List.setIfInBounds_toArray, List.set_cons_zero, List.set_cons_succ]
      refine wpAnyH_take (i := 16) (oi := _) (v := ?_) rfl (by kernel_rfl) (by kernel_rfl) (by kernel_rfl) (fun _ _ _ h => h) (Or.inl ⟨by rfl, ?_⟩) (by assumption) ?_
      rotate_left 1
      · (intro w9 hS9; (try dsimp only at hS9); go_simp <;> with_reducible rfl)
      try simp only [List.getElem_toArray, List.getElem_cons_succ, List.getElem_cons_zero, Act.put, List.setIfInBounds_toArray, List.set_cons_zero, List.set_cons_succ]
      refine wpAnyH_take (i := 17) (oi := _) (v := ?_) rfl (by kernel_rfl) (by kernel_rfl) (by kernel_rfl) (fun _ _ _ h => h) (Or.inl ⟨by rfl, ?_⟩) (by assumption) ?_
      rotate_left 1
      · (intro w9 hS9; (try dsimp only at hS9); go_simp <;> with_reducible rfl)
      try simp only [List.getElem_toArray, List.getElem_cons_succ, List.getElem_cons_zero, Act.put, List.setIfInBounds_toArray, List.set_cons_zero, List.set_cons_succ]
      refine wpAnyH_ready (rs := [18]) (by kernel_rfl) (by simp) ?_
      refine AllReadyH.cons (o := _) rfl (fun K hK => ?_) AllReadyH.nil
      try simp only [List.getElem_toArray, List.getElem_cons_succ, List.getElem_cons_zero]
      try rw [if_pos (show Region.wanted _ _ = true from rfl)]
      go_simp
      obtain ⟨Wm, hWm⟩ : ∃ W9, wy.alloc (.cells #[.int .i64 0, .int .i64 0, .int .i64 0] 32) = W9 := ⟨_, rfl⟩
      have hbn : Below wy.heap.size wy Wm := by rw [← hWm]; exact (Below.refl _ wy).alloc (Nat.le_refl _) _
      have hG : Blk Wm wy.heap.size 32 #[.int .i64 0, .int .i64 0, .int .i64 0] := by rw [← hWm]; exact Blk.new _ _ _
      rw [hWm]
      clear hWm
      have hwn : Below V2.heap.size V2 Wm := hwy.trans (hbn.mono hwy.size)
      have hvo := own_below hvo hbn
      obtain ⟨gn, hgn⟩ : ∃ gn, wy.heap.size = gn := ⟨_, rfl⟩
      have hgz2 : V2.heap.size ≤ gn := by rw [← hgn]; exact hwy.size
      rw [hgn] at hG ⊢
      clear hgn
      refine hK.out _ _ ⟨(HI2.out.2.blk.below hwn HI2.out.2.blk.lt).cell 0, (HI2.out.2.blk.below hwn HI2.out.2.blk.lt).cell 1, (HI2.out.2.blk.below hwn HI2.out.2.blk.lt).cell 3, (HI2.out.2.blk.below hwn HI2.out.2.blk.lt).cell 4, (HI2.out.2.blk.below hwn HI2.out.2.blk.lt).cell 5, (bV.below hwn bV.lt).cell 1, (bV.below hwn bV.lt).cell 2, (bV.below hwn bV.lt).cell 3, (bV.below hwn bV.lt).cell 4, (bV.below hwn bV.lt).cell 5, (bV.below hwn bV.lt).cell 6, (bV.below hwn bV.lt).cell 7, (bV.below hwn bV.lt).cell 8⟩ (fun hHeld => ?_)
      clear hK K
      try simp only [List.getElem_toArray, List.getElem_cons_succ, List.getElem_cons_zero, Act.put, List.setIfInBounds_toArray, List.set_cons_zero, List.set_cons_succ]
      refine wpAnyH_ready (rs := [19]) (by kernel_rfl) (by simp) ?_
      refine AllReadyH.cons (o := _) rfl (fun K hK => ?_) AllReadyH.nil
      try simp only [List.getElem_toArray, List.getElem_cons_succ, List.getElem_cons_zero]
      try rw [if_pos (show Region.wanted _ _ = true from rfl)]
      refine wp_store_row 32 _ _ (by rfl) gn #[.int .i64 e9, .int .i64 h9, .int .i64 u9] (by rfl) (by rfl) 32 _ hG (by kernel_rfl) rfl (by simp [Value.oneCell']) ?_
      have hfin : Below V2.heap.size V2 (Wm.setRow gn #[.int .i64 e9, .int .i64 h9, .int .i64 u9]) := below_setRow hwn hgz2 _
      have hgr : Blk (Wm.setRow gn #[.int .i64 e9, .int .i64 h9, .int .i64 u9]) gn 32 #[.int .i64 e9, .int .i64 h9, .int .i64 u9] := hG.setRow _
      have hvo := own_keep (w' := Wm.setRow gn #[.int .i64 e9, .int .i64 h9, .int .i64 u9]) hvo (fun b hb => setRow_other _ _ _ _ (fun e9' => tag_ne hvo hG (by decide) b hb e9'))
      refine hK.out _ _ ⟨(HI2.out.2.blk.below hfin HI2.out.2.blk.lt).cell 0, (HI2.out.2.blk.below hfin HI2.out.2.blk.lt).cell 1, (HI2.out.2.blk.below hfin HI2.out.2.blk.lt).cell 3, (HI2.out.2.blk.below hfin HI2.out.2.blk.lt).cell 4, (HI2.out.2.blk.below hfin HI2.out.2.blk.lt).cell 5, (bV.below hfin bV.lt).cell 1, (bV.below hfin bV.lt).cell 2, (bV.below hfin bV.lt).cell 3, (bV.below hfin bV.lt).cell 4, (bV.below hfin bV.lt).cell 5, (bV.below hfin bV.lt).cell 6, (bV.below hfin bV.lt).cell 7, (bV.below hfin bV.lt).cell 8⟩ (fun hHeld => ?_)
      clear hK K
      try simp only [List.getElem_toArray, List.getElem_cons_succ, List.getElem_cons_zero, Act.put, List.setIfInBounds_toArray, List.set_cons_zero, List.set_cons_succ]
      refine wpAnyH_done (by kernel_rfl) ?_ _
      refine tailQ_step rfl ?_
      go_wp2_with fail
      refine tailQ_nil (panQ_normal ?_)
      try go_wp2_with fail
      go_meet
      exact ⟨gn, v, rfl, rfl, hfin, hgr, hgz2, hvo⟩
    refine AllReadyH.cons (o := _) rfl (fun K hK => ?_) ?_
    · try simp only [List.getElem_toArray, List.getElem_cons_succ, List.getElem_cons_zero]
      try rw [if_pos (show Region.wanted _ _ = true from rfl)]
      go_simp
      obtain ⟨Wm, hWm⟩ : ∃ W9, (V2.alloc (.cells #[.int .i64 0, .int .i64 0, .int .i64 0] 32)).drew = W9 := ⟨_, rfl⟩
      have hbn : Below V2.heap.size V2 Wm := by rw [← hWm]; exact ((Below.refl _ V2).alloc (Nat.le_refl _) _).drew
      have hG : Blk Wm V2.heap.size 32 #[.int .i64 0, .int .i64 0, .int .i64 0] := by rw [← hWm]; exact Blk.new _ _ _
      rw [hWm]
      clear hWm
      refine hK.out _ _ ⟨(HI2.out.2.blk.below hbn HI2.out.2.blk.lt).cell 0, (HI2.out.2.blk.below hbn HI2.out.2.blk.lt).cell 1, (HI2.out.2.blk.below hbn HI2.out.2.blk.lt).cell 3, (HI2.out.2.blk.below hbn HI2.out.2.blk.lt).cell 4, (HI2.out.2.blk.below hbn HI2.out.2.blk.lt).cell 5, (bV.below hbn bV.lt).cell 1, (bV.below hbn bV.lt).cell 2, (bV.below hbn bV.lt).cell 3, (bV.below hbn bV.lt).cell 4, (bV.below hbn bV.lt).cell 5, (bV.below hbn bV.lt).cell 6, (bV.below hbn bV.lt).cell 7, (bV.below hbn bV.lt).cell 8⟩ (fun hHeld => ?_)
      clear hK K
      try simp only [List.getElem_toArray, List.getElem_cons_succ, List.getElem_cons_zero, Act.put, List.setIfInBounds_toArray, List.set_cons_zero, List.set_cons_succ]
      refine wpAnyH_ready (rs := [14]) (by kernel_rfl) (by simp) ?_
      refine AllReadyH.cons (o := _) rfl (fun K hK => ?_) AllReadyH.nil
      try simp only [List.getElem_toArray, List.getElem_cons_succ, List.getElem_cons_zero]
      try rw [if_pos (show Region.wanted _ _ = true from rfl)]
      go_simp
      refine (HC.out Wm).mono ?_
      rintro x wy ⟨hby, v, rfl, hvo⟩
      have hwy : Below V2.heap.size V2 wy := hbn.trans (hby.mono hbn.size)
      have hvo := own_base hvo hbn.size
      have hG := hG.below hby hG.lt
      go_wp2_with fail
      refine hK.out _ _ ⟨(HI2.out.2.blk.below hwy HI2.out.2.blk.lt).cell 0, (HI2.out.2.blk.below hwy HI2.out.2.blk.lt).cell 1, (HI2.out.2.blk.below hwy HI2.out.2.blk.lt).cell 3, (HI2.out.2.blk.below hwy HI2.out.2.blk.lt).cell 4, (HI2.out.2.blk.below hwy HI2.out.2.blk.lt).cell 5, (bV.below hwy bV.lt).cell 1, (bV.below hwy bV.lt).cell 2, (bV.below hwy bV.lt).cell 3, (bV.below hwy bV.lt).cell 4, (bV.below hwy bV.lt).cell 5, (bV.below hwy bV.lt).cell 6, (bV.below hwy bV.lt).cell 7, (bV.below hwy bV.lt).cell 8⟩ (fun hHeld => ?_)
      clear hK K
      try simp only [List.getElem_toArray, List.getElem_cons_succ, List.getElem_cons_zero, Act.put, List.setIfInBounds_toArray, List.set_cons_zero, List.set_cons_succ]
      refine wpAnyH_take (i := 15) (oi := _) (v := ?_) rfl (by kernel_rfl) (by kernel_rfl) (by kernel_rfl) (fun _ _ _ h => h) (Or.inl ⟨by rfl, ?_⟩) (by assumption) ?_
      rotate_left 1
      · (intro w9 hS9; (try dsimp only at hS9); go_simp <;> with_reducible rfl)
      try simp only [List.getElem_toArray, List.getElem_cons_succ, List.getElem_cons_zero, Act.put, List.setIfInBounds_toArray, List.set_cons_zero, List.set_cons_succ]
      refine wpAnyH_take (i := 16) (oi := _) (v := ?_) rfl (by kernel_rfl) (by kernel_rfl) (by kernel_rfl) (fun _ _ _ h => h) (Or.inl ⟨by rfl, ?_⟩) (by assumption) ?_
      rotate_left 1
      · (intro w9 hS9; (try dsimp only at hS9); go_simp <;> with_reducible rfl)
      try simp only [List.getElem_toArray, List.getElem_cons_succ, List.getElem_cons_zero, Act.put, List.setIfInBounds_toArray, List.set_cons_zero, List.set_cons_succ]
      refine wpAnyH_take (i := 17) (oi := _) (v := ?_) rfl (by kernel_rfl) (by kernel_rfl) (by kernel_rfl) (fun _ _ _ h => h) (Or.inl ⟨by rfl, ?_⟩) (by assumption) ?_
      rotate_left 1
      · (intro w9 hS9; (try dsimp only at hS9); go_simp <;> with_reducible rfl)
      try simp only [List.getElem_toArray, List.getElem_cons_succ, List.getElem_cons_zero, Act.put, List.setIfInBounds_toArray, List.set_cons_zero, List.set_cons_succ]
      refine wpAnyH_ready (rs := [19]) (by kernel_rfl) (by simp) ?_
      refine AllReadyH.cons (o := _) rfl (fun K hK => ?_) AllReadyH.nil
      try simp only [List.getElem_toArray, List.getElem_cons_succ, List.getElem_cons_zero]
      try rw [if_pos (show Region.wanted _ _ = true from rfl)]
      refine wp_store_row 32 _ _ (by rfl) V2.heap.size #[.int .i64 e9, .int .i64 h9, .int .i64 u9] (by rfl) (by rfl) 32 _ hG (by kernel_rfl) rfl (by simp [Value.oneCell']) ?_
      have hfin : Below V2.heap.size V2 (wy.setRow V2.heap.size #[.int .i64 e9, .int .i64 h9, .int .i64 u9]) := below_setRow hwy (Nat.le_refl _) _
      have hgr : Blk (wy.setRow V2.heap.size #[.int .i64 e9, .int .i64 h9, .int .i64 u9]) V2.heap.size 32 #[.int .i64 e9, .int .i64 h9, .int .i64 u9] := hG.setRow _
      have hvo := own_keep (w' := wy.setRow V2.heap.size #[.int .i64 e9, .int .i64 h9, .int .i64 u9]) hvo (fun b hb => setRow_other _ _ _ _ (fun e9' => tag_ne hvo hG (by decide) b hb e9'))
      refine hK.out _ _ ⟨(HI2.out.2.blk.below hfin HI2.out.2.blk.lt).cell 0, (HI2.out.2.blk.below hfin HI2.out.2.blk.lt).cell 1, (HI2.out.2.blk.below hfin HI2.out.2.blk.lt).cell 3, (HI2.out.2.blk.below hfin HI2.out.2.blk.lt).cell 4, (HI2.out.2.blk.below hfin HI2.out.2.blk.lt).cell 5, (bV.below hfin bV.lt).cell 1, (bV.below hfin bV.lt).cell 2, (bV.below hfin bV.lt).cell 3, (bV.below hfin bV.lt).cell 4, (bV.below hfin bV.lt).cell 5, (bV.below hfin bV.lt).cell 6, (bV.below hfin bV.lt).cell 7, (bV.below hfin bV.lt).cell 8⟩ (fun hHeld => ?_)
      clear hK K
      try simp only [List.getElem_toArray, List.getElem_cons_succ, List.getElem_cons_zero, Act.put, List.setIfInBounds_toArray, List.set_cons_zero, List.set_cons_succ]
      refine wpAnyH_done (by kernel_rfl) ?_ _
      refine tailQ_step rfl ?_
      go_wp2_with fail
      refine tailQ_nil (panQ_normal ?_)
      try go_wp2_with fail
      go_meet
      exact ⟨V2.heap.size, v, rfl, rfl, hfin, hgr, Nat.le_refl _, hvo⟩
    exact AllReadyH.nil
  case rest =>
    obtain ⟨gn, v, rfl, rfl, hbx, hgr, hgn, hvo⟩ := hcut
    obtain ⟨Av, cv, rfl, _, _, hrv⟩ := own_slice hvo
    have HI4 := Lib.hid (And.intro (HI2.out.1.below hbx) (HI2.out.2.below hbx))
    generalize wc = wD at *
    obtain ⟨AA, cA, rfl, _, _, _⟩ := own_slice HI4.out.2.A
    have hall : al.length ≤ 1 := by
      rw [← HAL.out, List.length_map]
      unfold handA renL
      (repeat' split) <;> simp
    have hone : ∀ x ∈ al.flatten, x.oneCell' = true := by
      intro x hx
      obtain ⟨l, hl9, hx⟩ := List.mem_flatten.1 hx
      rw [← HAL.out] at hl9
      obtain ⟨q, _, rfl⟩ := List.mem_map.1 hl9
      unfold encMs msL at hx
      simp only [List.mem_cons, List.not_mem_nil, or_false] at hx
      rcases hx with rfl | rfl | rfl | rfl | rfl | rfl | rfl | rfl <;> rfl
    have hBD := HI4.out.2.below (Below.refl wD.heap.size wD).drew
    have hgD : Blk wD.drew gn 32 #[.int .i64 e9, .int .i64 h9, .int .i64 u9] := hgr
    have hrD : Reads wD.drew wD.drew.heap.size 8 Av al.length al.flatten := hrv
    have hsz : low ≤ wD.drew.heap.size := HI4.out.1.sz
    clear hbx hgr hrv hvo bV
    go_upto_region 22 with fail
    refine wp_pan (Pc := fun _ _ _ => False) (fun _ _ _ h => h.elim) ?_
    refine wp_region_tail_lit (S := fun V => V.cell? ⟨g, 8, none⟩ = some (.slice AA s.an.length cA) ∧ V.cell? ⟨gn, 0, none⟩ = some (.int .i64 e9) ∧ V.cell? ⟨gn, 1, none⟩ = some (.int .i64 h9) ∧ V.cell? ⟨gn, 2, none⟩ = some (.int .i64 u9)) 14 (by kernel_rfl) (by kernel_rfl) ⟨hBD.blk.cell 8, hgD.cell 0, hgD.cell 1, hgD.cell 2⟩ (fun hHeld => ?_)
    simp only [List.take, List.drop]
    refine wpAnyH_take (i := 0) (oi := _) (v := ?_) rfl (by kernel_rfl) (by kernel_rfl) (by kernel_rfl) (fun _ _ _ h => h) (Or.inl ⟨by rfl, ?_⟩) (by assumption) ?_
    rotate_left 1
    · (intro w9 hS9; (try dsimp only at hS9); go_simp <;> with_reducible rfl)
    try simp only [List.getElem_toArray, List.getElem_cons_succ, List.getElem_cons_zero, Act.put, List.setIfInBounds_toArray, List.set_cons_zero, List.set_cons_succ]
    refine wpAnyH_take (i := 1) (oi := _) (v := ?_) rfl (by kernel_rfl) (by kernel_rfl) (by kernel_rfl) (fun _ _ _ h => h) (Or.inl ⟨by rfl, ?_⟩) (by assumption) ?_
    rotate_left 1
    · (intro w9 hS9; (try dsimp only at hS9); go_simp <;> with_reducible rfl)
    try simp only [List.getElem_toArray, List.getElem_cons_succ, List.getElem_cons_zero, Act.put, List.setIfInBounds_toArray, List.set_cons_zero, List.set_cons_succ]
    refine wpAnyH_take (i := 2) (oi := _) (v := ?_) rfl (by kernel_rfl) (by kernel_rfl) (by kernel_rfl) (fun _ _ _ h => h) (Or.inl ⟨by rfl, ?_⟩) (by assumption) ?_
    rotate_left 1
    · (intro w9 hS9; (try dsimp only at hS9); go_simp <;> with_reducible rfl)
    try simp only [List.getElem_toArray, List.getElem_cons_succ, List.getElem_cons_zero, Act.put, List.setIfInBounds_toArray, List.set_cons_zero, List.set_cons_succ]
    refine wpAnyH_take (i := 3) (oi := _) (v := ?_) rfl (by kernel_rfl) (by kernel_rfl) (by kernel_rfl) (fun _ _ _ h => h) (Or.inl ⟨by rfl, ?_⟩) (by assumption) ?_
    rotate_left 1
    · (intro w9 hS9; (try dsimp only at hS9); go_simp <;> with_reducible rfl)
    try simp only [List.getElem_toArray, List.getElem_cons_succ, List.getElem_cons_zero, Act.put, List.setIfInBounds_toArray, List.set_cons_zero, List.set_cons_succ]
    refine wpAnyH_take (i := 4) (oi := _) (v := ?_) rfl (by kernel_rfl) (by kernel_rfl) (by kernel_rfl) (fun _ _ _ h => h) (Or.inl ⟨by rfl, ?_⟩) (by assumption) ?_
    rotate_left 1
    · (intro w9 hS9; (try dsimp only at hS9); go_simp <;> with_reducible rfl)
    try simp only [List.getElem_toArray, List.getElem_cons_succ, List.getElem_cons_zero, Act.put, List.setIfInBounds_toArray, List.set_cons_zero, List.set_cons_succ]
    refine wpAnyH_take (i := 5) (oi := _) (v := ?_) rfl (by kernel_rfl) (by kernel_rfl) (by kernel_rfl) (fun _ _ _ h => h) (Or.inl ⟨by rfl, ?_⟩) (by assumption) ?_
    rotate_left 1
    · (intro w9 hS9; (try dsimp only at hS9); go_simp <;> with_reducible rfl)
    try simp only [List.getElem_toArray, List.getElem_cons_succ, List.getElem_cons_zero, Act.put, List.setIfInBounds_toArray, List.set_cons_zero, List.set_cons_succ]
    refine wpAnyH_take (i := 6) (oi := _) (v := ?_) rfl (by kernel_rfl) (by kernel_rfl) (by kernel_rfl) (fun _ _ _ h => h) (Or.inl ⟨by rfl, ?_⟩) (by assumption) ?_
    rotate_left 1
    · (intro w9 hS9; (try dsimp only at hS9); go_simp <;> with_reducible rfl)
    try simp only [List.getElem_toArray, List.getElem_cons_succ, List.getElem_cons_zero, Act.put, List.setIfInBounds_toArray, List.set_cons_zero, List.set_cons_succ]
    refine wpAnyH_take (i := 7) (oi := _) (v := ?_) rfl (by kernel_rfl) (by kernel_rfl) (by kernel_rfl) (fun _ _ _ h => h) (Or.inl ⟨by rfl, ?_⟩) (by assumption) ?_
    rotate_left 1
    · (intro w9 hS9; (try dsimp only at hS9); go_simp <;> with_reducible rfl)
    try simp only [List.getElem_toArray, List.getElem_cons_succ, List.getElem_cons_zero, Act.put, List.setIfInBounds_toArray, List.set_cons_zero, List.set_cons_succ]
    refine wpAnyH_ready (rs := [8]) (by kernel_rfl) (by simp) ?_
    refine AllReadyH.cons (o := _) rfl (fun K hK => ?_) AllReadyH.nil
    try simp only [List.getElem_toArray, List.getElem_cons_succ, List.getElem_cons_zero]
    try rw [if_pos (show Region.wanted _ _ = true from rfl)]
    refine wp_append_any wD.drew (.tmp 143) (.tmp 144) 35 (by rfl) low 49 i0 _ 8 96 Try.underlying35 HII.out.1 HII.out.2.1 HII.out.2.2.1 HII.out.2.2.2 rfl (by omega) (.slice AA s.an.length cA) s.an.length (s.an.flatMap encMs) (by rfl) hBD.A _ Av al.length cv al.flatten (by rfl) hrD hone (by unfold maxLen; omega) (by omega) hsz ?_
    intro vA' W9 ho9 hg9 hv9
    have n9 : ∀ t : TypeId, ∀ b cs, Blk wD.drew b t cs → t ≠ 49 → Blk W9 b t cs := fun t b cs hb ht => hb.grown hg9 (fun e9' => tag_ne hBD.A hb (fun h => ht h.symm) b e9'.symm rfl)
    have k0 := n9 39 g _ hBD.blk (by decide)
    have kg := n9 32 gn _ hgD (by decide)
    obtain ⟨A2, c2, rfl, _, _, _⟩ := own_slice ho9
    refine hK.out _ _ ⟨k0.cell 8, kg.cell 0, kg.cell 1, kg.cell 2⟩ (fun hHeld => ?_)
    clear hK K
    try simp only [List.getElem_toArray, List.getElem_cons_succ, List.getElem_cons_zero, Act.put, List.setIfInBounds_toArray, List.set_cons_zero, List.set_cons_succ]
    refine wpAnyH_take (i := 9) (oi := _) (v := ?_) rfl (by kernel_rfl) (by kernel_rfl) (by kernel_rfl) (fun _ _ _ h => h) (Or.inl ⟨by rfl, ?_⟩) (by assumption) ?_
    rotate_left 1
    · (intro w9 hS9; (try dsimp only at hS9); go_simp <;> with_reducible rfl)
    try simp only [List.getElem_toArray, List.getElem_cons_succ, List.getElem_cons_zero, Act.put, List.setIfInBounds_toArray, List.set_cons_zero, List.set_cons_succ]
    refine wpAnyH_take (i := 10) (oi := _) (v := ?_) rfl (by kernel_rfl) (by kernel_rfl) (by kernel_rfl) (fun _ _ _ h => h) (Or.inl ⟨by rfl, ?_⟩) (by assumption) ?_
    rotate_left 1
    · (intro w9 hS9; (try dsimp only at hS9); go_simp <;> with_reducible rfl)
    try simp only [List.getElem_toArray, List.getElem_cons_succ, List.getElem_cons_zero, Act.put, List.setIfInBounds_toArray, List.set_cons_zero, List.set_cons_succ]
    have c3 : W9.cell? ⟨g, 3, none⟩ = some (.int .i64 s.we) := k0.cell 3
    have f3 : W9.frozen? ⟨g, 3, none⟩ = false := k0.frozen 3
    have c4 : W9.cell? ⟨g, 4, none⟩ = some (.int .i64 s.wh) := k0.cell 4
    have f4 : W9.frozen? ⟨g, 4, none⟩ = false := k0.frozen 4
    have c5 : W9.cell? ⟨g, 5, none⟩ = some (.int .i64 s.wu) := k0.cell 5
    have f5 : W9.frozen? ⟨g, 5, none⟩ = false := k0.frozen 5
    have hng : gn ≠ g := blk_ne kg k0 (by decide)
    have j0 := ((k0.set_ 3 (.int .i64 e9)).set_ 4 (.int .i64 h9)).set_ 5 (.int .i64 u9)
    have jg := ((kg.far (p := ⟨g, 3, none⟩) hng (.int .i64 e9)).far (p := ⟨g, 4, none⟩) hng (.int .i64 h9)).far (p := ⟨g, 5, none⟩) hng (.int .i64 u9)
    refine wpAnyH_ready (rs := [11]) (by kernel_rfl) (by simp) ?_
    refine AllReadyH.cons (o := _) rfl (fun K hK => ?_) AllReadyH.nil
    try simp only [List.getElem_toArray, List.getElem_cons_succ, List.getElem_cons_zero]
    try rw [if_pos (show Region.wanted _ _ = true from rfl)]
    go_simp
    refine hK.out _ _ ⟨j0.cell 8, jg.cell 0, jg.cell 1, jg.cell 2⟩ (fun hHeld => ?_)
    clear hK K
    try simp only [List.getElem_toArray, List.getElem_cons_succ, List.getElem_cons_zero, Act.put, List.setIfInBounds_toArray, List.set_cons_zero, List.set_cons_succ]
    refine wpAnyH_take (i := 12) (oi := _) (v := ?_) rfl (by kernel_rfl) (by kernel_rfl) (by kernel_rfl) (fun _ _ _ h => h) (Or.inl ⟨by rfl, ?_⟩) (by assumption) ?_
    rotate_left 1
    · (intro w9 hS9; (try dsimp only at hS9); go_simp <;> with_reducible rfl)
    try simp only [List.getElem_toArray, List.getElem_cons_succ, List.getElem_cons_zero, Act.put, List.setIfInBounds_toArray, List.set_cons_zero, List.set_cons_succ]
    refine wpAnyH_take (i := 13) (oi := _) (v := ?_) rfl (by kernel_rfl) (by kernel_rfl) (by kernel_rfl) (fun _ _ _ h => h) (Or.inl ⟨by rfl, ?_⟩) (by assumption) ?_
    rotate_left 1
    · (intro w9 hS9; (try dsimp only at hS9); go_simp <;> with_reducible rfl)
    try simp only [List.getElem_toArray, List.getElem_cons_succ, List.getElem_cons_zero, Act.put, List.setIfInBounds_toArray, List.set_cons_zero, List.set_cons_succ]
    have c8 : (((W9.setCell ⟨g, 3, none⟩ (.int .i64 e9)).setCell ⟨g, 4, none⟩ (.int .i64 h9)).setCell ⟨g, 5, none⟩ (.int .i64 u9)).cell? ⟨g, 8, none⟩ = some (.slice (AA) s.an.length cA) := j0.cell 8
    have f8 : (((W9.setCell ⟨g, 3, none⟩ (.int .i64 e9)).setCell ⟨g, 4, none⟩ (.int .i64 h9)).setCell ⟨g, 5, none⟩ (.int .i64 u9)).frozen? ⟨g, 8, none⟩ = false := j0.frozen 8
    have c8' : W9.cell? ⟨g, 8, none⟩ = some (.slice (AA) s.an.length cA) := k0.cell 8
    have f8' : W9.frozen? ⟨g, 8, none⟩ = false := k0.frozen 8
    refine wpAnyH_done (by kernel_rfl) ?_ _
    refine tailQ_step rfl ?_
    go_wp2_with fail
    refine tailQ_nil (panQ_normal ?_)
    go_wp2_with fail
    go_ret
    have hfin := hBD.hand (s' := handM s m) ho9 hg9 e9 h9 u9 (by unfold handM; rw [List.length_append, ← HAL.out, List.length_map]) (by rw [← HAL.out]; simp [handM, List.flatMap_def]) rfl rfl (by unfold handM stC; rw [HW9.out.1, HW9.out.2.1, HW9.out.2.2]; rfl)
    have hgw := HI4.out.1.gw
    have hb9 : Below w.heap.size w W9 := (HI4.out.1.below (Below.refl wD.heap.size wD).drew).bel.grown hg9 (HI4.out.1.bel.size) (fun b hb => Nat.le_trans HI4.out.1.lw (own_block_ge hBD.A b hb))
    have hfI : StI w g low (handM s m) (((((W9.setCell ⟨g, 3, none⟩ (.int .i64 e9)).setCell ⟨g, 4, none⟩ (.int .i64 h9)).setCell ⟨g, 5, none⟩ (.int .i64 u9)).setCell ⟨g, 8, none⟩ (.slice A2 (s.an.length + al.length) c2))) := ⟨⟨_, _, _, hfin⟩, HI4.out.1.lw, hgw, by have := hg9.size; simp; omega, (((hb9.setCell (p := ⟨g, 3, none⟩) hgw _).setCell (p := ⟨g, 4, none⟩) hgw _).setCell (p := ⟨g, 5, none⟩) hgw _).setCell (p := ⟨g, 8, none⟩) hgw _⟩
    exact ⟨rfl, handM s m, hfI, .inr ⟨⟨t, m⟩, hmem, rfl⟩⟩
end Go.Proofs.Ytggaaajkbnhofaa
