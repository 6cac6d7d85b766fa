/- The walk of learn. Conditions: answers in order, few of them. -/
import Derived.Test.YtggaaajkbnhofaaWl
namespace Go.Proofs.Ytggaaajkbnhofaa
open Go.RowKit
theorem pick_idx (n : Nat) (hn : 0 < n) (wh : Int) : ∃ (r1 r2 : Int) (a : Nat), wh.tmod n = r1 ∧ (r1 + n).tmod n = r2 ∧ (n : Int) - 1 - r2 = (a : Nat) ∧ a < n ∧ -(n : Int) < r1 ∧ r1 < n ∧ 0 ≤ r2 ∧ r2 < n := by
  have hp : (0 : Int) < n := by omega
  have h1 : -(n : Int) < wh.tmod n := by have := Int.tmod_lt_of_pos (-wh) hp; rw [Int.neg_tmod] at this; omega
  have h2 : wh.tmod n < n := Int.tmod_lt_of_pos wh hp
  have h3 : 0 ≤ (wh.tmod n + n).tmod n := Int.tmod_nonneg _ (by omega)
  have h4 : (wh.tmod n + n).tmod n < n := Int.tmod_lt_of_pos _ hp
  exact ⟨_, _, ((n : Int) - 1 - (wh.tmod n + n).tmod n).toNat, rfl, rfl, by omega, by omega, h1, h2, h3, h4⟩
/-- a lease is laid anew -/
def updL (ls : Nat → Int × Int) (d : Nat) (p : Int × Int) : Nat → Int × Int := fun j => if j = d then p else ls j
theorem lsRow_upd (ls : Nat → Int × Int) {d : Nat} (hd : d < 3) (p : Int × Int) : (((lsRow ls).set (d * 3) (.int .i64 (d : Nat))).set (d * 3 + 1) (.int .i64 p.1)).set (d * 3 + 2) (.int .i64 p.2) = lsRow (updL ls d p) := by
  rcases d with _ | _ | _ | d
  · rfl
  · rfl
  · rfl
  · omega
theorem StB.lease {W : World} {g low b c : Nat} {s : St} {vR vA : Value} (h : StB g low s (.slice (some ⟨b, 0, none⟩) 3 c) vR vA W) {d : Nat} (hd : d < 3) (p : Int × Int) :
    StB g low { s with ls := updL s.ls d p } (.slice (some ⟨b, 0, none⟩) 3 c) vR vA (((W.setCell ⟨b, d * 3, none⟩ (.int .i64 (d : Nat))).setCell ⟨b, d * 3 + 1, none⟩ (.int .i64 p.1)).setCell ⟨b, d * 3 + 2, none⟩ (.int .i64 p.2)) := by
  have nR : vR.ownBlock ≠ some b := tag_two h.L h.R (by decide) b rfl
  have nA : vA.ownBlock ≠ some b := tag_two h.L h.A (by decide) b rfl
  have ng : g ≠ b := fun e => tag_ne h.L h.blk (by decide) b rfl e.symm
  refine ⟨((h.blk.far (p := ⟨b, d * 3, none⟩) ng _).far (p := ⟨b, d * 3 + 1, none⟩) ng _).far (p := ⟨b, d * 3 + 2, none⟩) ng _, ?_, own_far (own_far (own_far h.R (p := ⟨b, d * 3, none⟩) nR _) (p := ⟨b, d * 3 + 1, none⟩) nR _) (p := ⟨b, d * 3 + 2, none⟩) nR _, own_far (own_far (own_far h.A (p := ⟨b, d * 3, none⟩) nA _) (p := ⟨b, d * 3 + 1, none⟩) nA _) (p := ⟨b, d * 3 + 2, none⟩) nA _⟩
  have h1 := own_set (own_set (own_set h.L (d * 3) (.int .i64 (d : Nat))) (d * 3 + 1) (.int .i64 p.1)) (d * 3 + 2) (.int .i64 p.2)
  rw [lsRow_upd s.ls hd p] at h1
  exact h1
/-- what a site has learnt -/
def learnP (s : St) (m : Ms) (t : Int) : Int × Int :=
  if m.kd = 16 then (lgE (s.ls m.dt.toNat).1 m.ep, lgU (s.ls m.dt.toNat).1 (s.ls m.dt.toNat).2 m.ep (max (t + s.tm - s.mg) 0)) else ((s.ls m.dt.toNat).1, lrU (s.ls m.dt.toNat).1 (s.ls m.dt.toNat).2 m.ep)
def learnM (s : St) (m : Ms) (t : Int) : St := { s with ls := updL s.ls m.dt.toNat (learnP s m t) }
/-- an answer in order -/
structure AnOk (s : St) (m : Ms) : Prop where
  kd : m.kd = 16 ∧ m.vl = s.tm ∨ m.kd = 12 ∧ m.vl = 0
  dt : 0 ≤ m.dt ∧ m.dt < 3
  nm : 0 ≤ m.nm ∧ m.nm < s.rq.length
  ep : 0 ≤ m.ep ∧ m.ep ≤ 1000000
set_option linter.unusedSimpArgs false in
set_option maxRecDepth 100000 in
set_option maxHeartbeats 8000000 in
theorem learn_ok (w W : World) (g low : Nat) (s : St) (wh : Int) (hI : StI w g low s W) (hl : LsOk s.ls) (ha : ∀ m ∈ s.an, AnOk s m) (hq : ∀ q ∈ s.rq, 0 ≤ q.t ∧ q.t ≤ 1000000) (htm : 1 ≤ s.tm ∧ s.tm ≤ 100) (hmg : 0 ≤ s.mg ∧ s.mg ≤ 100) (hn : s.an.length ≤ 1000) (hrn : s.rq.length ≤ 1000) :
    Calls Try.prog 13 #[.pointer (some ⟨g, 0, none⟩), .int .i64 wh] W fun x W' => x = .returned (.tuple #[]) ∧ ∃ s', StI w g low s' W' ∧ (s' = s ∨ ∃ m q, m ∈ s.an ∧ s.rq[m.nm.toNat]? = some q ∧ s' = learnM s m q.t) := by
  obtain ⟨vL, vR, vA, hB⟩ := hI.blk
  obtain ⟨AL, cL, rfl, _, _, _⟩ := own_slice hB.L
  obtain ⟨AR, cR, rfl, _, _, hRR⟩ := own_slice hB.R
  obtain ⟨AA, cA, rfl, _, _, hRA⟩ := own_slice hB.A
  have HRR := Lib.hid (And.intro hRR hRA)
  clear hRR hRA
  have hgl := hB.blk.lt
  obtain ⟨n, hnn⟩ : ∃ n, s.an.length = n := ⟨_, rfl⟩
  have c8 : W.cell? ⟨g, 8, none⟩ = some (.slice AA n cA) := by rw [← hnn]; exact hB.blk.cell 8
  have HI := Lib.hid (And.intro hI hB)
  have HN := Lib.hid hnn
  clear hI hB
  rw [hnn] at hn
  clear hnn
  by_cases hn0 : n = 0
  · subst hn0
    go_enter Try.func13, Try.ntmps13
    go_wp2_with fail
    exact bodyPost_ret (v := .tuple #[]) (by simp [results, Try.f13, Try.results13, go_sem]) rfl ⟨rfl, s, HI.out.1, .inl rfl⟩
  obtain ⟨r1, r2, a, k1, k2, k3, han, hr1, hr1', hr2, hr2'⟩ := pick_idx n (by omega) wh
  have hal : a < s.an.length := by rw [HN.out]; exact han
  have hma := ha s.an[a] (List.getElem_mem hal)
  obtain ⟨ba, oa, hAA, hba, hca⟩ := HRR.out.2.elems (E := encMs) (fun _ => rfl) (by omega) (by omega)
  have hmem : s.an[a] ∈ s.an := List.getElem_mem hal
  have a0 := hca a hal 0 _ rfl
  have a1 := hca a hal 1 _ rfl
  have a2 := hca a hal 2 _ rfl
  have a3 := hca a hal 3 _ rfl
  have a4 := hca a hal 4 _ rfl
  have a5 := hca a hal 5 _ rfl
  have a6 := hca a hal 6 _ rfl
  have a7 := hca a hal 7 _ rfl
  clear hca
  generalize s.an[a] = m at *
  obtain ⟨kd, fr, dt, nm, vl, ep⟩ := m
  obtain ⟨hkd, hdt, hnm, hep⟩ := hma
  dsimp only at hkd hdt hnm hep a0 a1 a2 a3 a4 a5 a6 a7
  obtain ⟨d, rfl⟩ : ∃ d : Nat, dt = (d : Nat) := ⟨dt.toNat, by omega⟩
  obtain ⟨k, rfl⟩ : ∃ k : Nat, nm = (k : Nat) := ⟨nm.toNat, by omega⟩
  subst hAA
  rw [Nat.add_zero] at a0
  simp only [← Nat.add_assoc] at a1 a2 a3 a4 a5 a6 a7
  have hkl : k < s.rq.length := by omega
  obtain ⟨br, or_, hAR, hbr, hcr⟩ := HRR.out.1.elems (E := encRq) (fun _ => rfl) (by omega) (by omega)
  have hqm : s.rq[k] ∈ s.rq := List.getElem_mem hkl
  have hqt := hq s.rq[k] hqm
  have HQ : Hid (s.rq[k]? = some s.rq[k]) := List.getElem?_eq_getElem hkl
  have t0 := hcr k hkl 0 _ rfl
  rw [Nat.add_zero] at t0
  clear hcr
  subst hAR
  obtain ⟨t, ht⟩ : ∃ t : Int, t = s.rq[k].t := ⟨_, rfl⟩
  rw [← ht] at t0 hqt
  have HT := Lib.hid ht
  clear ht hqm
  have hd3 : d < 3 := by omega
  obtain ⟨bl, rfl, hbl, hlb, ⟨curL, hBL⟩, hcl⟩ := ls_cells HI.out.2.L
  obtain ⟨l0, l1, l2⟩ := hcl d hd3
  have hld := hl d hd3
  clear hcl
  obtain ⟨e, he⟩ : ∃ e : Int, e = (s.ls d).1 := ⟨_, rfl⟩
  rw [← he] at l1 hld
  obtain ⟨u, hu⟩ : ∃ u : Int, u = (s.ls d).2 := ⟨_, rfl⟩
  rw [← hu] at l2 hld
  have HEU := Lib.hid (And.intro he hu)
  clear he hu
  have kn : ((n : Int) == 0) = false := by rw [beq_eq_false_iff_ne]; omega
  have w1 : IntKind.i64.wrap ((n : Int) - 1) = (n : Int) - 1 := IntWalk.i64_in _ (by omega)
  have w2 : IntKind.i64.wrap (r1 + n) = r1 + n := IntWalk.i64_in _ (by omega)
  have w3 : IntKind.i64.wrap ((a : Nat) : Int) = (a : Nat) := IntWalk.i64_in _ (by omega)
  have w4 : ((a : Nat) : Int) < n := by omega
  have bM := Blk.new W 49 #[.int .i64 0, .int .i64 0, .int .i64 0, .int .i64 0, .int .i64 0, .int .i64 0, .slice none 0 0, .slice none 0 0]
  have hbM : Below W.heap.size W (W.alloc (.cells #[.int .i64 0, .int .i64 0, .int .i64 0, .int .i64 0, .int .i64 0, .int .i64 0, .slice none 0 0, .slice none 0 0] 49)).drew := ((Below.refl _ W).alloc (Nat.le_refl _) _).drew
  go_enter Try.func13, Try.ntmps13
  go_upto_region 2 with fail
  refine wp_pan (Pc := fun _ _ _ => False) (fun _ _ _ h => h.elim) ?_
  refine wp_region_tail_lit (S := fun V => V.cell? ⟨g, 8, none⟩ = some (.slice (some ⟨ba, oa, none⟩) n cA) ∧ V.cell? ⟨ba, oa + a * 8, none⟩ = some (.int .i64 kd) ∧ V.cell? ⟨ba, oa + a * 8 + 1, none⟩ = some (.int .i64 fr) ∧ V.cell? ⟨ba, oa + a * 8 + 2, none⟩ = some (.int .i64 (d : Nat)) ∧ V.cell? ⟨ba, oa + a * 8 + 3, none⟩ = some (.int .i64 (k : Nat)) ∧ V.cell? ⟨ba, oa + a * 8 + 4, none⟩ = some (.int .i64 vl) ∧ V.cell? ⟨ba, oa + a * 8 + 5, none⟩ = some (.int .i64 ep) ∧ V.cell? ⟨ba, oa + a * 8 + 6, none⟩ = some (.slice none 0 0) ∧ V.cell? ⟨ba, oa + a * 8 + 7, none⟩ = some (.slice none 0 0)) 17 (by kernel_rfl) (by kernel_rfl) ⟨(((Below.refl W.heap.size W).drew).cell (p := ⟨g, 8, none⟩) hgl).trans c8, (((Below.refl W.heap.size W).drew).cell (p := ⟨ba, oa + a * 8, none⟩) hba).trans a0, (((Below.refl W.heap.size W).drew).cell (p := ⟨ba, oa + a * 8 + 1, none⟩) hba).trans a1, (((Below.refl W.heap.size W).drew).cell (p := ⟨ba, oa + a * 8 + 2, none⟩) hba).trans a2, (((Below.refl W.heap.size W).drew).cell (p := ⟨ba, oa + a * 8 + 3, none⟩) hba).trans a3, (((Below.refl W.heap.size W).drew).cell (p := ⟨ba, oa + a * 8 + 4, none⟩) hba).trans a4, (((Below.refl W.heap.size W).drew).cell (p := ⟨ba, oa + a * 8 + 5, none⟩) hba).trans a5, (((Below.refl W.heap.size W).drew).cell (p := ⟨ba, oa + a * 8 + 6, none⟩) hba).trans a6, (((Below.refl W.heap.size W).drew).cell (p := ⟨ba, oa + a * 8 + 7, none⟩) hba).trans a7⟩ (fun hHeld => ?_)
  simp only [List.take, List.drop]
  refine wpAnyH_take (i := 0) (oi := _) (v := ?_) rfl (by kernel_rfl) (by kernel_rfl) (by kernel_rfl) (fun _ _ _ h => h) (Or.inl ⟨by rfl, ?_⟩) (by assumption) ?_
  rotate_left 1
  · (intro w9 hS9; (try dsimp only at hS9); go_simp <;> with_reducible rfl)
  try simp only [List.getElem_toArray, List.getElem_cons_succ, List.getElem_cons_zero, Act.put, List.setIfInBounds_toArray, List.set_cons_zero, List.set_cons_succ]
  refine wpAnyH_take (i := 1) (oi := _) (v := ?_) rfl (by kernel_rfl) (by kernel_rfl) (by kernel_rfl) (fun _ _ _ h => h) (Or.inl ⟨by rfl, ?_⟩) (by assumption) ?_
  rotate_left 1
  · (intro w9 hS9; (try dsimp only at hS9); go_simp <;> with_reducible rfl)
  try simp only [List.getElem_toArray, List.getElem_cons_succ, List.getElem_cons_zero, Act.put, List.setIfInBounds_toArray, List.set_cons_zero, List.set_cons_succ]
  refine wpAnyH_take (i := 2) (oi := _) (v := ?_) rfl (by kernel_rfl) (by kernel_rfl) (by kernel_rfl) (fun _ _ _ h => h) (Or.inl ⟨by rfl, ?_⟩) (by assumption) ?_
  rotate_left 1
  · (intro w9 hS9; (try dsimp only at hS9); go_simp <;> with_reducible rfl)
  try simp only [List.getElem_toArray, List.getElem_cons_succ, List.getElem_cons_zero, Act.put, List.setIfInBounds_toArray, List.set_cons_zero, List.set_cons_succ]
  refine wpAnyH_take (i := 3) (oi := _) (v := ?_) rfl (by kernel_rfl) (by kernel_rfl) (by kernel_rfl) (fun _ _ _ h => h) (Or.inl ⟨by rfl, ?_⟩) (by assumption) ?_
  rotate_left 1
  · (intro w9 hS9; (try dsimp only at hS9); go_simp <;> with_reducible rfl)
  try simp only [List.getElem_toArray, List.getElem_cons_succ, List.getElem_cons_zero, Act.put, List.setIfInBounds_toArray, List.set_cons_zero, List.set_cons_succ]
  refine wpAnyH_take (i := 4) (oi := _) (v := ?_) rfl (by kernel_rfl) (by kernel_rfl) (by kernel_rfl) (fun _ _ _ h => h) (Or.inl ⟨by rfl, ?_⟩) (by assumption) ?_
  rotate_left 1
  · (intro w9 hS9; (try dsimp only at hS9); go_simp <;> with_reducible rfl)
  try simp only [List.getElem_toArray, List.getElem_cons_succ, List.getElem_cons_zero, Act.put, List.setIfInBounds_toArray, List.set_cons_zero, List.set_cons_succ]
  refine wpAnyH_take (i := 5) (oi := _) (v := ?_) rfl (by kernel_rfl) (by kernel_rfl) (by kernel_rfl) (fun _ _ _ h => h) (Or.inl ⟨by rfl, ?_⟩) (by assumption) ?_
  rotate_left 1
  · (intro w9 hS9; (try dsimp only at hS9); go_simp <;> with_reducible rfl)
  try simp only [List.getElem_toArray, List.getElem_cons_succ, List.getElem_cons_zero, Act.put, List.setIfInBounds_toArray, List.set_cons_zero, List.set_cons_succ]
  refine wpAnyH_take (i := 6) (oi := _) (v := ?_) rfl (by kernel_rfl) (by kernel_rfl) (by kernel_rfl) (fun _ _ _ h => h) (Or.inl ⟨by rfl, ?_⟩) (by assumption) ?_
  rotate_left 1
  · (intro w9 hS9; (try dsimp only at hS9); go_simp <;> with_reducible rfl)
  try simp only [List.getElem_toArray, List.getElem_cons_succ, List.getElem_cons_zero, Act.put, List.setIfInBounds_toArray, List.set_cons_zero, List.set_cons_succ]
  refine wpAnyH_take (i := 7) (oi := _) (v := ?_) rfl (by kernel_rfl) (by kernel_rfl) (by kernel_rfl) (fun _ _ _ h => h) (Or.inl ⟨by rfl, ?_⟩) (by assumption) ?_
  rotate_left 1
  · (intro w9 hS9; (try dsimp only at hS9); go_simp <;> with_reducible rfl)
  try simp only [List.getElem_toArray, List.getElem_cons_succ, List.getElem_cons_zero, Act.put, List.setIfInBounds_toArray, List.set_cons_zero, List.set_cons_succ]
  refine wpAnyH_take (i := 8) (oi := _) (v := ?_) rfl (by kernel_rfl) (by kernel_rfl) (by kernel_rfl) (fun _ _ _ h => h) (Or.inl ⟨by rfl, ?_⟩) (by assumption) ?_
  rotate_left 1
  · (intro w9 hS9; (try dsimp only at hS9); go_simp <;> with_reducible rfl)
  try simp only [List.getElem_toArray, List.getElem_cons_succ, List.getElem_cons_zero, Act.put, List.setIfInBounds_toArray, List.set_cons_zero, List.set_cons_succ]
  refine wpAnyH_take (i := 9) (oi := _) (v := ?_) rfl (by kernel_rfl) (by kernel_rfl) (by kernel_rfl) (fun _ _ _ h => h) (Or.inl ⟨by rfl, ?_⟩) (by assumption) ?_
  rotate_left 1
  · (intro w9 hS9; (try dsimp only at hS9); go_simp <;> with_reducible rfl)
  try simp only [List.getElem_toArray, List.getElem_cons_succ, List.getElem_cons_zero, Act.put, List.setIfInBounds_toArray, List.set_cons_zero, List.set_cons_succ]
  refine wpAnyH_take (i := 10) (oi := _) (v := ?_) rfl (by kernel_rfl) (by kernel_rfl) (by kernel_rfl) (fun _ _ _ h => h) (Or.inl ⟨by rfl, ?_⟩) (by assumption) ?_
  rotate_left 1
  · (intro w9 hS9; (try dsimp only at hS9); go_simp <;> with_reducible rfl)
  try simp only [List.getElem_toArray, List.getElem_cons_succ, List.getElem_cons_zero, Act.put, List.setIfInBounds_toArray, List.set_cons_zero, List.set_cons_succ]
  refine wpAnyH_take (i := 11) (oi := _) (v := ?_) rfl (by kernel_rfl) (by kernel_rfl) (by kernel_rfl) (fun _ _ _ h => h) (Or.inl ⟨by rfl, ?_⟩) (by assumption) ?_
  rotate_left 1
  · (intro w9 hS9; (try dsimp only at hS9); go_simp <;> with_reducible rfl)
  try simp only [List.getElem_toArray, List.getElem_cons_succ, List.getElem_cons_zero, Act.put, List.setIfInBounds_toArray, List.set_cons_zero, List.set_cons_succ]
  refine wpAnyH_take (i := 12) (oi := _) (v := ?_) rfl (by kernel_rfl) (by kernel_rfl) (by kernel_rfl) (fun _ _ _ h => h) (Or.inl ⟨by rfl, ?_⟩) (by assumption) ?_
  rotate_left 1
  · (intro w9 hS9; (try dsimp only at hS9); go_simp <;> with_reducible rfl)
  try simp only [List.getElem_toArray, List.getElem_cons_succ, List.getElem_cons_zero, Act.put, List.setIfInBounds_toArray, List.set_cons_zero, List.set_cons_succ]
  refine wpAnyH_take (i := 13) (oi := _) (v := ?_) rfl (by kernel_rfl) (by kernel_rfl) (by kernel_rfl) (fun _ _ _ h => h) (Or.inl ⟨by rfl, ?_⟩) (by assumption) ?_
  rotate_left 1
  · (intro w9 hS9; (try dsimp only at hS9); go_simp <;> with_reducible rfl)
  try simp only [List.getElem_toArray, List.getElem_cons_succ, List.getElem_cons_zero, Act.put, List.setIfInBounds_toArray, List.set_cons_zero, List.set_cons_succ]
  refine wpAnyH_take (i := 14) (oi := _) (v := ?_) rfl (by kernel_rfl) (by kernel_rfl) (by kernel_rfl) (fun _ _ _ h => h) (Or.inl ⟨by rfl, ?_⟩) (by assumption) ?_
  rotate_left 1
  · (intro w9 hS9; (try dsimp only at hS9); go_simp <;> with_reducible rfl)
  try simp only [List.getElem_toArray, List.getElem_cons_succ, List.getElem_cons_zero, Act.put, List.setIfInBounds_toArray, List.set_cons_zero, List.set_cons_succ]
  refine wpAnyH_take (i := 15) (oi := _) (v := ?_) rfl (by kernel_rfl) (by kernel_rfl) (by kernel_rfl) (fun _ _ _ h => h) (Or.inl ⟨by rfl, ?_⟩) (by assumption) ?_
  rotate_left 1
  · (intro w9 hS9; (try dsimp only at hS9); go_simp <;> with_reducible rfl)
  try simp only [List.getElem_toArray, List.getElem_cons_succ, List.getElem_cons_zero, Act.put, List.setIfInBounds_toArray, List.set_cons_zero, List.set_cons_succ]
  refine wpAnyH_ready (rs := [16]) (by kernel_rfl) (by simp) ?_
  refine AllReadyH.cons (o := _) rfl (fun K hK => ?_) AllReadyH.nil
  try simp only [List.getElem_toArray, List.getElem_cons_succ, List.getElem_cons_zero]
  try rw [if_pos (show Region.wanted _ _ = true from rfl)]
  go_simp
  obtain ⟨Wn, hWn⟩ : ∃ W9, (W.alloc (.cells #[.int .i64 0, .int .i64 0, .int .i64 0, .int .i64 0, .int .i64 0, .int .i64 0, .slice none 0 0, .slice none 0 0] 49)).drew = W9 := ⟨_, rfl⟩
  rw [hWn] at hbM
  have bM : Blk Wn W.heap.size 49 #[.int .i64 0, .int .i64 0, .int .i64 0, .int .i64 0, .int .i64 0, .int .i64 0, .slice none 0 0, .slice none 0 0] := by rw [← hWn]; exact bM
  rw [hWn]
  have hsW : W.heap.size < Wn.heap.size := bM.lt
  clear hWn
  refine hK.out _ _ ⟨(hbM.cell (p := ⟨g, 8, none⟩) hgl).trans c8, (hbM.cell (p := ⟨ba, oa + a * 8, none⟩) hba).trans a0, (hbM.cell (p := ⟨ba, oa + a * 8 + 1, none⟩) hba).trans a1, (hbM.cell (p := ⟨ba, oa + a * 8 + 2, none⟩) hba).trans a2, (hbM.cell (p := ⟨ba, oa + a * 8 + 3, none⟩) hba).trans a3, (hbM.cell (p := ⟨ba, oa + a * 8 + 4, none⟩) hba).trans a4, (hbM.cell (p := ⟨ba, oa + a * 8 + 5, none⟩) hba).trans a5, (hbM.cell (p := ⟨ba, oa + a * 8 + 6, none⟩) hba).trans a6, (hbM.cell (p := ⟨ba, oa + a * 8 + 7, none⟩) hba).trans a7⟩ (fun hHeld => ?_)
  clear hK K
  try simp only [List.getElem_toArray, List.getElem_cons_succ, List.getElem_cons_zero, Act.put, List.setIfInBounds_toArray, List.set_cons_zero, List.set_cons_succ]
  refine wpAnyH_done (by kernel_rfl) ?_ _
  refine tailQ_step rfl ?_
  go_wp2_with (refine wpList_store_row rfl _ _ _ rfl W.heap.size _ rfl rfl 49 _ bM (by kernel_rfl) rfl (by simp [Value.oneCell']) ?_)
  refine tailQ_nil (panQ_normal ?_)
  have hbV : Below W.heap.size W (Wn.setRow W.heap.size #[.int .i64 kd, .int .i64 fr, .int .i64 (d : Nat), .int .i64 (k : Nat), .int .i64 vl, .int .i64 ep, .slice none 0 0, .slice none 0 0]) := below_setRow hbM (Nat.le_refl _) _
  have bV : Blk (Wn.setRow W.heap.size #[.int .i64 kd, .int .i64 fr, .int .i64 (d : Nat), .int .i64 (k : Nat), .int .i64 vl, .int .i64 ep, .slice none 0 0, .slice none 0 0]) W.heap.size 49 #[.int .i64 kd, .int .i64 fr, .int .i64 (d : Nat), .int .i64 (k : Nat), .int .i64 vl, .int .i64 ep, .slice none 0 0, .slice none 0 0] := bM.setRow _
  clear bM hbM c8 a0 a1 a2 a3 a4 a5 a6 a7 hsW k1 k2 k3 w1 w2 w3 w4 kn hr1 hr1' hr2 hr2'
  generalize (Wn.setRow W.heap.size #[.int .i64 kd, .int .i64 fr, .int .i64 (d : Nat), .int .i64 (k : Nat), .int .i64 vl, .int .i64 ep, .slice none 0 0, .slice none 0 0]) = V2 at *
  have hP : ∃ E U : Int, learnP s ⟨kd, fr, (d : Nat), (k : Nat), vl, ep⟩ t = (E, U) ∧ ∀ V : World, Calls Try.prog 25 #[.agg #[.int .i64 (d : Nat), .int .i64 e, .int .i64 u], .int .i64 t, .int .i64 s.tm, .int .i64 s.mg, .agg #[.int .i64 kd, .int .i64 fr, .int .i64 (d : Nat), .int .i64 (k : Nat), .int .i64 vl, .int .i64 ep, .slice none 0 0, .slice none 0 0]] V fun y w' => y = .returned (.agg #[.int .i64 (d : Nat), .int .i64 E, .int .i64 U]) ∧ Below V.heap.size V w' := by
    refine ⟨(learnP s ⟨kd, fr, (d : Nat), (k : Nat), vl, ep⟩ t).1, (learnP s ⟨kd, fr, (d : Nat), (k : Nat), vl, ep⟩ t).2, rfl, fun V => ?_⟩
    rcases hkd with ⟨rfl, rfl⟩ | ⟨rfl, rfl⟩
    · have h9 := Learn_grant (d : Nat) e u t s.tm s.mg fr (k : Nat) ep V (by omega) (by omega) (by omega) hqt htm hmg (by omega)
      unfold learnP
      rw [if_pos rfl]
      dsimp only [Int.toNat_natCast]
      rw [← HEU.out.1, ← HEU.out.2]
      exact h9
    · have h9 := Learn_refuse (d : Nat) e u t s.tm s.mg fr (k : Nat) ep V (by omega) (by omega) (by omega) hqt htm hmg (by omega)
      unfold learnP
      rw [if_neg (show ¬ (12 : Int) = 16 by decide)]
      dsimp only [Int.toNat_natCast]
      rw [← HEU.out.1, ← HEU.out.2]
      exact h9
  obtain ⟨E, U, hEU, hcall⟩ := hP
  have HP := Lib.hid (And.intro hEU hcall)
  clear hEU hcall
  have m0 : V2.cell? ⟨W.heap.size, 0, none⟩ = some (.int .i64 kd) := bV.cell 0
  have m2 : V2.cell? ⟨W.heap.size, 2, none⟩ = some (.int .i64 (d : Nat)) := bV.cell 2
  have m3 : V2.cell? ⟨W.heap.size, 3, none⟩ = some (.int .i64 (k : Nat)) := bV.cell 3
  have c6 : V2.cell? ⟨g, 6, none⟩ = some (.slice (some ⟨bl, 0, none⟩) 3 cL) := (HI.out.2.blk.below hbV HI.out.2.blk.lt).cell 6
  have c7 : V2.cell? ⟨g, 7, none⟩ = some (.slice (some ⟨br, or_, none⟩) s.rq.length cR) := (HI.out.2.blk.below hbV HI.out.2.blk.lt).cell 7
  have hsV := hbV.size
  have hwV := bV.lt
  have p1 : decide (((k : Nat) : Int) < 0) = false := decide_eq_false (by omega)
  have p2 : decide (((s.rq.length : Nat) : Int) ≤ ((k : Nat) : Int)) = false := decide_eq_false (by omega)
  have p3 : decide (s.rq.length ≤ k) = false := decide_eq_false (by omega)
  have p4 : decide (((d : Nat) : Int) < 0) = false := decide_eq_false (by omega)
  have p5 : decide ((3 : Int) ≤ ((d : Nat) : Int)) = false := decide_eq_false (by omega)
  have p6 : decide (3 ≤ d) = false := decide_eq_false (by omega)
  go_upto_region 3 with fail
  go_quiet (fail)
  generalize hV3 : V2.drewN nq = V3 at *
  have hb3 : Below V2.heap.size V2 V3 := by rw [← hV3]; exact below_drewN (Below.refl _ V2) nq
  have hbw : Below W.heap.size W V3 := hbV.trans (hb3.mono hsV)
  have b3 := bV.below hb3 hwV
  have HB3 := Lib.hid (HI.out.2.below hbw)
  have HI3 := Lib.hid (HI.out.1.below hbw)
  have t0 := (hbw.cell (p := ⟨br, or_ + k * 9, none⟩) hbr).trans t0
  have l0 := (hbw.cell (p := ⟨bl, d * 3, none⟩) hbl).trans l0
  have l1 := (hbw.cell (p := ⟨bl, d * 3 + 1, none⟩) hbl).trans l1
  have l2 := (hbw.cell (p := ⟨bl, d * 3 + 2, none⟩) hbl).trans l2
  have bL3 := hBL.below hbw hbl
  have hs3 := hbw.size
  have hgl : g < V3.heap.size := HB3.out.blk.lt
  have hbl : bl < V3.heap.size := by omega
  have hbr : br < V3.heap.size := by omega
  have hwl : W.heap.size < V3.heap.size := b3.lt
  clear p1 p2 p3 p4 p5 p6 m0 m2 m3 c6 c7 hb3 hbV bV hV3 hbw
  have c6 : V3.cell? ⟨g, 6, none⟩ = some (.slice (some ⟨bl, 0, none⟩) 3 cL) := HB3.out.blk.cell 6
  have c7 : V3.cell? ⟨g, 7, none⟩ = some (.slice (some ⟨br, or_, none⟩) s.rq.length cR) := HB3.out.blk.cell 7
  have c1 : V3.cell? ⟨g, 1, none⟩ = some (.int .i64 s.tm) := HB3.out.blk.cell 1
  have c2 : V3.cell? ⟨g, 2, none⟩ = some (.int .i64 s.mg) := HB3.out.blk.cell 2
  have m0 : V3.cell? ⟨W.heap.size, 0, none⟩ = some (.int .i64 kd) := b3.cell 0
  have m1 : V3.cell? ⟨W.heap.size, 1, none⟩ = some (.int .i64 fr) := b3.cell 1
  have m2 : V3.cell? ⟨W.heap.size, 2, none⟩ = some (.int .i64 (d : Nat)) := b3.cell 2
  have m3 : V3.cell? ⟨W.heap.size, 3, none⟩ = some (.int .i64 (k : Nat)) := b3.cell 3
  have m4 : V3.cell? ⟨W.heap.size, 4, none⟩ = some (.int .i64 vl) := b3.cell 4
  have m5 : V3.cell? ⟨W.heap.size, 5, none⟩ = some (.int .i64 ep) := b3.cell 5
  have m6 : V3.cell? ⟨W.heap.size, 6, none⟩ = some (.slice none 0 0) := b3.cell 6
  have m7 : V3.cell? ⟨W.heap.size, 7, none⟩ = some (.slice none 0 0) := b3.cell 7
  have d1 : ((d : Nat) : Int) < 3 := by omega
  have d2 : ((k : Nat) : Int) < s.rq.length := by omega
  go_upto_region 4 with fail
  refine wp_pan (Pc := fun _ _ _ => False) (fun _ _ _ h => h.elim) ?_
  refine wp_region_tail_lit (S := fun V => V.cell? ⟨g, 6, none⟩ = some (.slice (some ⟨bl, 0, none⟩) 3 cL) ∧ V.cell? ⟨g, 7, none⟩ = some (.slice (some ⟨br, or_, none⟩) s.rq.length cR) ∧ V.cell? ⟨g, 1, none⟩ = some (.int .i64 s.tm) ∧ V.cell? ⟨g, 2, none⟩ = some (.int .i64 s.mg) ∧ V.cell? ⟨br, or_ + k * 9, none⟩ = some (.int .i64 t) ∧ V.cell? ⟨bl, d * 3, none⟩ = some (.int .i64 (d : Nat)) ∧ V.cell? ⟨bl, d * 3 + 1, none⟩ = some (.int .i64 e) ∧ V.cell? ⟨bl, d * 3 + 2, none⟩ = some (.int .i64 u) ∧ V.cell? ⟨W.heap.size, 0, none⟩ = some (.int .i64 kd) ∧ V.cell? ⟨W.heap.size, 1, none⟩ = some (.int .i64 fr) ∧ V.cell? ⟨W.heap.size, 2, none⟩ = some (.int .i64 (d : Nat)) ∧ V.cell? ⟨W.heap.size, 3, none⟩ = some (.int .i64 (k : Nat)) ∧ V.cell? ⟨W.heap.size, 4, none⟩ = some (.int .i64 vl) ∧ V.cell? ⟨W.heap.size, 5, none⟩ = some (.int .i64 ep) ∧ V.cell? ⟨W.heap.size, 6, none⟩ = some (.slice none 0 0) ∧ V.cell? ⟨W.heap.size, 7, none⟩ = some (.slice none 0 0)) 34 (by kernel_rfl) (by kernel_rfl) ⟨(((Below.refl V3.heap.size V3).drew).cell (p := ⟨g, 6, none⟩) hgl).trans c6, (((Below.refl V3.heap.size V3).drew).cell (p := ⟨g, 7, none⟩) hgl).trans c7, (((Below.refl V3.heap.size V3).drew).cell (p := ⟨g, 1, none⟩) hgl).trans c1, (((Below.refl V3.heap.size V3).drew).cell (p := ⟨g, 2, none⟩) hgl).trans c2, (((Below.refl V3.heap.size V3).drew).cell (p := ⟨br, or_ + k * 9, none⟩) hbr).trans t0, (((Below.refl V3.heap.size V3).drew).cell (p := ⟨bl, d * 3, none⟩) hbl).trans l0, (((Below.refl V3.heap.size V3).drew).cell (p := ⟨bl, d * 3 + 1, none⟩) hbl).trans l1, (((Below.refl V3.heap.size V3).drew).cell (p := ⟨bl, d * 3 + 2, none⟩) hbl).trans l2, (((Below.refl V3.heap.size V3).drew).cell (p := ⟨W.heap.size, 0, none⟩) hwl).trans m0, (((Below.refl V3.heap.size V3).drew).cell (p := ⟨W.heap.size, 1, none⟩) hwl).trans m1, (((Below.refl V3.heap.size V3).drew).cell (p := ⟨W.heap.size, 2, none⟩) hwl).trans m2, (((Below.refl V3.heap.size V3).drew).cell (p := ⟨W.heap.size, 3, none⟩) hwl).trans m3, (((Below.refl V3.heap.size V3).drew).cell (p := ⟨W.heap.size, 4, none⟩) hwl).trans m4, (((Below.refl V3.heap.size V3).drew).cell (p := ⟨W.heap.size, 5, none⟩) hwl).trans m5, (((Below.refl V3.heap.size V3).drew).cell (p := ⟨W.heap.size, 6, none⟩) hwl).trans m6, (((Below.refl V3.heap.size V3).drew).cell (p := ⟨W.heap.size, 7, none⟩) hwl).trans m7⟩ (fun hHeld => ?_)
  simp only [List.take, List.drop]
  refine wpAnyH_take (i := 0) (oi := _) (v := ?_) rfl (by kernel_rfl) (by kernel_rfl) (by kernel_rfl) (fun _ _ _ h => h) (Or.inl ⟨by rfl, ?_⟩) (by assumption) ?_
  rotate_left 1
  · (intro w9 hS9; (try dsimp only at hS9); go_simp <;> with_reducible rfl)
  try simp only [List.getElem_toArray, List.getElem_cons_succ, List.getElem_cons_zero, Act.put, List.setIfInBounds_toArray, List.set_cons_zero, List.set_cons_succ]
  refine wpAnyH_take (i := 1) (oi := _) (v := ?_) rfl (by kernel_rfl) (by kernel_rfl) (by kernel_rfl) (fun _ _ _ h => h) (Or.inl ⟨by rfl, ?_⟩) (by assumption) ?_
  rotate_left 1
  · (intro w9 hS9; (try dsimp only at hS9); go_simp <;> with_reducible rfl)
  try simp only [List.getElem_toArray, List.getElem_cons_succ, List.getElem_cons_zero, Act.put, List.setIfInBounds_toArray, List.set_cons_zero, List.set_cons_succ]
  refine wpAnyH_take (i := 2) (oi := _) (v := ?_) rfl (by kernel_rfl) (by kernel_rfl) (by kernel_rfl) (fun _ _ _ h => h) (Or.inl ⟨by rfl, ?_⟩) (by assumption) ?_
  rotate_left 1
  · (intro w9 hS9; (try dsimp only at hS9); go_simp <;> with_reducible rfl)
  try simp only [List.getElem_toArray, List.getElem_cons_succ, List.getElem_cons_zero, Act.put, List.setIfInBounds_toArray, List.set_cons_zero, List.set_cons_succ]
  refine wpAnyH_take (i := 3) (oi := _) (v := ?_) rfl (by kernel_rfl) (by kernel_rfl) (by kernel_rfl) (fun _ _ _ h => h) (Or.inl ⟨by rfl, ?_⟩) (by assumption) ?_
  rotate_left 1
  · (intro w9 hS9; (try dsimp only at hS9); go_simp <;> with_reducible rfl)
  try simp only [List.getElem_toArray, List.getElem_cons_succ, List.getElem_cons_zero, Act.put, List.setIfInBounds_toArray, List.set_cons_zero, List.set_cons_succ]
  refine wpAnyH_take (i := 4) (oi := _) (v := ?_) rfl (by kernel_rfl) (by kernel_rfl) (by kernel_rfl) (fun _ _ _ h => h) (Or.inl ⟨by rfl, ?_⟩) (by assumption) ?_
  rotate_left 1
  · (intro w9 hS9; (try dsimp only at hS9); go_simp <;> with_reducible rfl)
  try simp only [List.getElem_toArray, List.getElem_cons_succ, List.getElem_cons_zero, Act.put, List.setIfInBounds_toArray, List.set_cons_zero, List.set_cons_succ]
  refine wpAnyH_take (i := 5) (oi := _) (v := ?_) rfl (by kernel_rfl) (by kernel_rfl) (by kernel_rfl) (fun _ _ _ h => h) (Or.inl ⟨by rfl, ?_⟩) (by assumption) ?_
  rotate_left 1
  · (intro w9 hS9; (try dsimp only at hS9); go_simp <;> with_reducible rfl)
  try simp only [List.getElem_toArray, List.getElem_cons_succ, List.getElem_cons_zero, Act.put, List.setIfInBounds_toArray, List.set_cons_zero, List.set_cons_succ]
  refine wpAnyH_take (i := 6) (oi := _) (v := ?_) rfl (by kernel_rfl) (by kernel_rfl) (by kernel_rfl) (fun _ _ _ h => h) (Or.inl ⟨by rfl, ?_⟩) (by assumption) ?_
  rotate_left 1
  · (intro w9 hS9; (try dsimp only at hS9); go_simp <;> with_reducible rfl)
  try simp only [List.getElem_toArray, List.getElem_cons_succ, List.getElem_cons_zero, Act.put, List.setIfInBounds_toArray, List.set_cons_zero, List.set_cons_succ]
  refine wpAnyH_take (i := 7) (oi := _) (v := ?_) rfl (by kernel_rfl) (by kernel_rfl) (by kernel_rfl) (fun _ _ _ h => h) (Or.inl ⟨by rfl, ?_⟩) (by assumption) ?_
  rotate_left 1
  · (intro w9 hS9; (try dsimp only at hS9); go_simp <;> with_reducible rfl)
  try simp only [List.getElem_toArray, List.getElem_cons_succ, List.getElem_cons_zero, Act.put, List.setIfInBounds_toArray, List.set_cons_zero, List.set_cons_succ]
  refine wpAnyH_take (i := 8) (oi := _) (v := ?_) rfl (by kernel_rfl) (by kernel_rfl) (by kernel_rfl) (fun _ _ _ h => h) (Or.inl ⟨by rfl, ?_⟩) (by assumption) ?_
  rotate_left 1
  · (intro w9 hS9; (try dsimp only at hS9); go_simp <;> with_reducible rfl)
  try simp only [List.getElem_toArray, List.getElem_cons_succ, List.getElem_cons_zero, Act.put, List.setIfInBounds_toArray, List.set_cons_zero, List.set_cons_succ]
  refine wpAnyH_take (i := 9) (oi := _) (v := ?_) rfl (by kernel_rfl) (by kernel_rfl) (by kernel_rfl) (fun _ _ _ h => h) (Or.inl ⟨by rfl, ?_⟩) (by assumption) ?_
  rotate_left 1
  · (intro w9 hS9; (try dsimp only at hS9); go_simp <;> with_reducible rfl)
  try simp only [List.getElem_toArray, List.getElem_cons_succ, List.getElem_cons_zero, Act.put, List.setIfInBounds_toArray, List.set_cons_zero, List.set_cons_succ]
  refine wpAnyH_take (i := 10) (oi := _) (v := ?_) rfl (by kernel_rfl) (by kernel_rfl) (by kernel_rfl) (fun _ _ _ h => h) (Or.inl ⟨by rfl, ?_⟩) (by assumption) ?_
  rotate_left 1
  · (intro w9 hS9; (try dsimp only at hS9); go_simp <;> with_reducible rfl)
  try simp only [List.getElem_toArray, List.getElem_cons_succ, List.getElem_cons_zero, Act.put, List.setIfInBounds_toArray, List.set_cons_zero, List.set_cons_succ]
  refine wpAnyH_take (i := 11) (oi := _) (v := ?_) rfl (by kernel_rfl) (by kernel_rfl) (by kernel_rfl) (fun _ _ _ h => h) (Or.inl ⟨by rfl, ?_⟩) (by assumption) ?_
  rotate_left 1
  · (intro w9 hS9; (try dsimp only at hS9); go_simp <;> with_reducible rfl)
  try simp only [List.getElem_toArray, List.getElem_cons_succ, List.getElem_cons_zero, Act.put, List.setIfInBounds_toArray, List.set_cons_zero, List.set_cons_succ]
  refine wpAnyH_take (i := 12) (oi := _) (v := ?_) rfl (by kernel_rfl) (by kernel_rfl) (by kernel_rfl) (fun _ _ _ h => h) (Or.inl ⟨by rfl, ?_⟩) (by assumption) ?_
  rotate_left 1
  · (intro w9 hS9; (try dsimp only at hS9); go_simp <;> with_reducible rfl)
  try simp only [List.getElem_toArray, List.getElem_cons_succ, List.getElem_cons_zero, Act.put, List.setIfInBounds_toArray, List.set_cons_zero, List.set_cons_succ]
  refine wpAnyH_take (i := 13) (oi := _) (v := ?_) rfl (by kernel_rfl) (by kernel_rfl) (by kernel_rfl) (fun _ _ _ h => h) (Or.inl ⟨by rfl, ?_⟩) (by assumption) ?_
  rotate_left 1
  · (intro w9 hS9; (try dsimp only at hS9); go_simp <;> with_reducible rfl)
  try simp only [List.getElem_toArray, List.getElem_cons_succ, List.getElem_cons_zero, Act.put, List.setIfInBounds_toArray, List.set_cons_zero, List.set_cons_succ]
  refine wpAnyH_take (i := 14) (oi := _) (v := ?_) rfl (by kernel_rfl) (by kernel_rfl) (by kernel_rfl) (fun _ _ _ h => h) (Or.inl ⟨by rfl, ?_⟩) (by assumption) ?_
  rotate_left 1
  · (intro w9 hS9; (try dsimp only at hS9); go_simp <;> with_reducible rfl)
  try simp only [List.getElem_toArray, List.getElem_cons_succ, List.getElem_cons_zero, Act.put, List.setIfInBounds_toArray, List.set_cons_zero, List.set_cons_succ]
  refine wpAnyH_take (i := 15) (oi := _) (v := ?_) rfl (by kernel_rfl) (by kernel_rfl) (by kernel_rfl) (fun _ _ _ h => h) (Or.inl ⟨by rfl, ?_⟩) (by assumption) ?_
  rotate_left 1
  · (intro w9 hS9; (try dsimp only at hS9); go_simp <;> with_reducible rfl)
  try simp only [List.getElem_toArray, List.getElem_cons_succ, List.getElem_cons_zero, Act.put, List.setIfInBounds_toArray, List.set_cons_zero, List.set_cons_succ]
  refine wpAnyH_take (i := 16) (oi := _) (v := ?_) rfl (by kernel_rfl) (by kernel_rfl) (by kernel_rfl) (fun _ _ _ h => h) (Or.inl ⟨by rfl, ?_⟩) (by assumption) ?_
  rotate_left 1
  · (intro w9 hS9; (try dsimp only at hS9); go_simp <;> with_reducible rfl)
  try simp only [List.getElem_toArray, List.getElem_cons_succ, List.getElem_cons_zero, Act.put, List.setIfInBounds_toArray, List.set_cons_zero, List.set_cons_succ]
  refine wpAnyH_take (i := 17) (oi := _) (v := ?_) rfl (by kernel_rfl) (by kernel_rfl) (by kernel_rfl) (fun _ _ _ h => h) (Or.inl ⟨by rfl, ?_⟩) (by assumption) ?_
  rotate_left 1
  · (intro w9 hS9; (try dsimp only at hS9); go_simp <;> with_reducible rfl)
  try simp only [List.getElem_toArray, List.getElem_cons_succ, List.getElem_cons_zero, Act.put, List.setIfInBounds_toArray, List.set_cons_zero, List.set_cons_succ]
  refine wpAnyH_take (i := 18) (oi := _) (v := ?_) rfl (by kernel_rfl) (by kernel_rfl) (by kernel_rfl) (fun _ _ _ h => h) (Or.inl ⟨by rfl, ?_⟩) (by assumption) ?_
  rotate_left 1
  · (intro w9 hS9; (try dsimp only at hS9); go_simp <;> with_reducible rfl)
  try simp only [List.getElem_toArray, List.getElem_cons_succ, List.getElem_cons_zero, Act.put, List.setIfInBounds_toArray, List.set_cons_zero, List.set_cons_succ]
  refine wpAnyH_take (i := 19) (oi := _) (v := ?_) rfl (by kernel_rfl) (by kernel_rfl) (by kernel_rfl) (fun _ _ _ h => h) (Or.inl ⟨by rfl, ?_⟩) (by assumption) ?_
  rotate_left 1
  · (intro w9 hS9; (try dsimp only at hS9); go_simp <;> with_reducible rfl)
  try simp only [List.getElem_toArray, List.getElem_cons_succ, List.getElem_cons_zero, Act.put, List.setIfInBounds_toArray, List.set_cons_zero, List.set_cons_succ]
  refine wpAnyH_take (i := 20) (oi := _) (v := ?_) rfl (by kernel_rfl) (by kernel_rfl) (by kernel_rfl) (fun _ _ _ h => h) (Or.inl ⟨by rfl, ?_⟩) (by assumption) ?_
  rotate_left 1
  · (intro w9 hS9; (try dsimp only at hS9); go_simp <;> with_reducible rfl)
  try simp only [List.getElem_toArray, List.getElem_cons_succ, List.getElem_cons_zero, Act.put, List.setIfInBounds_toArray, List.set_cons_zero, List.set_cons_succ]
  refine wpAnyH_take (i := 21) (oi := _) (v := ?_) rfl (by kernel_rfl) (by kernel_rfl) (by kernel_rfl) (fun _ _ _ h => h) (Or.inl ⟨by rfl, ?_⟩) (by assumption) ?_
  rotate_left 1
  · (intro w9 hS9; (try dsimp only at hS9); go_simp <;> with_reducible rfl)
  try simp only [List.getElem_toArray, List.getElem_cons_succ, List.getElem_cons_zero, Act.put, List.setIfInBounds_toArray, List.set_cons_zero, List.set_cons_succ]
  refine wpAnyH_take (i := 22) (oi := _) (v := ?_) rfl (by kernel_rfl) (by kernel_rfl) (by kernel_rfl) (fun _ _ _ h => h) (Or.inl ⟨by rfl, ?_⟩) (by assumption) ?_
  rotate_left 1
  · (intro w9 hS9; (try dsimp only at hS9); go_simp <;> with_reducible rfl)
  try simp only [List.getElem_toArray, List.getElem_cons_succ, List.getElem_cons_zero, Act.put, List.setIfInBounds_toArray, List.set_cons_zero, List.set_cons_succ]
  refine wpAnyH_take (i := 23) (oi := _) (v := ?_) rfl (by kernel_rfl) (by kernel_rfl) (by kernel_rfl) (fun _ _ _ h => h) (Or.inl ⟨by rfl, ?_⟩) (by assumption) ?_
  rotate_left 1
  · (intro w9 hS9; (try dsimp only at hS9); go_simp <;> with_reducible rfl)
  try simp only [List.getElem_toArray, List.getElem_cons_succ, List.getElem_cons_zero, Act.put, List.setIfInBounds_toArray, List.set_cons_zero, List.set_cons_succ]
  refine wpAnyH_take (i := 24) (oi := _) (v := ?_) rfl (by kernel_rfl) (by kernel_rfl) (by kernel_rfl) (fun _ _ _ h => h) (Or.inl ⟨by rfl, ?_⟩) (by assumption) ?_
  rotate_left 1
  · (intro w9 hS9; (try dsimp only at hS9); go_simp <;> with_reducible rfl)
  try simp only [List.getElem_toArray, List.getElem_cons_succ, List.getElem_cons_zero, Act.put, List.setIfInBounds_toArray, List.set_cons_zero, List.set_cons_succ]
  refine wpAnyH_take (i := 25) (oi := _) (v := ?_) rfl (by kernel_rfl) (by kernel_rfl) (by kernel_rfl) (fun _ _ _ h => h) (Or.inl ⟨by rfl, ?_⟩) (by assumption) ?_
  rotate_left 1
  · (intro w9 hS9; (try dsimp only at hS9); go_simp <;> with_reducible rfl)
  try simp only [List.getElem_toArray, List.getElem_cons_succ, List.getElem_cons_zero, Act.put, List.setIfInBounds_toArray, List.set_cons_zero, List.set_cons_succ]
  refine wpAnyH_take (i := 26) (oi := _) (v := ?_) rfl (by kernel_rfl) (by kernel_rfl) (by kernel_rfl) (fun _ _ _ h => h) (Or.inl ⟨by rfl, ?_⟩) (by assumption) ?_
  rotate_left 1
  · (intro w9 hS9; (try dsimp only at hS9); go_simp <;> with_reducible rfl)
  try simp only [List.getElem_toArray, List.getElem_cons_succ, List.getElem_cons_zero, Act.put, List.setIfInBounds_toArray, List.set_cons_zero, List.set_cons_succ]
  refine wpAnyH_take (i := 27) (oi := _) (v := ?_) rfl (by kernel_rfl) (by kernel_rfl) (by kernel_rfl) (fun _ _ _ h => h) (Or.inl ⟨by rfl, ?_⟩) (by assumption) ?_
  rotate_left 1
  · (intro w9 hS9; (try dsimp only at hS9); go_simp <;> with_reducible rfl)
  try simp only [List.getElem_toArray, List.getElem_cons_succ, List.getElem_cons_zero, Act.put, List.setIfInBounds_toArray, List.set_cons_zero, List.set_cons_succ]
  refine wpAnyH_take (i := 28) (oi := _) (v := ?_) rfl (by kernel_rfl) (by kernel_rfl) (by kernel_rfl) (fun _ _ _ h => h) (Or.inl ⟨by rfl, ?_⟩) (by assumption) ?_
  rotate_left 1
  · (intro w9 hS9; (try dsimp only at hS9); go_simp <;> with_reducible rfl)
  try simp only [List.getElem_toArray, List.getElem_cons_succ, List.getElem_cons_zero, Act.put, List.setIfInBounds_toArray, List.set_cons_zero, List.set_cons_succ]
  refine wpAnyH_take (i := 29) (oi := _) (v := ?_) rfl (by kernel_rfl) (by kernel_rfl) (by kernel_rfl) (fun _ _ _ h => h) (Or.inl ⟨by rfl, ?_⟩) (by assumption) ?_
  rotate_left 1
  · (intro w9 hS9; (try dsimp only at hS9); go_simp <;> with_reducible rfl)
  try simp only [List.getElem_toArray, List.getElem_cons_succ, List.getElem_cons_zero, Act.put, List.setIfInBounds_toArray, List.set_cons_zero, List.set_cons_succ]
  refine wpAnyH_take (i := 30) (oi := _) (v := ?_) rfl (by kernel_rfl) (by kernel_rfl) (by kernel_rfl) (fun _ _ _ h => h) (Or.inl ⟨by rfl, ?_⟩) (by assumption) ?_
  rotate_left 1
  · (intro w9 hS9; (try dsimp only at hS9); go_simp <;> with_reducible rfl)
  try simp only [List.getElem_toArray, List.getElem_cons_succ, List.getElem_cons_zero, Act.put, List.setIfInBounds_toArray, List.set_cons_zero, List.set_cons_succ]
  refine wpAnyH_take (i := 31) (oi := _) (v := ?_) rfl (by kernel_rfl) (by kernel_rfl) (by kernel_rfl) (fun _ _ _ h => h) (Or.inl ⟨by rfl, ?_⟩) (by assumption) ?_
  rotate_left 1
  · (intro w9 hS9; (try dsimp only at hS9); go_simp <;> with_reducible rfl)
  try simp only [List.getElem_toArray, List.getElem_cons_succ, List.getElem_cons_zero, Act.put, List.setIfInBounds_toArray, List.set_cons_zero, List.set_cons_succ]
  refine wpAnyH_ready (rs := [32]) (by kernel_rfl) (by simp) ?_
  refine AllReadyH.cons (o := _) rfl (fun K hK => ?_) AllReadyH.nil
  try simp only [List.getElem_toArray, List.getElem_cons_succ, List.getElem_cons_zero]
  try rw [if_pos (show Region.wanted _ _ = true from rfl)]
  go_simp
  refine (HP.out.2 V3.drew).mono ?_
  rintro x wy ⟨rfl, hby⟩
  have hwy : Below V3.heap.size V3 wy := ((Below.refl _ V3).drew).trans hby
  go_wp2_with fail
  refine hK.out _ _ ⟨(hwy.cell (p := ⟨g, 6, none⟩) hgl).trans c6, (hwy.cell (p := ⟨g, 7, none⟩) hgl).trans c7, (hwy.cell (p := ⟨g, 1, none⟩) hgl).trans c1, (hwy.cell (p := ⟨g, 2, none⟩) hgl).trans c2, (hwy.cell (p := ⟨br, or_ + k * 9, none⟩) hbr).trans t0, (hwy.cell (p := ⟨bl, d * 3, none⟩) hbl).trans l0, (hwy.cell (p := ⟨bl, d * 3 + 1, none⟩) hbl).trans l1, (hwy.cell (p := ⟨bl, d * 3 + 2, none⟩) hbl).trans l2, (hwy.cell (p := ⟨W.heap.size, 0, none⟩) hwl).trans m0, (hwy.cell (p := ⟨W.heap.size, 1, none⟩) hwl).trans m1, (hwy.cell (p := ⟨W.heap.size, 2, none⟩) hwl).trans m2, (hwy.cell (p := ⟨W.heap.size, 3, none⟩) hwl).trans m3, (hwy.cell (p := ⟨W.heap.size, 4, none⟩) hwl).trans m4, (hwy.cell (p := ⟨W.heap.size, 5, none⟩) hwl).trans m5, (hwy.cell (p := ⟨W.heap.size, 6, none⟩) hwl).trans m6, (hwy.cell (p := ⟨W.heap.size, 7, none⟩) hwl).trans m7⟩ (fun hHeld => ?_)
  clear hK K
  try simp only [List.getElem_toArray, List.getElem_cons_succ, List.getElem_cons_zero, Act.put, List.setIfInBounds_toArray, List.set_cons_zero, List.set_cons_succ]
  refine wpAnyH_take (i := 33) (oi := _) (v := ?_) rfl (by kernel_rfl) (by kernel_rfl) (by kernel_rfl) (fun _ _ _ h => h) (Or.inl ⟨by rfl, ?_⟩) (by assumption) ?_
  rotate_left 1
  · (intro w9 hS9; (try dsimp only at hS9); go_simp <;> with_reducible rfl)
  try simp only [List.getElem_toArray, List.getElem_cons_succ, List.getElem_cons_zero, Act.put, List.setIfInBounds_toArray, List.set_cons_zero, List.set_cons_succ]
  refine wpAnyH_done (by kernel_rfl) ?_ _
  have bLy := bL3.below hwy hbl
  have l0 := (hwy.cell (p := ⟨bl, d * 3, none⟩) hbl).trans l0
  have l1 := (hwy.cell (p := ⟨bl, d * 3 + 1, none⟩) hbl).trans l1
  have l2 := (hwy.cell (p := ⟨bl, d * 3 + 2, none⟩) hbl).trans l2
  have f0 : wy.frozen? ⟨bl, d * 3, none⟩ = false := bLy.frozen _
  have f1 : wy.frozen? ⟨bl, d * 3 + 1, none⟩ = false := bLy.frozen _
  have f2 : wy.frozen? ⟨bl, d * 3 + 2, none⟩ = false := bLy.frozen _
  have HBy := Lib.hid (HB3.out.below hwy)
  have HIy := Lib.hid (HI3.out.below hwy)
  clear t0 c6 c7 c1 c2 m0 m1 m2 m3 m4 m5 m6 m7
  refine tailQ_step rfl ?_
  go_wp2_with fail
  refine tailQ_nil (panQ_normal ?_)
  try go_wp2_with fail
  have hfin := HBy.out.lease hd3 (E, U)
  refine bodyPost_end (v := .tuple #[]) (by simp [results, Try.f13, Try.results13, go_sem]) rfl ⟨rfl, _, ⟨⟨_, _, _, hfin⟩, HIy.out.lw, HIy.out.gw, by have := HIy.out.sz; simpa using this, ((HIy.out.bel.setCell (p := ⟨bl, d * 3, none⟩) (Nat.le_trans HIy.out.lw hlb) _).setCell (p := ⟨bl, d * 3 + 1, none⟩) (Nat.le_trans HIy.out.lw hlb) _).setCell (p := ⟨bl, d * 3 + 2, none⟩) (Nat.le_trans HIy.out.lw hlb) _⟩, .inr ⟨_, s.rq[k], hmem, ?_, ?_⟩⟩
  · exact HQ.out
  · unfold learnM
    rw [← HT.out, HP.out.1]
    rfl
end Go.Proofs.Ytggaaajkbnhofaa
