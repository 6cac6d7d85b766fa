/- The state of the leases in memory; the walks of send, holders. Conditions: few requests and answers. -/
import Derived.Test.YtggaaajkbnhofaaWj
import Derived.Deep.MidRow
namespace Go.Proofs.Ytggaaajkbnhofaa
open Go.RowKit
/-- a message -/
structure Ms where
  kd : Int
  fr : Int
  dt : Int
  nm : Int
  vl : Int
  ep : Int
def encMs (m : Ms) : List Value := msL m.kd m.fr m.dt m.nm m.vl m.ep
/-- a request with its time -/
structure Rq where
  t : Int
  m : Ms
def encRq (r : Rq) : List Value := .int .i64 r.t :: encMs r.m
/-- the sites, the witness, all messages, the fence -/
structure St where
  now : Int
  tm : Int
  mg : Int
  we : Int
  wh : Int
  wu : Int
  ls : Nat → Int × Int
  rq : List Rq
  an : List Ms
  fe : Int
  fo : Int
def leC (ls : Nat → Int × Int) (i : Nat) : List Value := [.int .i64 (i : Nat), .int .i64 (ls i).1, .int .i64 (ls i).2]
def lsRow (ls : Nat → Int × Int) : List Value := (List.range 3).flatMap (leC ls)
def stC (s : St) (vL vR vA : Value) : Array Value := #[.int .i64 s.now, .int .i64 s.tm, .int .i64 s.mg, .int .i64 s.we, .int .i64 s.wh, .int .i64 s.wu, vL, vR, vA, .int .i64 s.fe, .int .i64 s.fo, .bool false]
structure StB (g low : Nat) (s : St) (vL vR vA : Value) (W : World) : Prop where
  blk : Blk W g 39 (stC s vL vR vA)
  L : W.ownsRow low 41 3 vL 3 (lsRow s.ls)
  R : W.ownsRow low 57 9 vR s.rq.length (s.rq.flatMap encRq)
  A : W.ownsRow low 49 8 vA s.an.length (s.an.flatMap encMs)
/-- the state in memory -/
structure StI (w : World) (g low : Nat) (s : St) (W : World) : Prop where
  blk : ∃ vL vR vA, StB g low s vL vR vA W
  lw : w.heap.size ≤ low
  gw : w.heap.size ≤ g
  sz : low ≤ W.heap.size
  bel : Below w.heap.size w W
section
variable {w W W' : World} {g low : Nat} {s : St}
theorem StB.below {vL vR vA : Value} (h : StB g low s vL vR vA W) (hb : Below W.heap.size W W') : StB g low s vL vR vA W' := ⟨h.blk.below hb h.blk.lt, own_below h.L hb, own_below h.R hb, own_below h.A hb⟩
theorem StI.below (h : StI w g low s W) (hb : Below W.heap.size W W') : StI w g low s W' := by
  obtain ⟨vL, vR, vA, hB⟩ := h.blk
  exact ⟨⟨vL, vR, vA, hB.below hb⟩, h.lw, h.gw, Nat.le_trans h.sz hb.size, h.bel.trans (hb.mono h.bel.size)⟩
end
theorem tag_ne {W : World} {low : Nat} {e : TypeId} {size : Nat} {v : Value} {n : Nat} {xs : List Value} {g : Nat} {t : TypeId} {cs : Array Value} (h : W.ownsRow low e size v n xs) (hB : Blk W g t cs) (hne : e ≠ t) : ∀ b, v.ownBlock = some b → b ≠ g := by
  intro b hb e9
  subst e9
  rcases h.2 with ⟨rfl, _⟩ | ⟨g', cap, cur, rfl, _, h3, _⟩
  · cases hb
  · injection hb with hb
    subst hb
    have h4 : Blk W g' e cur := h3
    unfold Blk at hB h4
    rw [hB] at h4
    injection h4 with h4
    injection h4 with _ h5
    exact hne h5.symm
theorem tag_two {W : World} {low low' : Nat} {e e' : TypeId} {size size' : Nat} {v v' : Value} {n n' : Nat} {xs xs' : List Value} (h : W.ownsRow low e size v n xs) (h' : W.ownsRow low' e' size' v' n' xs') (hne : e ≠ e') : ∀ b, v.ownBlock = some b → v'.ownBlock ≠ some b := by
  intro b hb hb'
  rcases h'.2 with ⟨rfl, _⟩ | ⟨g', cap, cur, rfl, _, h3, _⟩
  · cases hb'
  · injection hb' with hb'
    subst hb'
    exact tag_ne h (show Blk W g' e' cur from h3) hne g' hb rfl
theorem own_grow {W W' : World} {low : Nat} {e : TypeId} {size : Nat} {v : Value} {n : Nat} {xs : List Value} (h : W.ownsRow low e size v n xs) {r : Option Nat} (hg : W.grownBy W' r) (hne : ∀ b, v.ownBlock = some b → r ≠ some b) : W'.ownsRow low e size v n xs :=
  own_keep h (fun b hb => hg.block b (own_lt h b hb) (fun e9 => hne b hb e9.symm))
def sendM (s : St) (m : Ms) : St := { s with rq := s.rq ++ [⟨s.now, { m with nm := (s.rq.length : Nat) }⟩] }
set_option linter.unusedSimpArgs false in
set_option maxRecDepth 100000 in
set_option maxHeartbeats 4000000 in
theorem send_ok (w W : World) (g low : Nat) (s : St) (m : Ms) (hI : StI w g low s W) (hn : s.rq.length ≤ 100) :
    Calls Try.prog 9 #[.pointer (some ⟨g, 0, none⟩), .agg #[.int .i64 m.kd, .int .i64 m.fr, .int .i64 m.dt, .int .i64 m.nm, .int .i64 m.vl, .int .i64 m.ep, .slice none 0 0, .slice none 0 0]] W fun x W' => x = .returned (.tuple #[]) ∧ StI w g low (sendM s m) W' := by
  obtain ⟨i0, hi0, hz0, hz1, hz2⟩ := info_parts (show (Try.prog.info? 57).map (fun i => (i.zero, i.size, i.bytes)) = some (some (.agg #[.int .i64 0, .int .i64 0, .int .i64 0, .int .i64 0, .int .i64 0, .int .i64 0, .int .i64 0, .slice none 0 0, .slice none 0 0]), 9, 104) by kernel_rfl)
  have HII := Lib.hid (And.intro hi0 (And.intro hz0 (And.intro hz1 hz2)))
  clear hi0 hz0 hz1 hz2
  obtain ⟨vL, vR, vA, hB⟩ := hI.blk
  obtain ⟨AR, cR, rfl, _, _, _⟩ := own_slice hB.R
  have b0 : Blk (W.alloc (.cells #[.int .i64 m.kd, .int .i64 m.fr, .int .i64 m.dt, .int .i64 m.nm, .int .i64 m.vl, .int .i64 m.ep, .slice none 0 0, .slice none 0 0] 49)) W.heap.size 49 #[.int .i64 m.kd, .int .i64 m.fr, .int .i64 m.dt, .int .i64 m.nm, .int .i64 m.vl, .int .i64 m.ep, .slice none 0 0, .slice none 0 0] := Blk.new _ _ _
  have hb0 : Below W.heap.size W (W.alloc (.cells #[.int .i64 m.kd, .int .i64 m.fr, .int .i64 m.dt, .int .i64 m.nm, .int .i64 m.vl, .int .i64 m.ep, .slice none 0 0, .slice none 0 0] 49)) := (Below.refl _ W).alloc (Nat.le_refl _) _
  have hB0 := hB.below hb0
  have hs0 : (W.alloc (.cells #[.int .i64 m.kd, .int .i64 m.fr, .int .i64 m.dt, .int .i64 m.nm, .int .i64 m.vl, .int .i64 m.ep, .slice none 0 0, .slice none 0 0] 49)).heap.size = W.heap.size + 1 := by simp
  have hgl := hB.blk.lt
  go_enter Try.func9, Try.ntmps9
  go_upto_region 1 with fail
  generalize (W.alloc (.cells #[.int .i64 m.kd, .int .i64 m.fr, .int .i64 m.dt, .int .i64 m.nm, .int .i64 m.vl, .int .i64 m.ep, .slice none 0 0, .slice none 0 0] 49)) = V at *
  have c7 : V.cell? ⟨g, 7, none⟩ = some (.slice AR s.rq.length cR) := hB0.blk.cell 7
  have m3 : V.cell? ⟨W.heap.size, 3, none⟩ = some (.int .i64 m.nm) := b0.cell 3
  have f3 : V.frozen? ⟨W.heap.size, 3, none⟩ = false := b0.frozen 3
  go_upto_region 2 with fail
  have b1 : Blk (V.setCell ⟨W.heap.size, 3, none⟩ (.int .i64 (s.rq.length : Nat))) W.heap.size 49 #[.int .i64 m.kd, .int .i64 m.fr, .int .i64 m.dt, .int .i64 (s.rq.length : Nat), .int .i64 m.vl, .int .i64 m.ep, .slice none 0 0, .slice none 0 0] := b0.set_ 3 _
  have hbV : Below W.heap.size W (V.setCell ⟨W.heap.size, 3, none⟩ (.int .i64 (s.rq.length : Nat))) := hb0.setCell (Nat.le_refl _) _
  have hB1 := hB.below hbV
  have hs1 : (V.setCell ⟨W.heap.size, 3, none⟩ (.int .i64 (s.rq.length : Nat))).heap.size = V.heap.size := by simp
  clear b0 c7 m3 f3 hB0 hb0
  generalize (V.setCell ⟨W.heap.size, 3, none⟩ (.int .i64 (s.rq.length : Nat))) = V1 at *
  have HB := Lib.hid (And.intro hs0 hs1)
  have hsz : W.heap.size < V1.heap.size := by omega
  clear hs0 hs1 hB
  have e0 : Blk (V1.alloc (.cells #[.int .i64 s.now, .int .i64 m.kd, .int .i64 m.fr, .int .i64 m.dt, .int .i64 (s.rq.length : Nat), .int .i64 m.vl, .int .i64 m.ep, .slice none 0 0, .slice none 0 0] 57)).drew g 39 (stC s vL (.slice AR s.rq.length cR) vA) := hB1.blk.alloc _
  have e1 : Blk (V1.alloc (.cells #[.int .i64 s.now, .int .i64 m.kd, .int .i64 m.fr, .int .i64 m.dt, .int .i64 (s.rq.length : Nat), .int .i64 m.vl, .int .i64 m.ep, .slice none 0 0, .slice none 0 0] 57)).drew W.heap.size 49 #[.int .i64 m.kd, .int .i64 m.fr, .int .i64 m.dt, .int .i64 (s.rq.length : Nat), .int .i64 m.vl, .int .i64 m.ep, .slice none 0 0, .slice none 0 0] := b1.alloc _
  have hbE : Below V1.heap.size V1 (V1.alloc (.cells #[.int .i64 s.now, .int .i64 m.kd, .int .i64 m.fr, .int .i64 m.dt, .int .i64 (s.rq.length : Nat), .int .i64 m.vl, .int .i64 m.ep, .slice none 0 0, .slice none 0 0] 57)).drew := ((Below.refl _ V1).alloc (Nat.le_refl _) _).drew
  have hBE := hB1.below hbE
  have hel : Reads (V1.alloc (.cells #[.int .i64 s.now, .int .i64 m.kd, .int .i64 m.fr, .int .i64 m.dt, .int .i64 (s.rq.length : Nat), .int .i64 m.vl, .int .i64 m.ep, .slice none 0 0, .slice none 0 0] 57)).drew (V1.alloc (.cells #[.int .i64 s.now, .int .i64 m.kd, .int .i64 m.fr, .int .i64 m.dt, .int .i64 (s.rq.length : Nat), .int .i64 m.vl, .int .i64 m.ep, .slice none 0 0, .slice none 0 0] 57)).drew.heap.size 9 (some ⟨V1.heap.size, 0, none⟩) 1 (encRq ⟨s.now, { m with nm := (s.rq.length : Nat) }⟩) := (show Blk (V1.alloc (.cells #[.int .i64 s.now, .int .i64 m.kd, .int .i64 m.fr, .int .i64 m.dt, .int .i64 (s.rq.length : Nat), .int .i64 m.vl, .int .i64 m.ep, .slice none 0 0, .slice none 0 0] 57)).drew V1.heap.size 57 #[.int .i64 s.now, .int .i64 m.kd, .int .i64 m.fr, .int .i64 m.dt, .int .i64 (s.rq.length : Nat), .int .i64 m.vl, .int .i64 m.ep, .slice none 0 0, .slice none 0 0] from Blk.new _ _ _).reads rfl
  have hsE : (V1.alloc (.cells #[.int .i64 s.now, .int .i64 m.kd, .int .i64 m.fr, .int .i64 m.dt, .int .i64 (s.rq.length : Nat), .int .i64 m.vl, .int .i64 m.ep, .slice none 0 0, .slice none 0 0] 57)).drew.heap.size = V1.heap.size + 1 := by simp
  have hsE2 : low ≤ (V1.alloc (.cells #[.int .i64 s.now, .int .i64 m.kd, .int .i64 m.fr, .int .i64 m.dt, .int .i64 (s.rq.length : Nat), .int .i64 m.vl, .int .i64 m.ep, .slice none 0 0, .slice none 0 0] 57)).drew.heap.size := by have := hI.sz; omega
  have HE := Lib.hid hsE
  clear hsE
  refine wp_pan (Pc := fun _ _ _ => False) (fun _ _ _ h => h.elim) ?_
  refine wp_region_tail_lit (S := fun V => V.cell? ⟨g, 0, none⟩ = some (.int .i64 s.now) ∧ V.cell? ⟨g, 7, none⟩ = some (.slice AR s.rq.length cR) ∧ V.cell? ⟨W.heap.size, 0, none⟩ = some (.int .i64 m.kd) ∧ V.cell? ⟨W.heap.size, 1, none⟩ = some (.int .i64 m.fr) ∧ V.cell? ⟨W.heap.size, 2, none⟩ = some (.int .i64 m.dt) ∧ V.cell? ⟨W.heap.size, 3, none⟩ = some (.int .i64 (s.rq.length : Nat)) ∧ V.cell? ⟨W.heap.size, 4, none⟩ = some (.int .i64 m.vl) ∧ V.cell? ⟨W.heap.size, 5, none⟩ = some (.int .i64 m.ep) ∧ V.cell? ⟨W.heap.size, 6, none⟩ = some (.slice none 0 0) ∧ V.cell? ⟨W.heap.size, 7, none⟩ = some (.slice none 0 0)) 15 (by kernel_rfl) (by kernel_rfl) ⟨(show Blk V1.drew g 39 (stC s vL (.slice AR s.rq.length cR) vA) from hB1.blk).cell 0, (show Blk V1.drew g 39 (stC s vL (.slice AR s.rq.length cR) vA) from hB1.blk).cell 7, (show Blk V1.drew W.heap.size 49 _ from b1).cell 0, (show Blk V1.drew W.heap.size 49 _ from b1).cell 1, (show Blk V1.drew W.heap.size 49 _ from b1).cell 2, (show Blk V1.drew W.heap.size 49 _ from b1).cell 3, (show Blk V1.drew W.heap.size 49 _ from b1).cell 4, (show Blk V1.drew W.heap.size 49 _ from b1).cell 5, (show Blk V1.drew W.heap.size 49 _ from b1).cell 6, (show Blk V1.drew W.heap.size 49 _ from b1).cell 7⟩ (fun hHeld => ?_)
  simp only [List.take, List.drop]
  refine wpAnyH_take (i := 0) (oi := _) (v := ?_) rfl (by kernel_rfl) (by kernel_rfl) (by kernel_rfl) (fun _ _ _ h => h) (Or.inl ⟨by rfl, ?_⟩) (by assumption) ?_
  rotate_left 1
  · (intro w9 hS9; (try dsimp only at hS9); go_simp <;> with_reducible rfl)
  try simp only [List.getElem_toArray, List.getElem_cons_succ, List.getElem_cons_zero, Act.put, List.setIfInBounds_toArray, List.set_cons_zero, List.set_cons_succ]
  refine wpAnyH_take (i := 1) (oi := _) (v := ?_) rfl (by kernel_rfl) (by kernel_rfl) (by kernel_rfl) (fun _ _ _ h => h) (Or.inl ⟨by rfl, ?_⟩) (by assumption) ?_
  rotate_left 1
  · (intro w9 hS9; (try dsimp only at hS9); go_simp <;> with_reducible rfl)
  try simp only [List.getElem_toArray, List.getElem_cons_succ, List.getElem_cons_zero, Act.put, List.setIfInBounds_toArray, List.set_cons_zero, List.set_cons_succ]
  refine wpAnyH_take (i := 2) (oi := _) (v := ?_) rfl (by kernel_rfl) (by kernel_rfl) (by kernel_rfl) (fun _ _ _ h => h) (Or.inl ⟨by rfl, ?_⟩) (by assumption) ?_
  rotate_left 1
  · (intro w9 hS9; (try dsimp only at hS9); go_simp <;> with_reducible rfl)
  try simp only [List.getElem_toArray, List.getElem_cons_succ, List.getElem_cons_zero, Act.put, List.setIfInBounds_toArray, List.set_cons_zero, List.set_cons_succ]
  refine wpAnyH_take (i := 3) (oi := _) (v := ?_) rfl (by kernel_rfl) (by kernel_rfl) (by kernel_rfl) (fun _ _ _ h => h) (Or.inl ⟨by rfl, ?_⟩) (by assumption) ?_
  rotate_left 1
  · (intro w9 hS9; (try dsimp only at hS9); go_simp <;> with_reducible rfl)
  try simp only [List.getElem_toArray, List.getElem_cons_succ, List.getElem_cons_zero, Act.put, List.setIfInBounds_toArray, List.set_cons_zero, List.set_cons_succ]
  refine wpAnyH_take (i := 4) (oi := _) (v := ?_) rfl (by kernel_rfl) (by kernel_rfl) (by kernel_rfl) (fun _ _ _ h => h) (Or.inl ⟨by rfl, ?_⟩) (by assumption) ?_
  rotate_left 1
  · (intro w9 hS9; (try dsimp only at hS9); go_simp <;> with_reducible rfl)
  try simp only [List.getElem_toArray, List.getElem_cons_succ, List.getElem_cons_zero, Act.put, List.setIfInBounds_toArray, List.set_cons_zero, List.set_cons_succ]
  refine wpAnyH_take (i := 5) (oi := _) (v := ?_) rfl (by kernel_rfl) (by kernel_rfl) (by kernel_rfl) (fun _ _ _ h => h) (Or.inl ⟨by rfl, ?_⟩) (by assumption) ?_
  rotate_left 1
  · (intro w9 hS9; (try dsimp only at hS9); go_simp <;> with_reducible rfl)
  try simp only [List.getElem_toArray, List.getElem_cons_succ, List.getElem_cons_zero, Act.put, List.setIfInBounds_toArray, List.set_cons_zero, List.set_cons_succ]
  refine wpAnyH_take (i := 6) (oi := _) (v := ?_) rfl (by kernel_rfl) (by kernel_rfl) (by kernel_rfl) (fun _ _ _ h => h) (Or.inl ⟨by rfl, ?_⟩) (by assumption) ?_
  rotate_left 1
  · (intro w9 hS9; (try dsimp only at hS9); go_simp <;> with_reducible rfl)
  try simp only [List.getElem_toArray, List.getElem_cons_succ, List.getElem_cons_zero, Act.put, List.setIfInBounds_toArray, List.set_cons_zero, List.set_cons_succ]
  refine wpAnyH_take (i := 7) (oi := _) (v := ?_) rfl (by kernel_rfl) (by kernel_rfl) (by kernel_rfl) (fun _ _ _ h => h) (Or.inl ⟨by rfl, ?_⟩) (by assumption) ?_
  rotate_left 1
  · (intro w9 hS9; (try dsimp only at hS9); go_simp <;> with_reducible rfl)
  try simp only [List.getElem_toArray, List.getElem_cons_succ, List.getElem_cons_zero, Act.put, List.setIfInBounds_toArray, List.set_cons_zero, List.set_cons_succ]
  refine wpAnyH_take (i := 8) (oi := _) (v := ?_) rfl (by kernel_rfl) (by kernel_rfl) (by kernel_rfl) (fun _ _ _ h => h) (Or.inl ⟨by rfl, ?_⟩) (by assumption) ?_
  rotate_left 1
  · (intro w9 hS9; (try dsimp only at hS9); go_simp <;> with_reducible rfl)
  try simp only [List.getElem_toArray, List.getElem_cons_succ, List.getElem_cons_zero, Act.put, List.setIfInBounds_toArray, List.set_cons_zero, List.set_cons_succ]
  refine wpAnyH_take (i := 9) (oi := _) (v := ?_) rfl (by kernel_rfl) (by kernel_rfl) (by kernel_rfl) (fun _ _ _ h => h) (Or.inl ⟨by rfl, ?_⟩) (by assumption) ?_
  rotate_left 1
  · (intro w9 hS9; (try dsimp only at hS9); go_simp <;> with_reducible rfl)
  try simp only [List.getElem_toArray, List.getElem_cons_succ, List.getElem_cons_zero, Act.put, List.setIfInBounds_toArray, List.set_cons_zero, List.set_cons_succ]
  refine wpAnyH_take (i := 10) (oi := _) (v := ?_) rfl (by kernel_rfl) (by kernel_rfl) (by kernel_rfl) (fun _ _ _ h => h) (Or.inl ⟨by rfl, ?_⟩) (by assumption) ?_
  rotate_left 1
  · (intro w9 hS9; (try dsimp only at hS9); go_simp <;> with_reducible rfl)
  try simp only [List.getElem_toArray, List.getElem_cons_succ, List.getElem_cons_zero, Act.put, List.setIfInBounds_toArray, List.set_cons_zero, List.set_cons_succ]
  refine wpAnyH_ready (rs := [11]) (by kernel_rfl) (by simp) ?_
  refine AllReadyH.cons (o := _) rfl (fun K hK => ?_) AllReadyH.nil
  try simp only [List.getElem_toArray, List.getElem_cons_succ, List.getElem_cons_zero]
  try rw [if_pos (show Region.wanted _ _ = true from rfl)]
  go_simp
  generalize (V1.alloc (.cells #[.int .i64 s.now, .int .i64 m.kd, .int .i64 m.fr, .int .i64 m.dt, .int .i64 (s.rq.length : Nat), .int .i64 m.vl, .int .i64 m.ep, .slice none 0 0, .slice none 0 0] 57)).drew = VE at *
  refine hK.out _ _ ⟨e0.cell 0, e0.cell 7, e1.cell 0, e1.cell 1, e1.cell 2, e1.cell 3, e1.cell 4, e1.cell 5, e1.cell 6, e1.cell 7⟩ (fun hHeld => ?_)
  clear hK K
  try simp only [List.getElem_toArray, List.getElem_cons_succ, List.getElem_cons_zero, Act.put, List.setIfInBounds_toArray, List.set_cons_zero, List.set_cons_succ]
  refine wpAnyH_ready (rs := [12]) (by kernel_rfl) (by simp) ?_
  refine AllReadyH.cons (o := _) rfl (fun K hK => ?_) AllReadyH.nil
  try simp only [List.getElem_toArray, List.getElem_cons_succ, List.getElem_cons_zero]
  try rw [if_pos (show Region.wanted _ _ = true from rfl)]
  refine wp_append_any VE (.tmp 14) (.tmp 21) 34 (by rfl) low 57 i0 _ 9 104 Try.underlying34 HII.out.1 HII.out.2.1 HII.out.2.2.1 HII.out.2.2.2 rfl (by omega) (.slice AR s.rq.length cR) s.rq.length (s.rq.flatMap encRq) (by rfl) hBE.R _ (some ⟨V1.heap.size, 0, none⟩) 1 1 (encRq ⟨s.now, { m with nm := (s.rq.length : Nat) }⟩) (by rfl) hel (by simp [encRq, encMs, msL, Value.oneCell']) (by unfold maxLen; omega) (by omega) (by omega) ?_
  intro vR' W9 ho9 hg9 hv9
  have n9 : ∀ t : TypeId, ∀ b cs, Blk VE b t cs → t ≠ 57 → Blk W9 b t cs := fun t b cs hb ht => hb.grown hg9 (fun e9 => tag_ne hBE.R hb (fun h => ht h.symm) b e9.symm rfl)
  have k0 := n9 39 g _ e0 (by decide)
  have k1 := n9 49 W.heap.size _ e1 (by decide)
  refine hK.out _ _ ⟨k0.cell 0, k0.cell 7, k1.cell 0, k1.cell 1, k1.cell 2, k1.cell 3, k1.cell 4, k1.cell 5, k1.cell 6, k1.cell 7⟩ (fun hHeld => ?_)
  clear hK K
  try simp only [List.getElem_toArray, List.getElem_cons_succ, List.getElem_cons_zero, Act.put, List.setIfInBounds_toArray, List.set_cons_zero, List.set_cons_succ]
  refine wpAnyH_take (i := 13) (oi := _) (v := ?_) rfl (by kernel_rfl) (by kernel_rfl) (by kernel_rfl) (fun _ _ _ h => h) (Or.inl ⟨by rfl, ?_⟩) (by assumption) ?_
  rotate_left 1
  · (intro w9 hS9; (try dsimp only at hS9); go_simp <;> with_reducible rfl)
  try simp only [List.getElem_toArray, List.getElem_cons_succ, List.getElem_cons_zero, Act.put, List.setIfInBounds_toArray, List.set_cons_zero, List.set_cons_succ]
  refine wpAnyH_take (i := 14) (oi := _) (v := ?_) rfl (by kernel_rfl) (by kernel_rfl) (by kernel_rfl) (fun _ _ _ h => h) (Or.inl ⟨by rfl, ?_⟩) (by assumption) ?_
  rotate_left 1
  · (intro w9 hS9; (try dsimp only at hS9); go_simp <;> with_reducible rfl)
  try simp only [List.getElem_toArray, List.getElem_cons_succ, List.getElem_cons_zero, Act.put, List.setIfInBounds_toArray, List.set_cons_zero, List.set_cons_succ]
  have f7 : W9.frozen? ⟨g, 7, none⟩ = false := k0.frozen 7
  have c7 : W9.cell? ⟨g, 7, none⟩ = some (.slice AR s.rq.length cR) := k0.cell 7
  obtain ⟨A2, c2, rfl, _, _, _⟩ := own_slice ho9
  refine wpAnyH_done (by kernel_rfl) ?_ _
  refine tailQ_step rfl ?_
  go_wp2_with fail
  refine tailQ_nil (panQ_normal ?_)
  try go_wp2_with fail
  have nL : (vL).ownBlock ≠ some g := fun e9 => tag_ne hBE.L e0 (by decide) g e9 rfl
  have nA : (vA).ownBlock ≠ some g := fun e9 => tag_ne hBE.A e0 (by decide) g e9 rfl
  have nR : (Value.slice A2 (s.rq.length + 1) c2).ownBlock ≠ some g := fun e9 => tag_ne ho9 k0 (by decide) g e9 rfl
  have b9 : Below w.heap.size w W9 := ((hI.bel.trans (hbV.mono hI.bel.size)).trans (hbE.mono (by have := hI.bel.size; omega))).grown hg9 (by have := hI.bel.size; have := HE.out; omega) (fun b hb => Nat.le_trans hI.lw (own_block_ge hBE.R b hb))
  refine bodyPost_end (v := .tuple #[]) (by simp [results, Try.f9, Try.results9, go_sem]) rfl ?_
  refine ⟨rfl, ⟨⟨vL, _, vA, ⟨k0.set_ 7 _, own_far (own_grow hBE.L hg9 (fun b hb => ?_)) nL _, ?_, own_far (own_grow hBE.A hg9 (fun b hb => ?_)) nA _⟩⟩, hI.lw, hI.gw, ?_, b9.setCell hI.gw _⟩⟩
  · exact fun e9 => tag_two hBE.L hBE.R (by decide) b hb e9
  · have h9 := own_far ho9 (p := ⟨g, 7, none⟩) nR (.slice A2 (s.rq.length + 1) c2)
    show (W9.setCell ⟨g, 7, none⟩ _).ownsRow low 57 9 _ (s.rq ++ [_]).length ((s.rq ++ [_]).flatMap encRq)
    rw [List.length_append, List.length_singleton, List.flatMap_append]
    simpa using h9
  · exact fun e9 => tag_two hBE.A hBE.R (by decide) b hb e9
  · have := hg9.size
    simp
    omega
/-- how many of the first sites hold, and the last that does -/
def holdN (now : Int) (ls : Nat → Int × Int) : Nat → Int × Int
  | 0 => (0, -1)
  | k + 1 => if now < (ls k).2 then ((holdN now ls k).1 + 1, (k : Nat)) else holdN now ls k
theorem holdN_b (now : Int) (ls : Nat → Int × Int) (k : Nat) : 0 ≤ (holdN now ls k).1 ∧ (holdN now ls k).1 ≤ k := by
  induction k with
  | zero => exact ⟨by simp [holdN], by simp [holdN]⟩
  | succ k ih =>
    unfold holdN
    split
    · dsimp only
      omega
    · omega
/-- leases in order -/
def LsOk (ls : Nat → Int × Int) : Prop := ∀ i, i < 3 → 0 ≤ (ls i).1 ∧ (ls i).1 ≤ 1000000 ∧ 0 ≤ (ls i).2 ∧ (ls i).2 ≤ 1073741824
theorem ls_cells {W : World} {low : Nat} {A : Option Addr} {c : Nat} {ls : Nat → Int × Int} (h : W.ownsRow low 41 3 (.slice A 3 c) 3 (lsRow ls)) :
    ∃ b, A = some ⟨b, 0, none⟩ ∧ b < W.heap.size ∧ low ≤ b ∧ (∃ cur, Blk W b 41 cur) ∧ ∀ i, i < 3 → W.cell? ⟨b, i * 3, none⟩ = some (.int .i64 (i : Nat)) ∧ W.cell? ⟨b, i * 3 + 1, none⟩ = some (.int .i64 (ls i).1) ∧ W.cell? ⟨b, i * 3 + 2, none⟩ = some (.int .i64 (ls i).2) := by
  obtain ⟨b, cap, cur, hv, hlow, hB, _⟩ := own_blk h (by omega)
  injection hv with e1 _ e3
  subst e1
  have hr := Reads.of_own h
  obtain ⟨b', o', hA, hb, hc⟩ := hr.plain (by omega) (by omega)
  injection hA with hA
  injection hA with e1 e2
  subst e1 e2
  refine ⟨b, rfl, hb, hlow, ⟨cur, hB⟩, fun i hi => ?_⟩
  rcases i with _ | _ | _ | i
  · exact ⟨by simpa using hc 0 _ rfl, by simpa using hc 1 _ rfl, by simpa using hc 2 _ rfl⟩
  · exact ⟨by simpa using hc 3 _ rfl, by simpa using hc 4 _ rfl, by simpa using hc 5 _ rfl⟩
  · exact ⟨by simpa using hc 6 _ rfl, by simpa using hc 7 _ rfl, by simpa using hc 8 _ rfl⟩
  · omega
set_option linter.unusedSimpArgs false in
set_option maxRecDepth 100000 in
set_option maxHeartbeats 4000000 in
theorem holders_ok (w W : World) (g low : Nat) (s : St) (hI : StI w g low s W) (hl : LsOk s.ls) :
    Calls Try.prog 6 #[.pointer (some ⟨g, 0, none⟩)] W fun x W' => x = .returned (.tuple #[.int .i64 (holdN s.now s.ls 3).1, .int .i64 (holdN s.now s.ls 3).2]) ∧ Below W.heap.size W W' := by
  obtain ⟨vL, vR, vA, hB⟩ := hI.blk
  obtain ⟨AL, cL, rfl, _, _, _⟩ := own_slice hB.L
  have c4 : W.cell? ⟨g, 6, none⟩ = some (.slice AL 3 cL) := hB.blk.cell 6
  have hgl := hB.blk.lt
  go_enter Try.func6, Try.ntmps6
  go_wp2_with fail
  go_loopw [4, 5, 6, 7, 13] (fun u4 u5 _ _ u13 V => ∃ k : Nat, k ≤ 3 ∧ u13 = .int .i64 (k : Nat) ∧ u4 = .int .i64 (holdN s.now s.ls k).1 ∧ u5 = .int .i64 (holdN s.now s.ls k).2 ∧ Below W.heap.size W V) (fun _ _ _ _ u13 _ => 4 - (intOf u13).toNat)
  case atStart => exact ⟨0, by omega, rfl, rfl, rfl, Below.refl _ _⟩
  case round =>
    obtain ⟨k, hk, rfl, rfl, rfl, hbV⟩ := hrel
    have hsV := hbV.size
    have HV := Lib.hid hbV
    by_cases hlt : k < 3
    · have hlt' : (k : Int) < 3 := by omega
      obtain ⟨bb, rfl, hbb, _, _, hcells⟩ := ls_cells (own_below hB.L hbV)
      obtain ⟨l0, l1, l2⟩ := hcells k hlt
      clear hcells
      have hlk := hl k hlt
      have HST : Hid (holdN s.now s.ls (k + 1) = if s.now < (s.ls k).2 then ((holdN s.now s.ls k).1 + 1, ((k : Nat) : Int)) else holdN s.now s.ls k) := rfl
      have hnb := holdN_b s.now s.ls k
      obtain ⟨qq, hqq⟩ : ∃ q : Int × Int, holdN s.now s.ls k = q := ⟨_, rfl⟩
      rw [hqq] at HST hnb ⊢
      clear hqq
      obtain ⟨n, wo⟩ := qq
      dsimp only at hnb HST ⊢
      obtain ⟨e, u⟩ : ∃ e : Int, e = (s.ls k).1 := ⟨_, rfl⟩
      rw [← u] at l1 hlk
      clear u
      obtain ⟨u, hu⟩ : ∃ u : Int, u = (s.ls k).2 := ⟨_, rfl⟩
      rw [← hu] at l2 hlk HST
      clear hu
      have c0 : wr.cell? ⟨g, 0, none⟩ = some (.int .i64 s.now) := (hB.blk.below hbV hB.blk.lt).cell 0
      have hgl' : g < wr.heap.size := by omega
      have bA := Blk.new wr 41 #[.int .i64 (k : Nat), .int .i64 e, .int .i64 u]
      have hbA : Below wr.heap.size wr (wr.alloc (.cells #[.int .i64 (k : Nat), .int .i64 e, .int .i64 u] 41)) := (Below.refl _ wr).alloc (Nat.le_refl _) _
      have hsA : wr.heap.size < (wr.alloc (.cells #[.int .i64 (k : Nat), .int .i64 e, .int .i64 u] 41)).heap.size := by simp
      have kw : IntKind.i64.wrap (n + 1) = n + 1 := IntWalk.i64_in _ (by omega)
      go_upto_region 5 with fail
      generalize (wr.alloc (.cells #[.int .i64 (k : Nat), .int .i64 e, .int .i64 u] 41)) = V1 at *
      have l0 : V1.cell? ⟨wr.heap.size, 0, none⟩ = some (.int .i64 (k : Nat)) := bA.cell 0
      have l1 : V1.cell? ⟨wr.heap.size, 1, none⟩ = some (.int .i64 e) := bA.cell 1
      have l2 : V1.cell? ⟨wr.heap.size, 2, none⟩ = some (.int .i64 u) := bA.cell 2
      have c0 : V1.cell? ⟨g, 0, none⟩ = some (.int .i64 s.now) := (hbA.cell (p := ⟨g, 0, none⟩) hgl').trans c0
      have hgl := Nat.lt_trans hgl' hsA
      have hbl := hsA
      have HA := Lib.hid (And.intro hbV hbA)
      clear hbV hbA bA c4
      refine wp_pan (Pc := fun _ _ _ => False) (fun _ _ _ h => h.elim) ?_
      refine wp_region_tail_lit (S := fun V => V.cell? ⟨g, 0, none⟩ = some (.int .i64 s.now) ∧ V.cell? ⟨wr.heap.size, 0, none⟩ = some (.int .i64 (k : Nat)) ∧ V.cell? ⟨wr.heap.size, 1, none⟩ = some (.int .i64 e) ∧ V.cell? ⟨wr.heap.size, 2, none⟩ = some (.int .i64 u)) 6 (by kernel_rfl) (by kernel_rfl) ⟨(((Below.refl V1.heap.size V1).drew).cell (p := ⟨g, 0, none⟩) hgl).trans c0, (((Below.refl V1.heap.size V1).drew).cell (p := ⟨wr.heap.size, 0, none⟩) hbl).trans l0, (((Below.refl V1.heap.size V1).drew).cell (p := ⟨wr.heap.size, 1, none⟩) hbl).trans l1, (((Below.refl V1.heap.size V1).drew).cell (p := ⟨wr.heap.size, 2, none⟩) hbl).trans l2⟩ (fun hHeld => ?_)
      simp only [List.take, List.drop]
      refine wpAnyH_take (i := 0) (oi := _) (v := ?_) rfl (by kernel_rfl) (by kernel_rfl) (by kernel_rfl) (fun _ _ _ h => h) (Or.inl ⟨by rfl, ?_⟩) (by assumption) ?_
      rotate_left 1
      · (intro w9 hS9; (try dsimp only at hS9); go_simp <;> with_reducible rfl)
      try simp only [List.getElem_toArray, List.getElem_cons_succ, List.getElem_cons_zero, Act.put, List.setIfInBounds_toArray, List.set_cons_zero, List.set_cons_succ]
      refine wpAnyH_take (i := 1) (oi := _) (v := ?_) rfl (by kernel_rfl) (by kernel_rfl) (by kernel_rfl) (fun _ _ _ h => h) (Or.inl ⟨by rfl, ?_⟩) (by assumption) ?_
      rotate_left 1
      · (intro w9 hS9; (try dsimp only at hS9); go_simp <;> with_reducible rfl)
      try simp only [List.getElem_toArray, List.getElem_cons_succ, List.getElem_cons_zero, Act.put, List.setIfInBounds_toArray, List.set_cons_zero, List.set_cons_succ]
      refine wpAnyH_take (i := 2) (oi := _) (v := ?_) rfl (by kernel_rfl) (by kernel_rfl) (by kernel_rfl) (fun _ _ _ h => h) (Or.inl ⟨by rfl, ?_⟩) (by assumption) ?_
      rotate_left 1
      · (intro w9 hS9; (try dsimp only at hS9); go_simp <;> with_reducible rfl)
      try simp only [List.getElem_toArray, List.getElem_cons_succ, List.getElem_cons_zero, Act.put, List.setIfInBounds_toArray, List.set_cons_zero, List.set_cons_succ]
      refine wpAnyH_take (i := 3) (oi := _) (v := ?_) rfl (by kernel_rfl) (by kernel_rfl) (by kernel_rfl) (fun _ _ _ h => h) (Or.inl ⟨by rfl, ?_⟩) (by assumption) ?_
      rotate_left 1
      · (intro w9 hS9; (try dsimp only at hS9); go_simp <;> with_reducible rfl)
      try simp only [List.getElem_toArray, List.getElem_cons_succ, List.getElem_cons_zero, Act.put, List.setIfInBounds_toArray, List.set_cons_zero, List.set_cons_succ]
      refine wpAnyH_take (i := 4) (oi := _) (v := ?_) rfl (by kernel_rfl) (by kernel_rfl) (by kernel_rfl) (fun _ _ _ h => h) (Or.inl ⟨by rfl, ?_⟩) (by assumption) ?_
      rotate_left 1
      · (intro w9 hS9; (try dsimp only at hS9); go_simp <;> with_reducible rfl)
      try simp only [List.getElem_toArray, List.getElem_cons_succ, List.getElem_cons_zero, Act.put, List.setIfInBounds_toArray, List.set_cons_zero, List.set_cons_succ]
      refine wpAnyH_ready (rs := [5]) (by kernel_rfl) (by simp) ?_
      refine AllReadyH.cons (o := _) rfl (fun K hK => ?_) AllReadyH.nil
      try simp only [List.getElem_toArray, List.getElem_cons_succ, List.getElem_cons_zero]
      try rw [if_pos (show Region.wanted _ _ = true from rfl)]
      go_simp
      refine (Holds_ok (k : Nat) e u s.now V1.drew (by omega) (by omega) (by omega)).mono ?_
      rintro x wz ⟨rfl, hbz⟩
      have hwz : Below V1.heap.size V1 wz := ((Below.refl _ V1).drew).trans hbz
      go_wp2_with fail
      refine hK.out _ _ ⟨(hwz.cell (p := ⟨g, 0, none⟩) hgl).trans c0, (hwz.cell (p := ⟨wr.heap.size, 0, none⟩) hbl).trans l0, (hwz.cell (p := ⟨wr.heap.size, 1, none⟩) hbl).trans l1, (hwz.cell (p := ⟨wr.heap.size, 2, none⟩) hbl).trans l2⟩ (fun hHeld => ?_)
      clear hK K
      try simp only [List.getElem_toArray, List.getElem_cons_succ, List.getElem_cons_zero, Act.put, List.setIfInBounds_toArray, List.set_cons_zero, List.set_cons_succ]
      refine wpAnyH_done (by kernel_rfl) ?_ _
      refine tailQ_nil (panQ_normal ?_)
      have hfin : Below W.heap.size W wz := (HA.out.1.trans (HA.out.2.mono HA.out.1.size)).trans (hwz.mono (by have := HA.out.1.size; omega))
      clear hbz hwz l0 l1 l2 c0
      by_cases hnu : s.now < u
      · have hST : holdN s.now s.ls (k + 1) = (n + 1, ((k : Nat) : Int)) := by rw [HST.out, if_pos hnu]
        have hd : decide (s.now < u) = true := decide_eq_true hnu
        rw [hd]
        have HS2 := Lib.hid hST
        clear hST HST
        go_wp2_with fail
        go_roundw
        case rel => exact ⟨k + 1, by omega, by go_num, by rw [HS2.out], by rw [HS2.out], hfin⟩
        case measure => simp [intOf]; omega
      · have hST : holdN s.now s.ls (k + 1) = (n, wo) := by rw [HST.out, if_neg hnu]
        have hd : decide (s.now < u) = false := decide_eq_false hnu
        rw [hd]
        have HS2 := Lib.hid hST
        clear hST HST
        go_wp2_with fail
        go_roundw
        case rel => exact ⟨k + 1, by omega, by go_num, by rw [HS2.out], by rw [HS2.out], hfin⟩
        case measure => simp [intOf]; omega
    · obtain rfl : k = 3 := by omega
      go_wp2_with fail
      exact bodyPost_ret (results_tmp2 rfl _ _ _) rfl ⟨rfl, HV.out⟩
end Go.Proofs.Ytggaaajkbnhofaa
