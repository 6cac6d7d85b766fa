/- The walks of slices.Clone at spans and of a transition's begin, demand, become, end. No condition. -/
import Derived.Test.YthkajcioeemilaaWd
import Derived.Test.YthkajcioeemilaaLibC
import Derived.Deep.CutRange
namespace Go.Proofs.Ythkajcioeemilaa
open Go.RowKit
theorem info65b : (Try.prog.info? 65).map (fun i => (i.zero, i.size, i.bytes)) = some (some (.agg #[.int .i64 0, .int .i64 0, .int .i64 0]), 3, 24) := by kernel_rfl
theorem info34 : (Try.prog.info? 34).map (·.size) = some 8 := by kernel_rfl
theorem sps_one (l : List Sp) : ∀ u ∈ l.flatMap encSp, u.oneCell' = true := by
  intro u hu
  obtain ⟨x, _, hx⟩ := List.mem_flatMap.1 hu
  simp only [encSp, List.mem_cons, List.not_mem_nil, or_false] at hx
  rcases hx with rfl | rfl | rfl <;> rfl
set_option linter.unusedSimpArgs false in
set_option maxRecDepth 100000 in
set_option maxHeartbeats 4000000 in
theorem Clone_ok (A : Option Addr) (c : Nat) (l : List Sp) (w : World) (hR : Reads w w.heap.size 3 A l.length (l.flatMap encSp)) (hn : l.length ≤ 1000) :
    Calls Try.prog 28 #[.slice A l.length c] w fun e w' => (∃ v, e = .returned v ∧ w'.ownsRow w.heap.size 65 3 v l.length (l.flatMap encSp)) ∧ Below w.heap.size w w' := by
  obtain ⟨i0, hi0, hz0, hz1, hz2⟩ := info_parts info65b
  have HI := Lib.hid (And.intro hi0 (And.intro hz0 (And.intro hz1 hz2)))
  clear hi0 hz0 hz1 hz2
  have hb0 : Below w.heap.size w (w.alloc (.cells #[] 65)) := (Below.refl _ w).alloc (Nat.le_refl _) _
  have hnil := fun (w : World) (a : Option Addr) (n c : Nat) => Lib.run_eql_slice_nil (P := Try.prog) w 32 65 a n c 0 0 Try.underlying32
  cases A with
  | none =>
    have h0 : l.length = 0 := by
      rcases Nat.eq_zero_or_pos l.length with h | h
      · exact h
      · obtain ⟨_, e, _⟩ := hR.2 h; cases e
    have hl : l = [] := List.eq_nil_of_length_eq_zero h0
    subst hl
    go_enter Try.func28, Try.ntmps28
    go_wp2_with fail
    go_ret
    exact ⟨⟨_, rfl, World.ownsRow_nil w _ 65 3⟩, Below.refl _ _⟩
  | some ad =>
    obtain ⟨n, hnn⟩ : ∃ n, l.length = n := ⟨_, rfl⟩
    have HN := Lib.hid hnn
    rw [hnn] at hR hn ⊢
    clear hnn
    go_enter Try.func28, Try.ntmps28
    go_wp2_with (at_builtin; refine wpList_append_any _ rfl (.tmp 5) (.tmp 6) _ rfl w.heap.size 65 i0 _ 3 24 Try.underlying32 HI.out.1 HI.out.2.1 HI.out.2.2.1 HI.out.2.2.2 rfl (by omega) (.slice (some ⟨w.heap.size, 0, none⟩) 0 0) 0 [] rfl (own_empty _ _ _) w.heap.size (some ad) n c (l.flatMap encSp) rfl (Reads.below hR hb0) (sps_one _) (by simp only [maxLen]; omega) (by omega) (by simp) ?_; intro v1 w1 hown1 hg1 _; simp only [Nat.zero_add, List.nil_append] at hown1)
    go_ret
    exact ⟨⟨_, rfl, hown1⟩, hb0.grown hg1 (by simp) (by intro k hk; simp [Value.ownBlock] at hk; omega)⟩
theorem tag_ne {W : World} {low : Nat} {e : TypeId} {size : Nat} {v : Value} {n : Nat} {xs : List Value} {g : Nat} {t : TypeId} {cs : Array Value} (h : W.ownsRow low e size v n xs) (hB : Blk W g t cs) (hne : e ≠ t) : ∀ b, v.ownBlock = some b → b ≠ g := by
  intro b hb e9
  subst e9
  rcases h.2 with ⟨rfl, _⟩ | ⟨g', cap, cur, rfl, _, h3, _⟩
  · cases hb
  · injection hb with hb
    subst hb
    have h4 : Blk W g' e cur := h3
    unfold Blk at hB h4
    rw [hB] at h4
    injection h4 with h4
    injection h4 with _ h5
    exact hne h5.symm
/-- a site is returned, without an error -/
structure SiRet (w : World) (s : Si) (x : Ending) (w' : World) : Prop where
  ret : ∃ A c, x = .returned (.tuple #[.agg (siV s A c), .int .i64 0]) ∧ SiR w' A s ∧ ∀ ad, A = some ad → w.heap.size ≤ ad.block
  bel : Below w.heap.size w w'
def trV (s : Si) (A : Option Addr) (c : Nat) : Array Value := #[.int .i64 s.num, .int .i64 s.role, .int .i64 s.ep, .int .i64 s.ap, .slice A s.l.length c, .int .i64 s.src, .bool s.al, .bool s.co, .int .i64 0]
/-- a transition without an error -/
structure TrI (w : World) (tb : Nat) (s : Si) (W : World) : Prop where
  blk : ∃ A c, Blk W tb 60 (trV s A c) ∧ W.ownsRow w.heap.size 65 3 (.slice A s.l.length c) s.l.length (s.l.flatMap encSp)
  gw : w.heap.size ≤ tb
  bel : Below w.heap.size w W
theorem TrI.below {w W W' : World} {tb : Nat} {s : Si} (h : TrI w tb s W) (hb : Below W.heap.size W W') : TrI w tb s W' := by
  obtain ⟨A, c, h1, h2⟩ := h.blk
  exact ⟨⟨A, c, h1.below hb h1.lt, own_below h2 hb⟩, h.gw, h.bel.trans (hb.mono h.bel.size)⟩
theorem demand_ok (tb : Nat) (e : Int) (w : World) : Calls Try.prog 21 #[.pointer (some ⟨tb, 0, none⟩), .bool true, .int .i64 e] w fun x w' => x = .returned (.tuple #[]) ∧ w = w' := by
  go_enter Try.func21, Try.ntmps21
  go_wp2_with fail
  exact bodyPost_end (v := .tuple #[]) (by simp [results, Try.f21, go_sem]) rfl ⟨rfl, rfl⟩
set_option linter.unusedSimpArgs false in
set_option maxRecDepth 100000 in
set_option maxHeartbeats 4000000 in
theorem become_ok (w W : World) (tb : Nat) (s : Si) (r e sr : Int) (h : TrI w tb s W) : Calls Try.prog 22 #[.pointer (some ⟨tb, 0, none⟩), .int .i64 r, .int .i64 e, .int .i64 sr] W fun x W' => x = .returned (.tuple #[]) ∧ TrI w tb { s with role := r, ep := e, src := sr } W' := by
  obtain ⟨A, c, hB, hL⟩ := h.blk
  have HB := Lib.hid (And.intro hB hL)
  have hgl := hB.lt
  clear hB hL
  obtain ⟨num, role, ep, ap, l, src, al, co⟩ := s
  have x1 : W.cell? ⟨tb, 1, none⟩ = some (.int .i64 role) := HB.out.1.cell 1
  have x2 : W.cell? ⟨tb, 2, none⟩ = some (.int .i64 ep) := HB.out.1.cell 2
  have x5 : W.cell? ⟨tb, 5, none⟩ = some (.int .i64 src) := HB.out.1.cell 5
  have z1 : W.frozen? ⟨tb, 1, none⟩ = false := HB.out.1.frozen 1
  have z2 : W.frozen? ⟨tb, 2, none⟩ = false := HB.out.1.frozen 2
  have z5 : W.frozen? ⟨tb, 5, none⟩ = false := HB.out.1.frozen 5
  go_enter Try.func22, Try.ntmps22
  go_wp2_with fail
  refine bodyPost_end (v := .tuple #[]) (by simp [results, Try.f22, Try.results22, go_sem]) rfl ⟨rfl, ⟨A, c, ((HB.out.1.set_ 1 _).set_ 2 _).set_ 5 _, ?_⟩, h.gw, ((h.bel.setCell h.gw _).setCell h.gw _).setCell h.gw _⟩
  have hne : ∀ b, (Value.slice A l.length c).ownBlock = some b → b ≠ tb := tag_ne HB.out.2 HB.out.1 (by decide)
  exact own_far (own_far (own_far HB.out.2 (p := ⟨tb, 1, none⟩) (fun e9 => hne tb e9 rfl) _) (p := ⟨tb, 2, none⟩) (fun e9 => hne tb e9 rfl) _) (p := ⟨tb, 5, none⟩) (fun e9 => hne tb e9 rfl) _
set_option linter.unusedSimpArgs false in
set_option maxRecDepth 100000 in
set_option maxHeartbeats 4000000 in
theorem end_ok (w W : World) (tb : Nat) (s : Si) (h : TrI w tb s W) : Calls Try.prog 23 #[.pointer (some ⟨tb, 0, none⟩)] W (SiRet w s) := by
  obtain ⟨A, c, hB, hL⟩ := h.blk
  obtain ⟨num, role, ep, ap, l, src, al, co⟩ := s
  have Z := Blk.new W 34 #[.int .i64 0, .int .i64 0, .int .i64 0, .int .i64 0, .slice none 0 0, .int .i64 0, .bool false, .bool false]
  have hb0 : Below W.heap.size W (W.alloc (.cells #[.int .i64 0, .int .i64 0, .int .i64 0, .int .i64 0, .slice none 0 0, .int .i64 0, .bool false, .bool false] 34)) := (Below.refl _ W).alloc (Nat.le_refl _) _
  have hB2 := hB.below hb0 hB.lt
  have HNW := Lib.hid (show ∀ ad, A = some ad → w.heap.size ≤ ad.block from fun ad h9 => own_block_ge hL ad.block (by rw [h9]; rfl))
  have HB := Lib.hid (And.intro hb0 (And.intro (Reads.of_own hL) h.bel))
  have HZ := Lib.hid (And.intro Z hB2)
  clear Z hB2 hL hB hb0
  go_enter Try.func23, Try.ntmps23
  go_upto_region 1 with fail
  generalize (W.alloc (.cells #[.int .i64 0, .int .i64 0, .int .i64 0, .int .i64 0, .slice none 0 0, .int .i64 0, .bool false, .bool false] 34)) = V at *
  have hF := Lib.hid (show ∀ u0 u1 u2 u3 u4 u5 u6 u7 : Value, Below W.heap.size W ((((((((V.setCell ⟨W.heap.size, 0, none⟩ u0).setCell ⟨W.heap.size, 1, none⟩ u1).setCell ⟨W.heap.size, 2, none⟩ u2).setCell ⟨W.heap.size, 3, none⟩ u3).setCell ⟨W.heap.size, 4, none⟩ u4).setCell ⟨W.heap.size, 5, none⟩ u5).setCell ⟨W.heap.size, 6, none⟩ u6).setCell ⟨W.heap.size, 7, none⟩ u7) from fun u0 u1 u2 u3 u4 u5 u6 u7 => ((((((((HB.out.1.setCell (Nat.le_refl _) _).setCell (Nat.le_refl _) _).setCell (Nat.le_refl _) _).setCell (Nat.le_refl _) _).setCell (Nat.le_refl _) _).setCell (Nat.le_refl _) _).setCell (Nat.le_refl _) _).setCell (Nat.le_refl _) _))
  have x0 : V.cell? ⟨tb, 0, none⟩ = some (.int .i64 num) := HZ.out.2.cell 0
  have x1 : V.cell? ⟨tb, 1, none⟩ = some (.int .i64 role) := HZ.out.2.cell 1
  have x2 : V.cell? ⟨tb, 2, none⟩ = some (.int .i64 ep) := HZ.out.2.cell 2
  have x3 : V.cell? ⟨tb, 3, none⟩ = some (.int .i64 ap) := HZ.out.2.cell 3
  have x4 : V.cell? ⟨tb, 4, none⟩ = some (.slice A l.length c) := HZ.out.2.cell 4
  have x5 : V.cell? ⟨tb, 5, none⟩ = some (.int .i64 src) := HZ.out.2.cell 5
  have x6 : V.cell? ⟨tb, 6, none⟩ = some (.bool al) := HZ.out.2.cell 6
  have x7 : V.cell? ⟨tb, 7, none⟩ = some (.bool co) := HZ.out.2.cell 7
  have x8 : V.cell? ⟨tb, 8, none⟩ = some (.int .i64 0) := HZ.out.2.cell 8
  have y0 : V.cell? ⟨W.heap.size, 0, none⟩ = some (.int .i64 0) := HZ.out.1.cell 0
  have y1 : V.cell? ⟨W.heap.size, 1, none⟩ = some (.int .i64 0) := HZ.out.1.cell 1
  have y2 : V.cell? ⟨W.heap.size, 2, none⟩ = some (.int .i64 0) := HZ.out.1.cell 2
  have y3 : V.cell? ⟨W.heap.size, 3, none⟩ = some (.int .i64 0) := HZ.out.1.cell 3
  have y4 : V.cell? ⟨W.heap.size, 4, none⟩ = some (.slice none 0 0) := HZ.out.1.cell 4
  have y5 : V.cell? ⟨W.heap.size, 5, none⟩ = some (.int .i64 0) := HZ.out.1.cell 5
  have y6 : V.cell? ⟨W.heap.size, 6, none⟩ = some (.bool false) := HZ.out.1.cell 6
  have y7 : V.cell? ⟨W.heap.size, 7, none⟩ = some (.bool false) := HZ.out.1.cell 7
  have z0 : V.frozen? ⟨W.heap.size, 0, none⟩ = false := HZ.out.1.frozen 0
  have z1 : V.frozen? ⟨W.heap.size, 1, none⟩ = false := HZ.out.1.frozen 1
  have z2 : V.frozen? ⟨W.heap.size, 2, none⟩ = false := HZ.out.1.frozen 2
  have z3 : V.frozen? ⟨W.heap.size, 3, none⟩ = false := HZ.out.1.frozen 3
  have z4 : V.frozen? ⟨W.heap.size, 4, none⟩ = false := HZ.out.1.frozen 4
  have z5 : V.frozen? ⟨W.heap.size, 5, none⟩ = false := HZ.out.1.frozen 5
  have z6 : V.frozen? ⟨W.heap.size, 6, none⟩ = false := HZ.out.1.frozen 6
  have z7 : V.frozen? ⟨W.heap.size, 7, none⟩ = false := HZ.out.1.frozen 7
  go_wp2_with fail
  refine bodyPost_ret (results_cell_tmp rfl _ _ _ _ _ _ rfl ((((((((HZ.out.1.set_ 0 _).set_ 1 _).set_ 2 _).set_ 3 _).set_ 4 _).set_ 5 _).set_ 6 _).set_ 7 _) Try.underlying34 rfl info34) rfl ⟨⟨A, c, rfl, Reads.up HB.out.2.1 (hF.out _ _ _ _ _ _ _ _), HNW.out⟩, HB.out.2.2.trans ((hF.out _ _ _ _ _ _ _ _).mono HB.out.2.2.size)⟩
end Go.Proofs.Ythkajcioeemilaa
