/- The walks of Clone at four types, IndexFunc and ContainsFunc. Conditions: at most 100000 elements. -/
import Derived.Test.YtanmndhdhlmjgaaWa
import Derived.Test.YtanmndhdhlmjgaaVa
import Derived.Test.YtanmndhdhlmjgaaLibN
import Derived.OwnWalkIn
import Derived.TacticsInMore
namespace Go.Proofs.Ytanmndhdhlmjgaa
open Go.RowKit
theorem ret_int {a b : Int} (h : a = b) : Ending.returned (.int .i64 a) = .returned (.int .i64 b) := by rw [h]
theorem ret_bool {a b : Bool} (h : a = b) : Ending.returned (.bool a) = .returned (.bool b) := by rw [h]
theorem flat_one {α : Type} {E : α → List Value} (h : ∀ a, ∀ u ∈ E a, u.oneCell' = true) (l : List α) : ∀ u ∈ l.flatMap E, u.oneCell' = true := by
  intro u hu
  obtain ⟨a, _, ha⟩ := List.mem_flatMap.1 hu
  exact h a u ha
theorem encO_one (e : Oe) : ∀ u ∈ encO e, u.oneCell' = true := by simp [encO, Value.oneCell']
theorem encQ_one (e : Qe) : ∀ u ∈ encQ e, u.oneCell' = true := by simp [encQ, Value.oneCell']
theorem encA_one (e : Ae) : ∀ u ∈ encA e, u.oneCell' = true := by simp [encA, Value.oneCell']
theorem encX_one (e : Xm) : ∀ u ∈ encX e, u.oneCell' = true := by simp [encX, Value.oneCell']
set_option maxRecDepth 100000 in
set_option maxHeartbeats 1000000 in
theorem CloneB_any (A : Option Addr) (n c : Nat) (xs : List Value) (w : World) (hR : Reads w w.heap.size 1 A n xs) (hn : n ≤ 100000) (h1 : ∀ u ∈ xs, u.oneCell' = true) :
    Calls Try.prog 52 #[.slice A n c] w fun e w' => (∃ v, e = .returned v ∧ w'.ownsRow w.heap.size 5 1 v n xs) ∧ Below w.heap.size w w' := by
  obtain ⟨i0, hi0, hz0, hz1, hz2⟩ := info_parts info5b
  have HI := Lib.hid (And.intro hi0 (And.intro hz0 (And.intro hz1 hz2)))
  have H1 := Lib.hid h1
  clear hi0 hz0 hz1 hz2 h1
  have hb0 : Below w.heap.size w (w.alloc (.cells #[] 5)) := (Below.refl _ w).alloc (Nat.le_refl _) _
  have hnil := fun (w : World) (a : Option Addr) (n c : Nat) => Lib.run_eql_slice_nil (P := Try.prog) w 42 5 a n c 0 0 Try.underlying42
  cases A with
  | none =>
    have h0 : n = 0 := by
      rcases Nat.eq_zero_or_pos n with h | h
      · exact h
      · obtain ⟨_, e, _⟩ := hR.2 h; cases e
    subst h0
    have hl : xs = [] := List.eq_nil_of_length_eq_zero (by have := hR.1; omega)
    subst hl
    go_enter Try.func52, Try.ntmps52
    go_wp2
    go_ret
    exact ⟨⟨_, rfl, World.ownsRow_nil w _ 5 1⟩, Below.refl _ _⟩
  | some ad =>
    go_enter Try.func52, Try.ntmps52
    go_wp2_with (at_builtin; refine wpList_append_any _ rfl (.tmp 5) (.tmp 6) _ rfl w.heap.size 5 i0 _ 1 1 Try.underlying42 HI.out.1 HI.out.2.1 HI.out.2.2.1 HI.out.2.2.2 rfl (by omega) (.slice (some ⟨w.heap.size, 0, none⟩) 0 0) 0 [] rfl (own_empty _ _ _) w.heap.size (some ad) n c xs rfl (Reads.below hR hb0) H1.out (by simp only [maxLen]; omega) (by omega) (by simp) ?_; intro v1 w1 hown1 hg1 _; simp only [Nat.zero_add, List.nil_append] at hown1)
    go_ret
    exact ⟨⟨_, rfl, hown1⟩, hb0.grown hg1 (by simp) (by intro k hk; simp [Value.ownBlock] at hk; omega)⟩
set_option maxRecDepth 100000 in
set_option maxHeartbeats 1000000 in
theorem CloneO_any (A : Option Addr) (n c : Nat) (xs : List Value) (w : World) (hR : Reads w w.heap.size 5 A n xs) (hn : n ≤ 100000) (h1 : ∀ u ∈ xs, u.oneCell' = true) :
    Calls Try.prog 64 #[.slice A n c] w fun e w' => (∃ v, e = .returned v ∧ w'.ownsRow w.heap.size 82 5 v n xs) ∧ Below w.heap.size w w' := by
  obtain ⟨i0, hi0, hz0, hz1, hz2⟩ := info_parts info82
  have HI := Lib.hid (And.intro hi0 (And.intro hz0 (And.intro hz1 hz2)))
  have H1 := Lib.hid h1
  clear hi0 hz0 hz1 hz2 h1
  have hb0 : Below w.heap.size w (w.alloc (.cells #[] 82)) := (Below.refl _ w).alloc (Nat.le_refl _) _
  have hnil := fun (w : World) (a : Option Addr) (n c : Nat) => Lib.run_eql_slice_nil (P := Try.prog) w 22 82 a n c 0 0 Try.underlying22
  cases A with
  | none =>
    have h0 : n = 0 := by
      rcases Nat.eq_zero_or_pos n with h | h
      · exact h
      · obtain ⟨_, e, _⟩ := hR.2 h; cases e
    subst h0
    have hl : xs = [] := List.eq_nil_of_length_eq_zero (by have := hR.1; omega)
    subst hl
    go_enter Try.func64, Try.ntmps64
    go_wp2
    go_ret
    exact ⟨⟨_, rfl, World.ownsRow_nil w _ 82 5⟩, Below.refl _ _⟩
  | some ad =>
    go_enter Try.func64, Try.ntmps64
    go_wp2_with (at_builtin; refine wpList_append_any _ rfl (.tmp 5) (.tmp 6) _ rfl w.heap.size 82 i0 _ 5 56 Try.underlying22 HI.out.1 HI.out.2.1 HI.out.2.2.1 HI.out.2.2.2 rfl (by omega) (.slice (some ⟨w.heap.size, 0, none⟩) 0 0) 0 [] rfl (own_empty _ _ _) w.heap.size (some ad) n c xs rfl (Reads.below hR hb0) H1.out (by simp only [maxLen]; omega) (by omega) (by simp) ?_; intro v1 w1 hown1 hg1 _; simp only [Nat.zero_add, List.nil_append] at hown1)
    go_ret
    exact ⟨⟨_, rfl, hown1⟩, hb0.grown hg1 (by simp) (by intro k hk; simp [Value.ownBlock] at hk; omega)⟩
set_option maxRecDepth 100000 in
set_option maxHeartbeats 1000000 in
theorem CloneQ_any (A : Option Addr) (n c : Nat) (xs : List Value) (w : World) (hR : Reads w w.heap.size 1 A n xs) (hn : n ≤ 100000) (h1 : ∀ u ∈ xs, u.oneCell' = true) :
    Calls Try.prog 76 #[.slice A n c] w fun e w' => (∃ v, e = .returned v ∧ w'.ownsRow w.heap.size 42 1 v n xs) ∧ Below w.heap.size w w' := by
  obtain ⟨i0, hi0, hz0, hz1, hz2⟩ := info_parts info42
  have HI := Lib.hid (And.intro hi0 (And.intro hz0 (And.intro hz1 hz2)))
  have H1 := Lib.hid h1
  clear hi0 hz0 hz1 hz2 h1
  have hb0 : Below w.heap.size w (w.alloc (.cells #[] 42)) := (Below.refl _ w).alloc (Nat.le_refl _) _
  have hnil := fun (w : World) (a : Option Addr) (n c : Nat) => Lib.run_eql_slice_nil (P := Try.prog) w 23 42 a n c 0 0 Try.underlying23
  cases A with
  | none =>
    have h0 : n = 0 := by
      rcases Nat.eq_zero_or_pos n with h | h
      · exact h
      · obtain ⟨_, e, _⟩ := hR.2 h; cases e
    subst h0
    have hl : xs = [] := List.eq_nil_of_length_eq_zero (by have := hR.1; omega)
    subst hl
    go_enter Try.func76, Try.ntmps76
    go_wp2
    go_ret
    exact ⟨⟨_, rfl, World.ownsRow_nil w _ 42 1⟩, Below.refl _ _⟩
  | some ad =>
    go_enter Try.func76, Try.ntmps76
    go_wp2_with (at_builtin; refine wpList_append_any _ rfl (.tmp 5) (.tmp 6) _ rfl w.heap.size 42 i0 _ 1 24 Try.underlying23 HI.out.1 HI.out.2.1 HI.out.2.2.1 HI.out.2.2.2 rfl (by omega) (.slice (some ⟨w.heap.size, 0, none⟩) 0 0) 0 [] rfl (own_empty _ _ _) w.heap.size (some ad) n c xs rfl (Reads.below hR hb0) H1.out (by simp only [maxLen]; omega) (by omega) (by simp) ?_; intro v1 w1 hown1 hg1 _; simp only [Nat.zero_add, List.nil_append] at hown1)
    go_ret
    exact ⟨⟨_, rfl, hown1⟩, hb0.grown hg1 (by simp) (by intro k hk; simp [Value.ownBlock] at hk; omega)⟩
set_option maxRecDepth 100000 in
set_option maxHeartbeats 1000000 in
theorem CloneA_any (A : Option Addr) (n c : Nat) (xs : List Value) (w : World) (hR : Reads w w.heap.size 2 A n xs) (hn : n ≤ 100000) (h1 : ∀ u ∈ xs, u.oneCell' = true) :
    Calls Try.prog 87 #[.slice A n c] w fun e w' => (∃ v, e = .returned v ∧ w'.ownsRow w.heap.size 84 2 v n xs) ∧ Below w.heap.size w w' := by
  obtain ⟨i0, hi0, hz0, hz1, hz2⟩ := info_parts info84
  have HI := Lib.hid (And.intro hi0 (And.intro hz0 (And.intro hz1 hz2)))
  have H1 := Lib.hid h1
  clear hi0 hz0 hz1 hz2 h1
  have hb0 : Below w.heap.size w (w.alloc (.cells #[] 84)) := (Below.refl _ w).alloc (Nat.le_refl _) _
  have hnil := fun (w : World) (a : Option Addr) (n c : Nat) => Lib.run_eql_slice_nil (P := Try.prog) w 31 84 a n c 0 0 Try.underlying31
  cases A with
  | none =>
    have h0 : n = 0 := by
      rcases Nat.eq_zero_or_pos n with h | h
      · exact h
      · obtain ⟨_, e, _⟩ := hR.2 h; cases e
    subst h0
    have hl : xs = [] := List.eq_nil_of_length_eq_zero (by have := hR.1; omega)
    subst hl
    go_enter Try.func87, Try.ntmps87
    go_wp2
    go_ret
    exact ⟨⟨_, rfl, World.ownsRow_nil w _ 84 2⟩, Below.refl _ _⟩
  | some ad =>
    go_enter Try.func87, Try.ntmps87
    go_wp2_with (at_builtin; refine wpList_append_any _ rfl (.tmp 5) (.tmp 6) _ rfl w.heap.size 84 i0 _ 2 32 Try.underlying31 HI.out.1 HI.out.2.1 HI.out.2.2.1 HI.out.2.2.2 rfl (by omega) (.slice (some ⟨w.heap.size, 0, none⟩) 0 0) 0 [] rfl (own_empty _ _ _) w.heap.size (some ad) n c xs rfl (Reads.below hR hb0) H1.out (by simp only [maxLen]; omega) (by omega) (by simp) ?_; intro v1 w1 hown1 hg1 _; simp only [Nat.zero_add, List.nil_append] at hown1)
    go_ret
    exact ⟨⟨_, rfl, hown1⟩, hb0.grown hg1 (by simp) (by intro k hk; simp [Value.ownBlock] at hk; omega)⟩
/-- the cells of element k -/
theorem Vec.at_ {α : Type} {E : α → List Value} {R : World → Nat → α → Prop} {t : TypeId} {sz : Nat} {W : World} {base : Nat} {v : Value} {l : List α} (h : Vec E R t sz W base v l) (hE : ∀ a, (E a).length = sz) (hsz : 0 < sz) (hn : 0 < l.length) :
    ∃ b off c, v = .slice (some ⟨b, off, none⟩) l.length c ∧ l.length ≤ c ∧ c ≤ maxLen ∧ b < W.heap.size ∧ ∀ k (hk : k < l.length) j u, (E l[k])[j]? = some u → W.cell? ⟨b, off + (k * sz + j), none⟩ = some u := by
  obtain ⟨A, c, rfl, h1, h2, h3⟩ := h.val
  obtain ⟨b, off, rfl, hb, hc⟩ := h3.rd.elems hE hsz hn
  exact ⟨b, off, c, rfl, h1, h2, hb, hc⟩
end Go.Proofs.Ytanmndhdhlmjgaa

/- Owned rows whose elements are stored to. No condition. -/
namespace Go.Proofs.Ytanmndhdhlmjgaa
open Go.RowKit
theorem Own1.form {α : Type} {E : α → List Value} {R : World → Nat → α → Prop} {t : TypeId} {sz : Nat} {W : World} {base low : Nat} {v : Value} {l : List α} (h : Own1 E R t sz W base low v l) (hE : ∀ a, (E a).length = sz) (hn : 0 < l.length) :
    ∃ g c cur, v = .slice (some ⟨g, 0, none⟩) l.length c ∧ low ≤ g ∧ Blk W g t cur ∧ l.length ≤ c ∧ c ≤ maxLen ∧ ∀ k (hk : k < l.length) j u, (E l[k])[j]? = some u → W.cell? ⟨g, k * sz + j, none⟩ = some u ∧ W.frozen? ⟨g, k * sz + j, none⟩ = false := by
  obtain ⟨g, c, cur, rfl, hg, hb, hc, hm, _, _⟩ := own_blk h.own hn
  refine ⟨g, c, cur, rfl, hg, hb, hc, hm, fun k hk j u hu => ?_⟩
  have hj : j < sz := by rw [← hE l[k]]; exact (List.getElem?_eq_some_iff.1 hu).1
  exact own_cell h.own _ u (by rw [flatMap_at hE l k j hk hj]; exact hu)
theorem Own1.vform {α : Type} {E : α → List Value} {R : World → Nat → α → Prop} {t : TypeId} {sz : Nat} {W : World} {base low : Nat} {v : Value} {l : List α} (h : Own1 E R t sz W base low v l) : ∃ A c, v = .slice A l.length c ∧ l.length ≤ c ∧ c ≤ maxLen := by
  obtain ⟨A, c, h1, h2, h3, _⟩ := own_slice h.own
  exact ⟨A, c, h1, h2, h3⟩
theorem Own1.set {α : Type} {E : α → List Value} {R : World → Nat → α → Prop} {t : TypeId} {sz : Nat} {W : World} {base low g c : Nat} {l : List α} (h : Own1 E R t sz W base low (.slice (some ⟨g, 0, none⟩) l.length c) l) (hl : base ≤ low) (hR : Abides R [t]) (hE : ∀ a, (E a).length = sz) {k : Nat} (hk : k < l.length) {j : Nat} (hj : j < sz) (b : α) (u : Value)
    (hb : (E l[k]).set j u = E b) (hrb : R W base b) : Own1 E R t sz (W.setCell ⟨g, k * sz + j, none⟩ u) base low (.slice (some ⟨g, 0, none⟩) l.length c) (l.set k b) ∧ Turn base [t] W (W.setCell ⟨g, k * sz + j, none⟩ u) := by
  obtain ⟨g2, c2, cur, hv, hg, hbl, _⟩ := h.form hE (by omega)
  injection hv with hA
  injection hA with hA
  injection hA with hA
  subst hA
  have hT : Turn base [t] W (W.setCell ⟨g, k * sz + j, none⟩ u) := (Turn.refl base [t] W).set hbl (by simp) (by omega) _ _
  have ho := own_set h.own (k * sz + j) u
  rw [flatMap_set hE l k hk b j u hj hb] at ho
  refine ⟨⟨by simpa using ho, fun e he => ?_⟩, hT⟩
  rcases List.mem_or_eq_of_mem_set he with he | he
  · exact hR _ _ _ _ hT (h.el e he)
  · subst he
    exact hR _ _ _ _ hT hrb
/-- a row that a call has cloned -/
theorem Own1.clone {α : Type} {E : α → List Value} {R : World → Nat → α → Prop} {t : TypeId} {sz : Nat} {W W' : World} {base : Nat} {v v' : Value} {l : List α} (h : Vec E R t sz W base v l) (ho : W'.ownsRow W.heap.size t sz v' l.length (l.flatMap E)) (hb : Below W.heap.size W W') (hR : Abides R []) : Own1 E R t sz W' base W.heap.size v' l :=
  ⟨ho, fun e he => hR _ _ _ _ (Turn.of_below hb) (h.el e he)⟩
theorem Own1.low {α : Type} {E : α → List Value} {R : World → Nat → α → Prop} {t : TypeId} {sz : Nat} {W : World} {base low low' : Nat} {v : Value} {l : List α} (h : Own1 E R t sz W base low v l) (hb : low' ≤ low) : Own1 E R t sz W base low' v l := ⟨own_base h.own hb, h.el⟩
theorem byt_of_own {W : World} {base low : Nat} {A : Option Addr} {c n : Nat} {p : List Nat} (h : W.ownsRow low 5 1 (.slice A n c) n (u8s p)) (hn : p.length = n) : Byt W base A p := by
  unfold Byt
  rw [hn]
  exact Rd.of_own h
end Go.Proofs.Ytanmndhdhlmjgaa

/- Structs that are stored whole, and results that lie in memory. No condition. -/
namespace Go.Proofs.Ytanmndhdhlmjgaa
open Go.RowKit
theorem results_cell1 {P : Program} {fn : Func} {p : Tmp} {ty : TypeId} (h : fn.results = #[.cell p ty]) (tmps : Array Value) (w : World) (g : Nat) (t : TypeId) (cs : Array Value) (d : TypeDesc)
    (hp : tmps.getD p undef = .pointer (some ⟨g, 0, none⟩)) (hg : Blk w g t cs)
    (hu : P.underlying ty = some d) (hd : (match d with | .struct _ | .array _ _ => true | _ => false) = true) (hi : (P.info? ty).map (·.size) = some cs.size) :
    (results fn tmps).run P w = .ok (.agg cs) w := by
  have hp' : tmps[p]?.getD undef = .pointer (some ⟨g, 0, none⟩) := by simpa using hp
  simp [results, h, hp', asAddr, run_loadVar_row w g t ty cs (0, 0) d hg hu hd hi]
theorem results_cell_tmp2 {P : Program} {fn : Func} {p q r : Tmp} {ty : TypeId} (h : fn.results = #[.cell p ty, .tmp q, .tmp r]) (tmps : Array Value) (w : World) (g : Nat) (t : TypeId) (cs : Array Value) (d : TypeDesc)
    (hp : tmps.getD p undef = .pointer (some ⟨g, 0, none⟩)) (hg : Blk w g t cs)
    (hu : P.underlying ty = some d) (hd : (match d with | .struct _ | .array _ _ => true | _ => false) = true) (hi : (P.info? ty).map (·.size) = some cs.size) :
    (results fn tmps).run P w = .ok (.tuple #[.agg cs, tmps.getD q undef, tmps.getD r undef]) w := by
  have hp' : tmps[p]?.getD undef = .pointer (some ⟨g, 0, none⟩) := by simpa using hp
  simp [results, h, hp', asAddr, run_loadVar_row w g t ty cs (0, 0) d hg hu hd hi]
theorem set25_blk {W : World} {g : Nat} {c0 c1 c2 c3 c4 c5 c6 c7 : Value} (h : Blk W g 25 #[c0, c1, c2, c3, c4, c5, c6, c7]) (v0 v1 v2 v3 v4 v5 v6 v7 : Value) : Blk ((((((((W.setCell ⟨g, 0, none⟩ v0).setCell ⟨g, 1, none⟩ v1).setCell ⟨g, 2, none⟩ v2).setCell ⟨g, 3, none⟩ v3).setCell ⟨g, 4, none⟩ v4).setCell ⟨g, 5, none⟩ v5).setCell ⟨g, 6, none⟩ v6).setCell ⟨g, 7, none⟩ v7) g 25 #[v0, v1, v2, v3, v4, v5, v6, v7] := by
  have hB := ((((((((h.set_ 0 v0).set_ 1 v1).set_ 2 v2).set_ 3 v3).set_ 4 v4).set_ 5 v5).set_ 6 v6).set_ 7 v7)
  simp only [List.setIfInBounds_toArray, List.set_cons_zero, List.set_cons_succ] at hB
  exact hB
theorem set25_turn {W : World} {g base : Nat} {cs : Array Value} (h : Blk W g 25 cs) (hg : base ≤ g) (v0 v1 v2 v3 v4 v5 v6 v7 : Value) : Turn base [25] W ((((((((W.setCell ⟨g, 0, none⟩ v0).setCell ⟨g, 1, none⟩ v1).setCell ⟨g, 2, none⟩ v2).setCell ⟨g, 3, none⟩ v3).setCell ⟨g, 4, none⟩ v4).setCell ⟨g, 5, none⟩ v5).setCell ⟨g, 6, none⟩ v6).setCell ⟨g, 7, none⟩ v7) :=
  (((((((((Turn.refl base [25] W).set h (by simp) hg 0 v0).set (h.set_ 0 v0) (by simp) hg 1 v1).set ((h.set_ 0 v0).set_ 1 v1) (by simp) hg 2 v2).set (((h.set_ 0 v0).set_ 1 v1).set_ 2 v2) (by simp) hg 3 v3).set ((((h.set_ 0 v0).set_ 1 v1).set_ 2 v2).set_ 3 v3) (by simp) hg 4 v4).set (((((h.set_ 0 v0).set_ 1 v1).set_ 2 v2).set_ 3 v3).set_ 4 v4) (by simp) hg 5 v5).set ((((((h.set_ 0 v0).set_ 1 v1).set_ 2 v2).set_ 3 v3).set_ 4 v4).set_ 5 v5) (by simp) hg 6 v6).set (((((((h.set_ 0 v0).set_ 1 v1).set_ 2 v2).set_ 3 v3).set_ 4 v4).set_ 5 v5).set_ 6 v6) (by simp) hg 7 v7)
theorem set25_below {W w : World} {g B : Nat} (hb : Below B w W) (hg : B ≤ g) (v0 v1 v2 v3 v4 v5 v6 v7 : Value) : Below B w ((((((((W.setCell ⟨g, 0, none⟩ v0).setCell ⟨g, 1, none⟩ v1).setCell ⟨g, 2, none⟩ v2).setCell ⟨g, 3, none⟩ v3).setCell ⟨g, 4, none⟩ v4).setCell ⟨g, 5, none⟩ v5).setCell ⟨g, 6, none⟩ v6).setCell ⟨g, 7, none⟩ v7) :=
  ((((((((hb.setCell (p := ⟨g, 0, none⟩) hg v0).setCell (p := ⟨g, 1, none⟩) hg v1).setCell (p := ⟨g, 2, none⟩) hg v2).setCell (p := ⟨g, 3, none⟩) hg v3).setCell (p := ⟨g, 4, none⟩) hg v4).setCell (p := ⟨g, 5, none⟩) hg v5).setCell (p := ⟨g, 6, none⟩) hg v6).setCell (p := ⟨g, 7, none⟩) hg v7)
theorem set25_other {W : World} {g k t2 : Nat} {cs : Array Value} (h : Blk W k t2 cs) (hne : k ≠ g) (v0 v1 v2 v3 v4 v5 v6 v7 : Value) : Blk ((((((((W.setCell ⟨g, 0, none⟩ v0).setCell ⟨g, 1, none⟩ v1).setCell ⟨g, 2, none⟩ v2).setCell ⟨g, 3, none⟩ v3).setCell ⟨g, 4, none⟩ v4).setCell ⟨g, 5, none⟩ v5).setCell ⟨g, 6, none⟩ v6).setCell ⟨g, 7, none⟩ v7) k t2 cs := by
  exact ((((((((h.far (p := ⟨g, 0, none⟩) hne v0).far (p := ⟨g, 1, none⟩) hne v1).far (p := ⟨g, 2, none⟩) hne v2).far (p := ⟨g, 3, none⟩) hne v3).far (p := ⟨g, 4, none⟩) hne v4).far (p := ⟨g, 5, none⟩) hne v5).far (p := ⟨g, 6, none⟩) hne v6).far (p := ⟨g, 7, none⟩) hne v7)
theorem set33_blk {W : World} {g : Nat} {c0 c1 c2 c3 : Value} (h : Blk W g 33 #[c0, c1, c2, c3]) (v0 v1 v2 v3 : Value) : Blk ((((W.setCell ⟨g, 0, none⟩ v0).setCell ⟨g, 1, none⟩ v1).setCell ⟨g, 2, none⟩ v2).setCell ⟨g, 3, none⟩ v3) g 33 #[v0, v1, v2, v3] := by
  have hB := ((((h.set_ 0 v0).set_ 1 v1).set_ 2 v2).set_ 3 v3)
  simp only [List.setIfInBounds_toArray, List.set_cons_zero, List.set_cons_succ] at hB
  exact hB
theorem set33_turn {W : World} {g base : Nat} {cs : Array Value} (h : Blk W g 33 cs) (hg : base ≤ g) (v0 v1 v2 v3 : Value) : Turn base [33] W ((((W.setCell ⟨g, 0, none⟩ v0).setCell ⟨g, 1, none⟩ v1).setCell ⟨g, 2, none⟩ v2).setCell ⟨g, 3, none⟩ v3) :=
  (((((Turn.refl base [33] W).set h (by simp) hg 0 v0).set (h.set_ 0 v0) (by simp) hg 1 v1).set ((h.set_ 0 v0).set_ 1 v1) (by simp) hg 2 v2).set (((h.set_ 0 v0).set_ 1 v1).set_ 2 v2) (by simp) hg 3 v3)
theorem set33_below {W w : World} {g B : Nat} (hb : Below B w W) (hg : B ≤ g) (v0 v1 v2 v3 : Value) : Below B w ((((W.setCell ⟨g, 0, none⟩ v0).setCell ⟨g, 1, none⟩ v1).setCell ⟨g, 2, none⟩ v2).setCell ⟨g, 3, none⟩ v3) :=
  ((((hb.setCell (p := ⟨g, 0, none⟩) hg v0).setCell (p := ⟨g, 1, none⟩) hg v1).setCell (p := ⟨g, 2, none⟩) hg v2).setCell (p := ⟨g, 3, none⟩) hg v3)
theorem set33_other {W : World} {g k t2 : Nat} {cs : Array Value} (h : Blk W k t2 cs) (hne : k ≠ g) (v0 v1 v2 v3 : Value) : Blk ((((W.setCell ⟨g, 0, none⟩ v0).setCell ⟨g, 1, none⟩ v1).setCell ⟨g, 2, none⟩ v2).setCell ⟨g, 3, none⟩ v3) k t2 cs := by
  exact ((((h.far (p := ⟨g, 0, none⟩) hne v0).far (p := ⟨g, 1, none⟩) hne v1).far (p := ⟨g, 2, none⟩) hne v2).far (p := ⟨g, 3, none⟩) hne v3)
theorem set82_blk {W : World} {g : Nat} {c0 c1 c2 c3 c4 : Value} (h : Blk W g 82 #[c0, c1, c2, c3, c4]) (v0 v1 v2 v3 v4 : Value) : Blk (((((W.setCell ⟨g, 0, none⟩ v0).setCell ⟨g, 1, none⟩ v1).setCell ⟨g, 2, none⟩ v2).setCell ⟨g, 3, none⟩ v3).setCell ⟨g, 4, none⟩ v4) g 82 #[v0, v1, v2, v3, v4] := by
  have hB := (((((h.set_ 0 v0).set_ 1 v1).set_ 2 v2).set_ 3 v3).set_ 4 v4)
  simp only [List.setIfInBounds_toArray, List.set_cons_zero, List.set_cons_succ] at hB
  exact hB
theorem set82_turn {W : World} {g base : Nat} {cs : Array Value} (h : Blk W g 82 cs) (hg : base ≤ g) (v0 v1 v2 v3 v4 : Value) : Turn base [82] W (((((W.setCell ⟨g, 0, none⟩ v0).setCell ⟨g, 1, none⟩ v1).setCell ⟨g, 2, none⟩ v2).setCell ⟨g, 3, none⟩ v3).setCell ⟨g, 4, none⟩ v4) :=
  ((((((Turn.refl base [82] W).set h (by simp) hg 0 v0).set (h.set_ 0 v0) (by simp) hg 1 v1).set ((h.set_ 0 v0).set_ 1 v1) (by simp) hg 2 v2).set (((h.set_ 0 v0).set_ 1 v1).set_ 2 v2) (by simp) hg 3 v3).set ((((h.set_ 0 v0).set_ 1 v1).set_ 2 v2).set_ 3 v3) (by simp) hg 4 v4)
theorem set82_below {W w : World} {g B : Nat} (hb : Below B w W) (hg : B ≤ g) (v0 v1 v2 v3 v4 : Value) : Below B w (((((W.setCell ⟨g, 0, none⟩ v0).setCell ⟨g, 1, none⟩ v1).setCell ⟨g, 2, none⟩ v2).setCell ⟨g, 3, none⟩ v3).setCell ⟨g, 4, none⟩ v4) :=
  (((((hb.setCell (p := ⟨g, 0, none⟩) hg v0).setCell (p := ⟨g, 1, none⟩) hg v1).setCell (p := ⟨g, 2, none⟩) hg v2).setCell (p := ⟨g, 3, none⟩) hg v3).setCell (p := ⟨g, 4, none⟩) hg v4)
theorem set82_other {W : World} {g k t2 : Nat} {cs : Array Value} (h : Blk W k t2 cs) (hne : k ≠ g) (v0 v1 v2 v3 v4 : Value) : Blk (((((W.setCell ⟨g, 0, none⟩ v0).setCell ⟨g, 1, none⟩ v1).setCell ⟨g, 2, none⟩ v2).setCell ⟨g, 3, none⟩ v3).setCell ⟨g, 4, none⟩ v4) k t2 cs := by
  exact (((((h.far (p := ⟨g, 0, none⟩) hne v0).far (p := ⟨g, 1, none⟩) hne v1).far (p := ⟨g, 2, none⟩) hne v2).far (p := ⟨g, 3, none⟩) hne v3).far (p := ⟨g, 4, none⟩) hne v4)
theorem set55_blk {W : World} {g : Nat} {c0 c1 c2 c3 c4 c5 c6 : Value} (h : Blk W g 55 #[c0, c1, c2, c3, c4, c5, c6]) (v0 v1 v2 v3 v4 v5 v6 : Value) : Blk (((((((W.setCell ⟨g, 0, none⟩ v0).setCell ⟨g, 1, none⟩ v1).setCell ⟨g, 2, none⟩ v2).setCell ⟨g, 3, none⟩ v3).setCell ⟨g, 4, none⟩ v4).setCell ⟨g, 5, none⟩ v5).setCell ⟨g, 6, none⟩ v6) g 55 #[v0, v1, v2, v3, v4, v5, v6] := by
  have hB := (((((((h.set_ 0 v0).set_ 1 v1).set_ 2 v2).set_ 3 v3).set_ 4 v4).set_ 5 v5).set_ 6 v6)
  simp only [List.setIfInBounds_toArray, List.set_cons_zero, List.set_cons_succ] at hB
  exact hB
theorem set55_turn {W : World} {g base : Nat} {cs : Array Value} (h : Blk W g 55 cs) (hg : base ≤ g) (v0 v1 v2 v3 v4 v5 v6 : Value) : Turn base [55] W (((((((W.setCell ⟨g, 0, none⟩ v0).setCell ⟨g, 1, none⟩ v1).setCell ⟨g, 2, none⟩ v2).setCell ⟨g, 3, none⟩ v3).setCell ⟨g, 4, none⟩ v4).setCell ⟨g, 5, none⟩ v5).setCell ⟨g, 6, none⟩ v6) :=
  ((((((((Turn.refl base [55] W).set h (by simp) hg 0 v0).set (h.set_ 0 v0) (by simp) hg 1 v1).set ((h.set_ 0 v0).set_ 1 v1) (by simp) hg 2 v2).set (((h.set_ 0 v0).set_ 1 v1).set_ 2 v2) (by simp) hg 3 v3).set ((((h.set_ 0 v0).set_ 1 v1).set_ 2 v2).set_ 3 v3) (by simp) hg 4 v4).set (((((h.set_ 0 v0).set_ 1 v1).set_ 2 v2).set_ 3 v3).set_ 4 v4) (by simp) hg 5 v5).set ((((((h.set_ 0 v0).set_ 1 v1).set_ 2 v2).set_ 3 v3).set_ 4 v4).set_ 5 v5) (by simp) hg 6 v6)
theorem set55_below {W w : World} {g B : Nat} (hb : Below B w W) (hg : B ≤ g) (v0 v1 v2 v3 v4 v5 v6 : Value) : Below B w (((((((W.setCell ⟨g, 0, none⟩ v0).setCell ⟨g, 1, none⟩ v1).setCell ⟨g, 2, none⟩ v2).setCell ⟨g, 3, none⟩ v3).setCell ⟨g, 4, none⟩ v4).setCell ⟨g, 5, none⟩ v5).setCell ⟨g, 6, none⟩ v6) :=
  (((((((hb.setCell (p := ⟨g, 0, none⟩) hg v0).setCell (p := ⟨g, 1, none⟩) hg v1).setCell (p := ⟨g, 2, none⟩) hg v2).setCell (p := ⟨g, 3, none⟩) hg v3).setCell (p := ⟨g, 4, none⟩) hg v4).setCell (p := ⟨g, 5, none⟩) hg v5).setCell (p := ⟨g, 6, none⟩) hg v6)
theorem set55_other {W : World} {g k t2 : Nat} {cs : Array Value} (h : Blk W k t2 cs) (hne : k ≠ g) (v0 v1 v2 v3 v4 v5 v6 : Value) : Blk (((((((W.setCell ⟨g, 0, none⟩ v0).setCell ⟨g, 1, none⟩ v1).setCell ⟨g, 2, none⟩ v2).setCell ⟨g, 3, none⟩ v3).setCell ⟨g, 4, none⟩ v4).setCell ⟨g, 5, none⟩ v5).setCell ⟨g, 6, none⟩ v6) k t2 cs := by
  exact (((((((h.far (p := ⟨g, 0, none⟩) hne v0).far (p := ⟨g, 1, none⟩) hne v1).far (p := ⟨g, 2, none⟩) hne v2).far (p := ⟨g, 3, none⟩) hne v3).far (p := ⟨g, 4, none⟩) hne v4).far (p := ⟨g, 5, none⟩) hne v5).far (p := ⟨g, 6, none⟩) hne v6)
theorem set84_blk {W : World} {g : Nat} {c0 c1 : Value} (h : Blk W g 84 #[c0, c1]) (v0 v1 : Value) : Blk ((W.setCell ⟨g, 0, none⟩ v0).setCell ⟨g, 1, none⟩ v1) g 84 #[v0, v1] := by
  have hB := ((h.set_ 0 v0).set_ 1 v1)
  simp only [List.setIfInBounds_toArray, List.set_cons_zero, List.set_cons_succ] at hB
  exact hB
theorem set84_turn {W : World} {g base : Nat} {cs : Array Value} (h : Blk W g 84 cs) (hg : base ≤ g) (v0 v1 : Value) : Turn base [84] W ((W.setCell ⟨g, 0, none⟩ v0).setCell ⟨g, 1, none⟩ v1) :=
  (((Turn.refl base [84] W).set h (by simp) hg 0 v0).set (h.set_ 0 v0) (by simp) hg 1 v1)
theorem set84_below {W w : World} {g B : Nat} (hb : Below B w W) (hg : B ≤ g) (v0 v1 : Value) : Below B w ((W.setCell ⟨g, 0, none⟩ v0).setCell ⟨g, 1, none⟩ v1) :=
  ((hb.setCell (p := ⟨g, 0, none⟩) hg v0).setCell (p := ⟨g, 1, none⟩) hg v1)
theorem set84_other {W : World} {g k t2 : Nat} {cs : Array Value} (h : Blk W k t2 cs) (hne : k ≠ g) (v0 v1 : Value) : Blk ((W.setCell ⟨g, 0, none⟩ v0).setCell ⟨g, 1, none⟩ v1) k t2 cs := by
  exact ((h.far (p := ⟨g, 0, none⟩) hne v0).far (p := ⟨g, 1, none⟩) hne v1)
end Go.Proofs.Ytanmndhdhlmjgaa

/- One element is appended to an owned row: in a plain region, in one inside the fence, in a drawn one. No condition. -/
namespace Go.Proofs.Ytanmndhdhlmjgaa
open Go.RowKit
theorem Turn.base {b b' : Nat} {T : List TypeId} {A C : World} (h : Turn b T A C) (hb : b' ≤ b) : Turn b' T A C :=
  ⟨h.os, h.tape, h.output, h.size, fun k hk hs => h.low k (by omega) hs, h.block⟩
/-- what an append of one element leaves -/
structure Pushed {α : Type} (E : α → List Value) (R : World → Nat → α → Prop) (t : TypeId) (sz : Nat) (base low : Nat) (l : List α) (b : α) (w : World) (v' : Value) (w' : World) : Prop where
  own : Own1 E R t sz w' base low v' (l ++ [b])
  turn : Turn low [t] w w'
section
variable {α : Type} {E : α → List Value} {R : World → Nat → α → Prop} {t : TypeId} {sz : Nat} {base low : Nat} {l : List α} {b : α} {w : World} {v : Value} {P : Program}
theorem run_push (st ty : TypeId) (z : Value) (bytes : Nat) (ht : P.underlying st = some (.slice t)) (hinf : (P.info? t).map (fun i => (i.zero, i.size, i.bytes)) = some (some z, sz, bytes)) (hzs : z.cells.size = sz) (hsz : 0 < sz) (hE1 : ∀ u ∈ E b, u.oneCell' = true) (hEl : (E b).length = sz)
    (h : Own1 E R t sz w base low v l) (hl : base ≤ low) (hR : Abides R [t]) (hrb : R w base b) {g c : Nat} (hg : Blk w g t (E b).toArray) (hn : l.length ≤ 1000000) (hby : bytes ≤ 100) (hlow : low ≤ w.heap.size) :
    ∃ v' w', (Builtin.append_ #[st, st] ty #[v, .slice (some ⟨g, 0, none⟩) 1 c]).run P w = .ok v' w' ∧ Pushed E R t sz base low l b w v' w' := by
  obtain ⟨i0, hi0, hz0, hz1, hz2⟩ := info_parts hinf
  obtain ⟨v', w', hrun, ho, hgr, _⟩ := run_append_any (P := P) w low st ty t i0 z sz bytes ht hi0 hz0 hz1 hz2 hzs hsz v l.length (l.flatMap E) h.own w.heap.size (some ⟨g, 0, none⟩) 1 c (E b) (by have h9 := hg.reads (size := sz) (n := 1) (by simpa using hEl); simpa using h9) hE1 (by simp only [maxLen]; omega)
    (Nat.le_trans (Nat.mul_le_mul (show l.length + 1 ≤ 1000001 by omega) hby) (by omega)) hlow
  exact ⟨v', w', hrun, Own1.push h hl ho hgr hR hrb, (Turn.refl low [t] w).grown h.own hgr (by simp) (Nat.le_refl _)⟩
theorem wpList_push {ops : Array Oper} {rest : List Oper} {o : Oper} {a : Act} {Q : Exit → Act → World → Prop} (hgd : o.guard = none) (s x : Operand) (st : TypeId) (ho : o.op = .call { callee := .builtin .append, args := #[s, x], argTypes := #[st, st] }) (z : Value) (bytes : Nat) (ht : P.underlying st = some (.slice t)) (hinf : (P.info? t).map (fun i => (i.zero, i.size, i.bytes)) = some (some z, sz, bytes)) (hzs : z.cells.size = sz) (hsz : 0 < sz) (hE1 : ∀ u ∈ E b, u.oneCell' = true) (hEl : (E b).length = sz)
    (hs : a.eval s = v) (h : Own1 E R t sz w base low v l) (hl : base ≤ low) (hR : Abides R [t]) (hrb : R w base b) {g c : Nat} (hx : a.eval x = .slice (some ⟨g, 0, none⟩) 1 c) (hg : Blk w g t (E b).toArray) (hn : l.length ≤ 1000000) (hby : bytes ≤ 100) (hlow : low ≤ w.heap.size)
    (hK : ∀ v' w', Pushed E R t sz base low l b w v' w' → wpList P ops Q rest (a.put o.dst v') w') : wpList P ops Q (o :: rest) a w := by
  obtain ⟨v', w', hrun, hp⟩ := run_push (P := P) st o.type z bytes ht hinf hzs hsz hE1 hEl h hl hR hrb (c := c) hg hn hby hlow
  refine wpList_plain hgd fun K hK' => ?_
  unfold Oper.wp execOp
  simp only [ho, resolve, invoke, builtin, Sem.run_bind, Sem.run_pure, Result.andThen_ok, List.map_toArray, List.map_cons, List.map_nil, hs, hx, hrun]
  exact hK' _ _ (hK v' w' hp)
theorem wpListIn_push {F : Fence} {n : Nat} {ops : Array Oper} {rest : List Oper} {o : Oper} {a : Act} {Q : Exit → Act → World → Prop} (hgd : o.guard = none) (s x : Operand) (st : TypeId) (ho : o.op = .call { callee := .builtin .append, args := #[s, x], argTypes := #[st, st] }) (z : Value) (bytes : Nat) (ht : P.underlying st = some (.slice t)) (hinf : (P.info? t).map (fun i => (i.zero, i.size, i.bytes)) = some (some z, sz, bytes)) (hzs : z.cells.size = sz) (hsz : 0 < sz) (hE1 : ∀ u ∈ E b, u.oneCell' = true) (hEl : (E b).length = sz)
    (hs : a.eval s = v) (h : Own1 E R t sz w base low v l) (hl : base ≤ low) (hR : Abides R [t]) (hrb : R w base b) {g c : Nat} (hx : a.eval x = .slice (some ⟨g, 0, none⟩) 1 c) (hg : Blk w g t (E b).toArray) (hn : l.length ≤ 1000000) (hby : bytes ≤ 100) (hlow : low ≤ w.heap.size)
    (hK : ∀ v' w', Pushed E R t sz base low l b w v' w' → wpListIn F n P ops Q rest (a.put o.dst v') w') : wpListIn F n P ops Q (o :: rest) a w := by
  obtain ⟨v', w', hrun, hp⟩ := run_push (P := P) st o.type z bytes ht hinf hzs hsz hE1 hEl h hl hR hrb (c := c) hg hn hby hlow
  refine wpListIn_plain hgd fun K hK' => ?_
  unfold Oper.wpIn
  refine ⟨by simp [Oper.about, ho, resolve, Target.leads, Sem.run_pure], ?_⟩
  rw [Oper.semAt_plain F _ _ (by rw [ho]; intro c hc'; cases hc')]
  simp only [execOp, ho, resolve, invoke, builtin, Sem.run_bind, Sem.run_pure, Result.andThen_ok, List.map_toArray, List.map_cons, List.map_nil, hs, hx, hrun]
  exact hK' _ _ (hK v' w' hp)
theorem lexP_push {F : Fence} {n : Nat} {ops : Array Oper} {Q : Exit → Act → World → Prop} {S : World → Prop} {Z : List Nat} {i : Nat} {is : List (Nat × Nat)} {o : Oper} {a : Act} (hi : ops[i]? = some o) (hF : ∀ f, F.fn f) (s x : Operand) (st : TypeId) (ho : o.op = .call { callee := .builtin .append, args := #[s, x], argTypes := #[st, st] }) (z : Value) (bytes : Nat) (ht : P.underlying st = some (.slice t)) (hinf : (P.info? t).map (fun i => (i.zero, i.size, i.bytes)) = some (some z, sz, bytes)) (hzs : z.cells.size = sz) (hsz : 0 < sz) (hE1 : ∀ u ∈ E b, u.oneCell' = true) (hEl : (E b).length = sz)
    (hs : a.eval s = v) (h : Own1 E R t sz w base low v l) (hl : base ≤ low) (hR : Abides R [t]) (hrb : R w base b) {g c : Nat} (hx : a.eval x = .slice (some ⟨g, 0, none⟩) 1 c) (hg : Blk w g t (E b).toArray) (hn : l.length ≤ 1000000) (hby : bytes ≤ 100) (hlow : low ≤ w.heap.size)
    (hK : ∀ v' w', Pushed E R t sz base low l b w v' w' → (Z.contains i = true ∨ S w') ∧ lexP F n P ops Q S Z is (a.put o.dst v') w') : lexP F n P ops Q S Z ((i, 0) :: is) a w := by
  obtain ⟨v', w', hrun, hp⟩ := run_push (P := P) st o.type z bytes ht hinf hzs hsz hE1 hEl h hl hR hrb (c := c) hg hn hby hlow
  refine lexP_eff hi hF ?_
  simp only [execOp, ho, resolve, invoke, builtin, Sem.run_bind, Sem.run_pure, Result.andThen_ok, List.map_toArray, List.map_cons, List.map_nil, hs, hx, hrun]
  exact hK v' w' hp
end
end Go.Proofs.Ytanmndhdhlmjgaa

/- Guarded operations of a drawn region. No condition. -/
namespace Go.Proofs.Ytanmndhdhlmjgaa
open Go Region
theorem wanted_some {ops : Array Oper} {o : Oper} {tmps : Array Value} {k d : Nat} {b c : Bool} (hg : o.guard = some (k, b)) (hd : (ops[k]?).bind (·.dst) = some d) (ht : tmps[d]? = some (.bool c)) :
    Region.wanted o (yielded ops tmps) = (c == b) := by
  unfold Region.wanted yielded
  rw [hg]
  simp only [hd, Option.bind_some, ht]
  cases b <;> cases c <;> rfl
theorem wanted_none {ops : Array Oper} {o : Oper} {tmps : Array Value} (hg : o.guard = none) : Region.wanted o (yielded ops tmps) = true := by
  unfold Region.wanted
  rw [hg]
end Go.Proofs.Ytanmndhdhlmjgaa
