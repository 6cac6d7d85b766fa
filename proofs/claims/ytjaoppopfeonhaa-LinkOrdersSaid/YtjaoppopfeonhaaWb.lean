/- The walks of order, Clone of bytes and of numbers, copied. Condition: at most 100000 elements. -/
import Derived.Test.YtjaoppopfeonhaaWa
import Derived.Test.YtjaoppopfeonhaaLibX
import Derived.StillTailTactics
import Derived.Deep.Cut
namespace Go.Proofs.Ytjaoppopfeonhaa
open Go.RowKit
theorem ret_bool {a b : Bool} (h : a = b) : Ending.returned (.bool a) = .returned (.bool b) := by rw [h]
set_option maxHeartbeats 1000000 in
theorem order_any (t n t' n' : Int) (A A' : Option Addr) (m c m' c' : Nat) (w : World) :
    Calls Try.prog 36 #[.agg (evC t n A m c), .agg (evC t' n' A' m' c')] w fun e w' => e = .returned (.int .i64 (orI (cmpI t t') (cmpI n n'))) ∧ Below w.heap.size w w' := by
  unfold evC
  have hb : Below w.heap.size w ((w.alloc (.cells #[.int .i64 t, .int .i64 n, .slice A m c] 69)).alloc (.cells #[.int .i64 t', .int .i64 n', .slice A' m' c'] 69)) := ((Below.refl _ _).alloc (Nat.le_refl _) _).alloc (by simp) _
  have g0 : Blk ((w.alloc (.cells #[.int .i64 t, .int .i64 n, .slice A m c] 69)).alloc (.cells #[.int .i64 t', .int .i64 n', .slice A' m' c'] 69)) w.heap.size 69 _ := (Blk.new w 69 #[.int .i64 t, .int .i64 n, .slice A m c]).alloc _
  have g1 := Blk.new (w.alloc (.cells #[.int .i64 t, .int .i64 n, .slice A m c] 69)) 69 #[.int .i64 t', .int .i64 n', .slice A' m' c']
  rw [World.size_alloc] at g1
  have HB := Lib.hid hb
  clear hb
  go_enter Try.func36, Try.ntmps36
  go_wp2_with fail
  generalize ((w.alloc (.cells #[.int .i64 t, .int .i64 n, .slice A m c] 69)).alloc (.cells #[.int .i64 t', .int .i64 n', .slice A' m' c'] 69)) = W at *
  refine wp_region_still_tail 10 (by kernel_rfl) (by kernel_rfl) ?_
  simp only [List.take_succ_cons, List.take_zero, List.drop_succ_cons, List.drop_zero]
  change wpStill _ _ W.drew _ _ _
  have x0 : W.drew.cell? ⟨w.heap.size, 0, none⟩ = some (.int .i64 t) := g0.cell 0
  have x1 : W.drew.cell? ⟨w.heap.size, 1, none⟩ = some (.int .i64 n) := g0.cell 1
  have y0 : W.drew.cell? ⟨w.heap.size + 1, 0, none⟩ = some (.int .i64 t') := g1.cell 0
  have y1 : W.drew.cell? ⟨w.heap.size + 1, 1, none⟩ = some (.int .i64 n') := g1.cell 1
  have hbd : Below w.heap.size w W.drew := HB.out.drew
  have HD := Lib.hid hbd
  clear hbd g0 g1
  repeat still_step
  still_call (cmp_still _ _ _)
  repeat still_step
  still_call (cmp_still _ _ _)
  refine wpStill_nil ?_
  obtain ⟨x, hx⟩ : ∃ x, cmpI t t' = x := ⟨_, rfl⟩
  obtain ⟨y, hy⟩ : ∃ y, cmpI n n' = y := ⟨_, rfl⟩
  rw [hx, hy]
  have HX := Lib.hid (And.intro hx hy)
  clear hx hy
  clear x0 x1 y0 y1
  go_wp2_with fail
  have q0 : ((W.alloc (.cells #[.int .i64 x, .int .i64 y] 3)).drew).cell? ⟨W.heap.size, 0, none⟩ = some (.int .i64 x) := (Blk.new W 3 #[.int .i64 x, .int .i64 y]).cell 0
  have q1 : ((W.alloc (.cells #[.int .i64 x, .int .i64 y] 3)).drew).cell? ⟨W.heap.size, 1, none⟩ = some (.int .i64 y) := (Blk.new W 3 #[.int .i64 x, .int .i64 y]).cell 1
  have hbv : Below w.heap.size w ((W.alloc (.cells #[.int .i64 x, .int .i64 y] 3)).drew) := (HB.out.alloc HB.out.size _).drew
  have HV := Lib.hid hbv
  clear hbv
  generalize (W.alloc (.cells #[.int .i64 x, .int .i64 y] 3)).drew = V2 at *
  generalize W.heap.size = g at *
  have HO := Or_two g x y V2 q0 q1
  obtain ⟨z, hz⟩ : ∃ z, orI x y = z := ⟨_, rfl⟩
  rw [hz] at HO
  have HZ := Lib.hid hz
  clear hz
  refine HO.mono ?_
  rintro e w1 ⟨rfl, rfl⟩
  clear q0 q1 HO
  go_wp2_with fail
  go_ret
  exact ⟨ret_int (by rw [HX.out.1, HX.out.2, HZ.out]), HV.out⟩
/-- an event does not stand behind another -/
theorem compare_bef (e f : Em) : decide (0 ≤ orI (cmpI e.t f.t) (cmpI e.n f.n)) = !befB e f := by
  unfold orI cmpI befB
  rcases Int.lt_trichotomy e.t f.t with h | h | h
  · have h1 : ¬ f.t < e.t := by omega
    simp [h]
  · by_cases h2 : e.n < f.n
    · simp [h, h2]
    · have h3 : ¬ (e.t < f.t ∨ (e.t = f.t ∧ e.n < f.n)) := by omega
      rw [decide_eq_false h3]
      simp [h, h2]
      split <;> simp
  · have h1 : ¬ e.t < f.t := by omega
    have h3 : ¬ (e.t < f.t ∨ (e.t = f.t ∧ e.n < f.n)) := by omega
    rw [decide_eq_false h3]
    simp [h, h1]
set_option linter.unusedSimpArgs false in
set_option maxHeartbeats 1000000 in
theorem Clone_any (A : Option Addr) (n c : Nat) (l : List Nat) (w : World) (hR : Reads w w.heap.size 1 A n (u8s l)) (hn : n ≤ 100000) :
    Calls Try.prog 42 #[.slice A n c] w fun e w' => (∃ v, e = .returned v ∧ w'.ownsRow w.heap.size 5 1 v n (u8s l)) ∧ Below w.heap.size w w' := by
  obtain ⟨i0, hi0, hz0, hz1, hz2⟩ := info_parts info5b
  have HI := Lib.hid (And.intro hi0 (And.intro hz0 (And.intro hz1 hz2)))
  have hlen : l.length = n := by have := hR.1; rw [u8s_len] at this; omega
  have HL := Lib.hid hlen
  clear hi0 hz0 hz1 hz2 hlen
  have hb0 : Below w.heap.size w (w.alloc (.cells #[] 5)) := (Below.refl _ w).alloc (Nat.le_refl _) _
  have hnil := fun (w : World) (a : Option Addr) (n c : Nat) => Lib.run_eql_slice_nil (P := Try.prog) w 37 5 a n c 0 0 Try.underlying37
  cases A with
  | none =>
    have h0 : n = 0 := by
      rcases Nat.eq_zero_or_pos n with h | h
      · exact h
      · obtain ⟨_, e, _⟩ := hR.2 h; cases e
    subst h0
    have hl : l = [] := List.eq_nil_of_length_eq_zero HL.out
    subst hl
    go_enter Try.func42, Try.ntmps42
    go_wp2
    go_ret
    exact ⟨⟨_, rfl, World.ownsRow_nil w _ 5 1⟩, Below.refl _ _⟩
  | some ad =>
    go_enter Try.func42, Try.ntmps42
    go_wp2_with (at_builtin; refine wpList_append_any _ rfl (.tmp 5) (.tmp 6) _ rfl w.heap.size 5 i0 _ 1 1 Try.underlying37 HI.out.1 HI.out.2.1 HI.out.2.2.1 HI.out.2.2.2 rfl (by omega) (.slice (some ⟨w.heap.size, 0, none⟩) 0 0) 0 [] rfl (own_empty _ _ _) w.heap.size (some ad) n c (u8s l) rfl (Reads.below hR hb0) (u8s_one _) (by simp only [maxLen]; omega) (by omega) (by simp) ?_; intro v1 w1 hown1 hg1 _; simp only [Nat.zero_add, List.nil_append] at hown1)
    go_ret
    exact ⟨⟨_, rfl, hown1⟩, hb0.grown hg1 (by simp) (by intro k hk; simp [Value.ownBlock] at hk; omega)⟩
def i64s (l : List Int) : List Value := l.map fun x : Int => .int .i64 x
theorem i64s_len (l : List Int) : (i64s l).length = l.length := by simp [i64s]
theorem i64s_one (l : List Int) : ∀ u ∈ i64s l, u.oneCell' = true := by
  intro u hu
  obtain ⟨x, _, rfl⟩ := List.mem_map.1 hu
  rfl
set_option linter.unusedSimpArgs false in
set_option maxHeartbeats 1000000 in
theorem CloneI_any (A : Option Addr) (n c : Nat) (l : List Int) (w : World) (hR : Reads w w.heap.size 1 A n (i64s l)) (hn : n ≤ 100000) :
    Calls Try.prog 38 #[.slice A n c] w fun e w' => (∃ v, e = .returned v ∧ w'.ownsRow w.heap.size 3 1 v n (i64s l)) ∧ Below w.heap.size w w' := by
  obtain ⟨i0, hi0, hz0, hz1, hz2⟩ := info_parts info3b
  have HI := Lib.hid (And.intro hi0 (And.intro hz0 (And.intro hz1 hz2)))
  have hlen : l.length = n := by have := hR.1; rw [i64s_len] at this; omega
  have HL := Lib.hid hlen
  clear hi0 hz0 hz1 hz2 hlen
  have hb0 : Below w.heap.size w (w.alloc (.cells #[] 3)) := (Below.refl _ w).alloc (Nat.le_refl _) _
  have hnil := fun (w : World) (a : Option Addr) (n c : Nat) => Lib.run_eql_slice_nil (P := Try.prog) w 40 3 a n c 0 0 Try.underlying40
  cases A with
  | none =>
    have h0 : n = 0 := by
      rcases Nat.eq_zero_or_pos n with h | h
      · exact h
      · obtain ⟨_, e, _⟩ := hR.2 h; cases e
    subst h0
    have hl : l = [] := List.eq_nil_of_length_eq_zero HL.out
    subst hl
    go_enter Try.func38, Try.ntmps38
    go_wp2
    go_ret
    exact ⟨⟨_, rfl, World.ownsRow_nil w _ 3 1⟩, Below.refl _ _⟩
  | some ad =>
    go_enter Try.func38, Try.ntmps38
    go_wp2_with (at_builtin; refine wpList_append_any _ rfl (.tmp 5) (.tmp 6) _ rfl w.heap.size 3 i0 _ 1 8 Try.underlying40 HI.out.1 HI.out.2.1 HI.out.2.2.1 HI.out.2.2.2 rfl (by omega) (.slice (some ⟨w.heap.size, 0, none⟩) 0 0) 0 [] rfl (own_empty _ _ _) w.heap.size (some ad) n c (i64s l) rfl (Reads.below hR hb0) (i64s_one _) (by simp only [maxLen]; omega) (by omega) (by simp) ?_; intro v1 w1 hown1 hg1 _; simp only [Nat.zero_add, List.nil_append] at hown1)
    go_ret
    exact ⟨⟨_, rfl, hown1⟩, hb0.grown hg1 (by simp) (by intro k hk; simp [Value.ownBlock] at hk; omega)⟩
theorem own_addr {w : World} {base : Nat} {e : TypeId} {size : Nat} {A : Option Addr} {n c : Nat} {xs : List Value} (h : w.ownsRow base e size (.slice A n c) n xs) : ∀ ad, 0 < n → A = some ad → base ≤ ad.block := by
  intro ad hn hA
  obtain ⟨g, cap, cur, hv, hb, _⟩ := own_blk h hn
  injection hv with hv
  rw [hA] at hv
  injection hv with hv
  rw [hv]
  exact hb
theorem results_cell1 {P : Program} {fn : Func} {p : Tmp} {ty : TypeId} (h : fn.results = #[.cell p ty]) (tmps : Array Value) (w : World) (g : Nat) (t : TypeId) (cs : Array Value) (d : TypeDesc)
    (hp : tmps.getD p undef = .pointer (some ⟨g, 0, none⟩)) (hg : Blk w g t cs)
    (hu : P.underlying ty = some d) (hd : (match d with | .struct _ | .array _ _ => true | _ => false) = true) (hi : (P.info? ty).map (·.size) = some cs.size) :
    (results fn tmps).run P w = .ok (.agg cs) w := by
  have hp' : tmps[p]?.getD undef = .pointer (some ⟨g, 0, none⟩) := by simpa using hp
  simp [results, h, hp', asAddr, run_loadVar_row w g t ty cs (0, 0) d hg hu hd hi]
theorem Reads.row {w : World} {B size n : Nat} {A : Option Addr} {xs : List Value} (h : Reads w B size A n xs) {g : Nat} (hne : ∀ ad, 0 < n → A = some ad → ad.block ≠ g) (cs : Array Value) : Reads (w.setRow g cs) B size A n xs := by
  refine ⟨h.1, fun hn => ?_⟩
  obtain ⟨ad, hA, hlt, hc⟩ := h.2 hn
  refine ⟨ad, hA, hlt, fun j u hu => ?_⟩
  refine (World.cell?_of_block ?_).trans (hc j u hu)
  rw [block_of_add]
  exact setRow_other _ _ _ _ (hne ad hn hA)
set_option linter.unusedSimpArgs false in
set_option maxHeartbeats 1000000 in
theorem refcopied_any (A : Option Addr) (n c : Nat) (l : List Nat) (w : World) (hR : Reads w w.heap.size 1 A n (u8s l)) (hn : n ≤ 100000) :
    Calls Try.prog 46 #[.slice A n c] w fun e w' => (∃ v, e = .returned v ∧ w'.ownsRow w.heap.size 5 1 v n (u8s l)) ∧ Below w.heap.size w w' := by
  obtain ⟨i0, hi0, hz0, hz1, hz2⟩ := info_parts info5b
  have HI := Lib.hid (And.intro hi0 (And.intro hz0 (And.intro hz1 hz2)))
  clear hi0 hz0 hz1 hz2
  go_enter Try.func46, Try.ntmps46
  go_wp2_with (at_builtin; refine wpList_append_any _ rfl (.tmp 4) (.tmp 5) _ rfl w.heap.size 5 i0 _ 1 1 Try.underlying37 HI.out.1 HI.out.2.1 HI.out.2.2.1 HI.out.2.2.2 rfl (by omega) (.slice none 0 0) 0 [] rfl (World.ownsRow_nil w _ 5 1) w.heap.size A n c (u8s l) rfl hR (u8s_one _) (by simp only [maxLen]; omega) (by omega) (by simp) ?_; intro v1 w1 hown1 hg1 _; simp only [Nat.zero_add, List.nil_append] at hown1)
  go_ret
  exact ⟨⟨_, rfl, hown1⟩, (Below.refl _ w).grown hg1 (by simp) (by intro k hk; simp [Value.ownBlock] at hk)⟩
end Go.Proofs.Ytjaoppopfeonhaa
