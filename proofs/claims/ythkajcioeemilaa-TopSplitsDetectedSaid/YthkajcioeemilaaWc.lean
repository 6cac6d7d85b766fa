/- The walks of role.correct, head, other, Check. No condition. -/
import Derived.Test.YthkajcioeemilaaWb
namespace Go.Proofs.Ythkajcioeemilaa
open Go.RowKit
theorem results_one {P : Program} {fn : Func} {p : Tmp} {ty : TypeId} (h : fn.results = #[.cell p ty]) (tmps : Array Value) (w : World) (g : Nat) (t : TypeId) (cs : Array Value) (d : TypeDesc)
    (hp : tmps.getD p undef = .pointer (some ⟨g, 0, none⟩)) (hg : Blk w g t cs)
    (hu : P.underlying ty = some d) (hd : (match d with | .struct _ | .array _ _ => true | _ => false) = true) (hi : (P.info? ty).map (·.size) = some cs.size) :
    (results fn tmps).run P w = .ok (.agg cs) w := by
  have hp' : tmps[p]?.getD undef = .pointer (some ⟨g, 0, none⟩) := by simpa using hp
  simp [results, h, hp', asAddr, run_loadVar_row w g t ty cs (0, 0) d hg hu hd hi]
theorem info65 : (Try.prog.info? 65).map (·.size) = some 3 := by kernel_rfl
/-- the last span of a lineage -/
def hdS : List Sp → Sp
  | [] => ⟨0, 0, 0⟩
  | [x] => x
  | _ :: y :: l => hdS (y :: l)
theorem hdS_at (l : List Sp) (h : 0 < l.length) : hdS l = l[l.length - 1]'(by omega) := by
  induction l with
  | nil => exact absurd h (by simp)
  | cons x l ih =>
    cases l with
    | nil => rfl
    | cons y l =>
      have := ih (by simp)
      simp only [hdS]
      rw [this]
      simp
theorem anc_self (l : List Sp) (c e : Int) : ancF l l c e = if l = [] then (c, e) else ((hdS l).t, (hdS l).e) := by
  induction l generalizing c e with
  | nil => rfl
  | cons x l ih =>
    unfold ancF
    rw [if_pos rfl, if_pos rfl, ih, if_neg (List.cons_ne_nil x l)]
    cases l with
    | nil => simp [hdS]
    | cons y l => rw [if_neg (List.cons_ne_nil y l)]; rfl
theorem hdS_pos {e t : Int} {l : List Sp} (h : CorF e t l) (ht : 0 ≤ t) (hl : l ≠ []) : t < (hdS l).t ∧ (hdS l).t ≤ 1073741824 := by
  induction l generalizing e t with
  | nil => exact absurd rfl hl
  | cons x l ih =>
    obtain ⟨q1, q2, q3, q4, q5, q6, q7⟩ := h
    cases l with
    | nil => exact ⟨by simp only [hdS]; omega, q3⟩
    | cons y l =>
      have := ih q7 (by omega) (by simp)
      simp only [hdS]
      exact ⟨by omega, this.2⟩
set_option linter.unusedSimpArgs false in
set_option maxRecDepth 100000 in
set_option maxHeartbeats 4000000 in
theorem head_ok (w : World) (A : Option Addr) (c : Nat) (l : List Sp) (hR : Reads w w.heap.size 3 A l.length (l.flatMap encSp)) (hn : l.length ≤ 1000) : Calls Try.prog 31 #[.slice A l.length c] w fun x w' => x = .returned (.agg #[.int .i64 (hdS l).e, .int .i64 (hdS l).f, .int .i64 (hdS l).t]) ∧ Below w.heap.size w w' := by
  have b0 := Blk.new w 65 #[.int .i64 0, .int .i64 0, .int .i64 0]
  have hb0 : Below w.heap.size w (w.alloc (.cells #[.int .i64 0, .int .i64 0, .int .i64 0] 65)) := (Below.refl _ w).alloc (Nat.le_refl _) _
  cases l with
  | nil =>
    have HB := Lib.hid (And.intro b0 hb0)
    clear b0 hb0 hR
    simp only [List.length_nil]
    go_enter Try.func31, Try.ntmps31
    go_upto_region 1 with fail
    generalize (w.alloc (.cells #[.int .i64 0, .int .i64 0, .int .i64 0] 65)) = V at *
    have x0 := HB.out.1.cell 0
    have x1 := HB.out.1.cell 1
    have x2 := HB.out.1.cell 2
    have z0 := HB.out.1.frozen 0
    have z1 := HB.out.1.frozen 1
    have z2 := HB.out.1.frozen 2
    have hl := HB.out.1.lt
    go_wp2_with fail
    refine bodyPost_ret (results_one rfl _ _ _ _ _ _ rfl (((HB.out.1.set_ 0 _).set_ 1 _).set_ 2 _) Try.underlying65 rfl info65) rfl ⟨rfl, ((HB.out.2.setCell (Nat.le_refl _) _).setCell (Nat.le_refl _) _).setCell (Nat.le_refl _) _⟩
  | cons x l =>
    obtain ⟨n, hnn⟩ : ∃ n, (x :: l).length = n := ⟨_, rfl⟩
    have hpos : 0 < n := by rw [← hnn]; simp
    have hat := hdS_at (x :: l) (Nat.succ_pos _)
    obtain ⟨bb, off, rfl, hbb, hcc⟩ := (hR.up hb0).elems (E := encSp) (fun _ => rfl) (by omega) (by omega)
    have k1 : (x :: l).length - 1 < (x :: l).length := by omega
    have e0 := hcc _ k1 0 _ rfl
    have e1 := hcc _ k1 1 _ rfl
    have e2 := hcc _ k1 2 _ rfl
    clear hcc
    rw [← hat] at e0 e1 e2
    rw [hnn] at e0 e1 e2 hn ⊢
    clear hat k1 hR
    generalize hdS (x :: l) = y at *
    obtain ⟨ye, yf, yt⟩ := y
    dsimp only at e0 e1 e2 ⊢
    rw [Nat.add_zero] at e0
    simp only [← Nat.add_assoc] at e1 e2
    obtain ⟨m, rfl⟩ : ∃ m, n = m + 1 := ⟨n - 1, by omega⟩
    rw [Nat.add_sub_cancel] at e0 e1 e2
    have HB := Lib.hid (And.intro b0 hb0)
    have HN := Lib.hid hnn
    clear b0 hb0 hnn
    go_enter Try.func31, Try.ntmps31
    go_upto_region 1 with fail
    generalize (w.alloc (.cells #[.int .i64 0, .int .i64 0, .int .i64 0] 65)) = V at *
    have x0 := HB.out.1.cell 0
    have x1 := HB.out.1.cell 1
    have x2 := HB.out.1.cell 2
    have z0 := HB.out.1.frozen 0
    have z1 := HB.out.1.frozen 1
    have z2 := HB.out.1.frozen 2
    have hl := HB.out.1.lt
    have kw : IntKind.i64.wrap (((m + 1 : Nat) : Int) - 1) = (m : Int) := by rw [show ((m + 1 : Nat) : Int) - 1 = m by omega]; exact IntWalk.i64_in _ (by omega)
    have kz : ¬ ((m + 1 : Nat) : Int) = 0 := by omega
    have ki : (m : Int) < ((m + 1 : Nat) : Int) := by omega
    go_wp2_with fail
    refine bodyPost_ret (results_one rfl _ _ _ _ _ _ rfl (((HB.out.1.set_ 0 _).set_ 1 _).set_ 2 _) Try.underlying65 rfl info65) rfl ⟨rfl, ((HB.out.2.setCell (Nat.le_refl _) _).setCell (Nat.le_refl _) _).setCell (Nat.le_refl _) _⟩
set_option linter.unusedSimpArgs false in
set_option maxRecDepth 100000 in
set_option maxHeartbeats 4000000 in
theorem rcorrect_ok (w : World) (A : Option Addr) (c : Nat) (l : List Sp) (hR : Reads w w.heap.size 3 A l.length (l.flatMap encSp)) (hn : l.length ≤ 1000) (hc : CorF 0 0 l) : Calls Try.prog 30 #[.slice A l.length c] w fun x w' => x = .returned (.bool true) ∧ Below w.heap.size w w' := by
  cases l with
  | nil =>
    simp only [List.length_nil]
    go_enter Try.func30, Try.ntmps30
    go_wp2_with fail
    go_ret
    exact ⟨rfl, Below.refl _ _⟩
  | cons x l =>
    have hpo := hdS_pos hc (Int.le_refl _) (by simp)
    have han : ancL (x :: l) (x :: l) = ((hdS (x :: l)).t, (hdS (x :: l)).e) := by unfold ancL; rw [anc_self, if_neg (List.cons_ne_nil x l)]
    obtain ⟨n, hnn⟩ : ∃ n, (x :: l).length = n := ⟨_, rfl⟩
    have hpos : 0 < n := by rw [← hnn]; simp
    have hat := hdS_at (x :: l) (Nat.succ_pos _)
    have HA := Ancestor_ok w A A c c (x :: l) (x :: l) hR hR hn hn hc hc
    rw [han, hnn] at HA
    have kz : ¬ (n : Int) = 0 := by omega
    have HH := Lib.hid (And.intro hat (And.intro hnn hR))
    rw [hnn] at hn ⊢
    clear hat hnn hR
    go_enter Try.func30, Try.ntmps30
    go_wp2_with fail
    refine HA.mono ?_
    rintro z w1 ⟨rfl, hb1⟩
    clear HA
    obtain ⟨bb, off, rfl, hbb, hcc⟩ := (HH.out.2.2.up hb1).elems (E := encSp) (fun _ => rfl) (by omega) (Nat.succ_pos _)
    have k1 : (x :: l).length - 1 < (x :: l).length := by have := HH.out.2.1; omega
    have e0 := hcc _ k1 0 _ rfl
    have e1 := hcc _ k1 1 _ rfl
    have e2 := hcc _ k1 2 _ rfl
    clear hcc
    rw [← HH.out.1] at e0 e1 e2
    rw [HH.out.2.1] at e0 e1 e2
    clear k1 han hc
    generalize hdS (x :: l) = y at *
    obtain ⟨ye, yf, yt⟩ := y
    dsimp only at e0 e1 e2 hpo ⊢
    rw [Nat.add_zero] at e0
    simp only [← Nat.add_assoc] at e1 e2
    obtain ⟨m, rfl⟩ : ∃ m, n = m + 1 := ⟨n - 1, by omega⟩
    rw [Nat.add_sub_cancel] at e0 e1 e2
    have kw : IntKind.i64.wrap (((m + 1 : Nat) : Int) - 1) = (m : Int) := by rw [show ((m + 1 : Nat) : Int) - 1 = m by omega]; exact IntWalk.i64_in _ (by omega)
    have ki : (m : Int) < ((m + 1 : Nat) : Int) := by omega
    have kp := hpo.1
    have b0 := Blk.new w1 65 #[.int .i64 ye, .int .i64 yf, .int .i64 yt]
    have hb2 := hb1.alloc hb1.size (.cells #[.int .i64 ye, .int .i64 yf, .int .i64 yt] 65)
    have HB := Lib.hid (And.intro b0 hb2)
    clear b0 hb2 hb1
    go_upto_region 5 with fail
    generalize (w1.alloc (.cells #[.int .i64 ye, .int .i64 yf, .int .i64 yt] 65)) = V at *
    have x0 := HB.out.1.cell 0
    have x2 := HB.out.1.cell 2
    go_wp2_with fail
    go_ret
    exact ⟨rfl, HB.out.2⟩
end Go.Proofs.Ythkajcioeemilaa
