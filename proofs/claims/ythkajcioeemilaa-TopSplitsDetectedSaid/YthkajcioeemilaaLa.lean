/- The walk of the law TopSplitsDetected. No condition. -/
import Derived.Test.YthkajcioeemilaaWv
import Derived.Test.YthkajcioeemilaaArgs
namespace Go.Proofs.Ythkajcioeemilaa
open Go.RowKit
theorem fork12 (n m o q : Int) (h : 0 ≤ m ∧ m ≤ n) (hn : n ≤ 8) (ho : 0 ≤ o ∧ o ≤ 8) (hq : 0 ≤ q ∧ q ≤ 8) : forkB (lin1 (n + o)) (lin2 m q) = decide (m < n + o ∧ 0 < q) := by
  have h1 := anc12 (n + o) m q (by omega)
  have h2 := (lin1_ok (n + o) (by omega)).2.2.1
  have h3 := (lin2_ok m q (by omega) (by omega)).2.2.1
  unfold forkB
  rw [h1, h2, h3]
  congr 1
  rw [eq_iff_iff]
  constructor <;> intro hh <;> omega
theorem below_step {X W w' : World} (h : Below X.heap.size X W) (hb : Below W.heap.size W w') : Below X.heap.size X w' := h.trans (hb.mono h.size)
theorem two_cells {B b0 o0 b1 o1 : Nat} {X w' : World} {v0 v1 : Value} (hB : Below B X w') (h0 : X.cell? ⟨b0, o0, none⟩ = some v0) (h1 : X.cell? ⟨b1, o1, none⟩ = some v1) (l0 : b0 < B) (l1 : b1 < B) :
    w'.cell? ⟨b0, o0, none⟩ = some v0 ∧ w'.cell? ⟨b1, o1, none⟩ = some v1 ∧ Below B X w' :=
  ⟨(hB.cell (p := ⟨b0, o0, none⟩) l0).trans h0, (hB.cell (p := ⟨b1, o1, none⟩) l1).trans h1, hB⟩
set_option linter.unusedSimpArgs false in
set_option maxRecDepth 100000 in
set_option maxHeartbeats 4000000 in
theorem walkTopSplitsDetected (w : World) (v0 v1 v2 : Value) (h0 : Arg5 w v0) (h1 : Arg5 w v1) (h2 : Arg22 w v2) : Calls Try.prog 3 #[v0, v1, v2] w fun e w' => e = .returned (.bool true) ∧ Below w.heap.size w w' := by
  obtain ⟨a, rfl, ha⟩ := h0
  obtain ⟨b, rfl, hb⟩ := h1
  obtain ⟨x, y, rfl, hx, hy⟩ := h2
  obtain ⟨n, hn⟩ : ∃ n : Nat, n = a % 8 := ⟨_, rfl⟩
  obtain ⟨m, hm⟩ : ∃ m : Nat, m = b % (n + 1) := ⟨_, rfl⟩
  obtain ⟨o, ho⟩ : ∃ o : Nat, o = x % 5 := ⟨_, rfl⟩
  obtain ⟨q, hq⟩ : ∃ q : Nat, q = y % 5 := ⟨_, rfl⟩
  have hmn : m ≤ n := by have := Nat.mod_lt b (show 0 < n + 1 by omega); omega
  have hn8 : n ≤ 7 := by omega
  have ho5 : o ≤ 4 := by omega
  have hq5 : q ≤ 4 := by omega
  have HA := Lib.hid (And.intro hn (And.intro hm (And.intro ho hq)))
  clear hn hm ho hq
  go_enter Try.func3, Try.ntmps3
  go_wp2_with fail
  have e1 : ((a : Int) % 8) = (n : Nat) := by rw [HA.out.1]; omega
  have e2 : ((b : Int) % ((n : Nat) + 1)) = (m : Nat) := by rw [HA.out.2.1]; simp
  rw [e1, e2]
  clear e1 e2
  have hk := Blk.new w 22 #[.int .u8 (x : Int), .int .u8 (y : Int)]
  have hbw : Below w.heap.size w (w.alloc (.cells #[.int .u8 (x : Int), .int .u8 (y : Int)] 22)) := (Below.refl _ w).alloc (Nat.le_refl _) _
  generalize (w.alloc (.cells #[.int .u8 (x : Int), .int .u8 (y : Int)] 22)) = W at *
  have c0 : W.cell? ⟨w.heap.size, 0, none⟩ = some (.int .u8 (x : Int)) := hk.cell 0
  have c1 : W.cell? ⟨w.heap.size, 1, none⟩ = some (.int .u8 (y : Int)) := hk.cell 1
  go_quiet (fail)
  have e3 : ((x : Int) % 5) = (o : Nat) := by rw [HA.out.2.2.1]; omega
  have e4 : ((y : Int) % 5) = (q : Nat) := by rw [HA.out.2.2.2]; omega
  rw [e3, e4]
  clear e3 e4
  have hbV := below_drewN hbw nq
  generalize W.drewN nq = V at *
  clear c0 c1 hk hbw
  have HV := Lib.hid hbV
  clear hbV HA
  go_wp2_with fail
  refine (trySplit_ok n m o q hmn (by omega) (by omega) (by omega) V).mono ?_
  rintro e w1 ⟨⟨A, c, xA, xc, yA, yc, rfl, hR, hxr, hyr⟩, hb1⟩
  have HX := Lib.hid (And.intro hR (And.intro hxr (And.intro hyr (HV.out.trans (hb1.mono HV.out.size)))))
  clear hR hxr hyr hb1
  go_wp2_with fail
  refine (Diverged_ok w1 A c ⟨sA ((n : Int) + o), xA, xc⟩ ⟨sC m q, yA, yc⟩ HX.out.1 ⟨HX.out.2.1, sA_ok _ (by omega)⟩ ⟨HX.out.2.2.1, sC_ok m q (by omega) (by omega)⟩ rfl rfl (by simp [sA, sC])).mono ?_
  rintro e w2 ⟨⟨P, rfl, hP⟩, hb2⟩
  have hP2 : DivV (decide ((m : Int) < n + o ∧ (0 : Int) < q)) w2 P := by rw [← fork12 n m o q (by omega) (by omega) (by omega) (by omega)]; exact hP
  have hbw2 := HX.out.2.2.2.trans (hb2.mono HX.out.2.2.2.size)
  obtain ⟨bb, off, rfl, hbb, hcc⟩ := (HX.out.1.up hb2).elems (E := encSv) (fun _ => rfl) (by decide) (by decide)
  have f4 : w2.cell? ⟨bb, off + 4, none⟩ = some (.slice xA (lin1 ((n : Int) + o)).length xc) := hcc 0 (by simp) 4 _ rfl
  have g4 : w2.cell? ⟨bb, off + 8 + 4, none⟩ = some (.slice yA (lin2 m q).length yc) := hcc 1 (by simp) 4 _ rfl
  have HY := Lib.hid (And.intro (HX.out.2.1.up hb2) (And.intro (HX.out.2.2.1.up hb2) hbw2))
  clear hcc hP hb2 hbw2
  obtain ⟨B, hB⟩ : ∃ B : Bool, decide ((m : Int) < n + o ∧ (0 : Int) < q) = B := ⟨_, rfl⟩
  rw [hB] at hP2
  have hF : ∀ W : World, Below w2.heap.size w2 W → Calls Try.prog 6 #[.slice xA (lin1 ((n : Int) + o)).length xc, .slice yA (lin2 m q).length yc] W fun x w' => x = .returned (.tuple #[.int .i64 (m : Nat), .bool B]) ∧ Below W.heap.size W w' := by
    intro W hW
    refine (Fork_ok W xA yA xc yc (lin1 ((n : Int) + o)) (lin2 m q) (HY.out.1.up hW) (HY.out.2.1.up hW) (by have := (lin1_ok ((n : Int) + o) (by omega)).2.2.2; omega) (by have := (lin2_ok m q (by omega) (by omega)).2.2.2; omega) (lin1_ok ((n : Int) + o) (by omega)).1 (lin2_ok m q (by omega) (by omega)).1).mono ?_
    rintro x w' ⟨rfl, hb⟩
    rw [fork12 n m o q (by omega) (by omega) (by omega) (by omega), hB, anc12 ((n : Int) + o) m q (by omega)]
    exact ⟨rfl, hb⟩
  have HF := Lib.hid (And.intro hF (And.intro hP2 hB))
  generalize (lin1 ((n : Int) + o)).length = N1 at *
  generalize (lin2 m q).length = N2 at *
  clear hF hB hP2
  go_upto_region 8 with fail
  go_region_held3 (fun w' => w'.cell? ⟨bb, off + 4, none⟩ = some (.slice xA N1 xc) ∧ w'.cell? ⟨bb, off + 8 + 4, none⟩ = some (.slice yA N2 yc) ∧ Below w2.heap.size w2 w')
    (first
      | exact two_cells ((Below.refl _ w2).drew) f4 g4 hbb hbb
      | (go_split_ands; refine two_cells (below_step ?_ hb') f4 g4 hbb hbb; assumption))
    ((go_at_call 6; refine (HF.out.1 _ (by go_split_ands; assumption)).mono ?_; rintro e w' ⟨rfl, hb'⟩))
  rename_i hS9
  obtain ⟨_, _, hb9⟩ := hS9
  have HE := Lib.hid (HY.out.2.2.trans (hb9.mono HY.out.2.2.size))
  clear f4 g4 hb9
  have hF2 := HF.out.2
  clear HF
  obtain ⟨hP, hB⟩ := hF2
  rcases hP with ⟨rfl, rfl⟩ | ⟨rfl, p, q', c2, rfl, _⟩
  · have hn : ¬ ((m : Int) < n + o ∧ (0 : Int) < q) := by simpa using hB
    clear hB
    by_cases h1 : m < n + o
    · have h0 : q = 0 := by omega
      subst h0
      have h1' : (m : Int) < (n : Int) + o := by omega
      clear hn
      go_wp2_with fail
      refine (awake_ok _).mono ?_
      rintro e w3 ⟨rfl, hb3⟩
      have HG := Lib.hid (HE.out.trans (hb3.mono HE.out.size))
      clear hb3
      go_wp2_with fail
      go_ret
      exact ⟨rfl, HG.out⟩
    · have h1' : ¬ (m : Int) < (n : Int) + o := by omega
      clear hn
      go_wp2_with fail
      refine (awake_ok _).mono ?_
      rintro e w3 ⟨rfl, hb3⟩
      have HG := Lib.hid (HE.out.trans (hb3.mono HE.out.size))
      clear hb3
      go_wp2_with fail
      go_ret
      exact ⟨rfl, HG.out⟩
  · obtain ⟨h1, h2⟩ : (m : Int) < n + o ∧ (0 : Int) < q := by simpa using hB
    clear hB
    go_wp2_with fail
    refine (awake_ok _).mono ?_
    rintro e w3 ⟨rfl, hb3⟩
    have HG := Lib.hid (HE.out.trans (hb3.mono HE.out.size))
    clear hb3
    go_wp2_with fail
    go_ret
    exact ⟨rfl, HG.out⟩
end Go.Proofs.Ythkajcioeemilaa
