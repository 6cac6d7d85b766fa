/- The walks of Check, of New, of both references. No condition. -/
import Derived.Test.YtggaaajkbnhofaaWb
import Derived.Test.YtggaaajkbnhofaaLibE
import Derived.Test.YtggaaajkbnhofaaLibC
namespace Go.Proofs.Ytggaaajkbnhofaa
open Go.RowKit
theorem bcell {W w1 : World} (hb : Below W.heap.size W w1) : (∀ b o, b < W.heap.size → w1.cell? ⟨b, o, none⟩ = W.cell? ⟨b, o, none⟩) ∧ (∀ b o, b < W.heap.size → w1.frozen? ⟨b, o, none⟩ = W.frozen? ⟨b, o, none⟩) :=
  ⟨fun b o h => hb.cell (p := ⟨b, o, none⟩) h, fun b o h => hb.frozen (p := ⟨b, o, none⟩) h⟩
/-- the cells of a rule -/
def encR (r : Rl) : List Value := [.func (.func r.k) #[] r.cap, .int .i64 r.e]
theorem Rl.Ok.below {r : Rl} {w w' : World} (h : r.Ok w) (hb : Below w.heap.size w w') : r.Ok w' :=
  ⟨h.1, fun w2 h2 => h.2 w2 (hb.trans (h2.mono hb.size))⟩
/-- first over rules that were laid at once into a new block -/
theorem first_new (rs : List Rl) (c : Nat) (w : World) (cells : Array Value) (hcells : cells = (rs.flatMap encR).toArray) (n : Nat) (hl : rs.length = n) (hn : n ≤ 100) (hk : ∀ r ∈ rs, r.Ok w) :
    Calls Try.prog 28 #[.slice (some ⟨w.heap.size, 0, none⟩) n c] (w.alloc (.cells cells 79)) fun x w' => x = .returned (.int .i64 (firstV rs)) ∧ Below w.heap.size w w' := by
  subst hcells hl
  have hB : Below w.heap.size w (w.alloc (.cells (rs.flatMap encR).toArray 79)) := (Below.refl _ w).alloc (Nat.le_refl _) _
  refine (first_any _ c rs _ (by simp) hn ?_ (fun r hr => (hk r hr).below hB)).mono ?_
  · intro i h
    have hf : ∀ j, j < 2 → (rs.flatMap encR)[i * 2 + j]? = (encR rs[i])[j]? := fun j hj => flatMap_at (E := encR) (sz := 2) (fun _ => rfl) rs i j h hj
    refine ⟨?_, ?_⟩
    · have := hf 0 (by omega)
      simpa [World.cell?_alloc_new, encR] using this
    · have := hf 1 (by omega)
      simpa [World.cell?_alloc_new, encR] using this
  · rintro x w1 ⟨rfl, hb⟩
    exact ⟨rfl, hB.trans (hb.mono hB.size)⟩
theorem info37 : (Try.prog.info? 37).map (·.size) = some 3 := by kernel_rfl
theorem set3 {W : World} {g : Nat} {a b c x y z : Value} (h : Blk W g 37 #[a, b, c]) : Blk (((W.setCell ⟨g, 0, none⟩ x).setCell ⟨g, 1, none⟩ y).setCell ⟨g, 2, none⟩ z) g 37 #[x, y, z] := ((h.set_ 0 _).set_ 1 _).set_ 2 _
theorem bel3 {B : Nat} {W0 W : World} {g : Nat} {x y z : Value} (h : Below B W0 W) (hg : B ≤ g) : Below B W0 (((W.setCell ⟨g, 0, none⟩ x).setCell ⟨g, 1, none⟩ y).setCell ⟨g, 2, none⟩ z) :=
  ((h.setCell (p := ⟨g, 0, none⟩) hg _).setCell (p := ⟨g, 1, none⟩) hg _).setCell (p := ⟨g, 2, none⟩) hg _
theorem blk0 {w w1 : World} {v : Obj} {a b c : Value} (hb1 : Below (((w.alloc (.cells #[a, b, c] 37)).alloc v).heap.size) ((w.alloc (.cells #[a, b, c] 37)).alloc v) w1) : Blk w1 w.heap.size 37 #[a, b, c] :=
  ((Blk.new w 37 #[a, b, c]).alloc _).below hb1 (by simp; omega)
def fenceB (x o : Int) : Bool := inB x 0 && siteB o
def checkF (x o : Int) : Int := if fenceB x o then 0 else 2
theorem order1_ok (B : Nat) (x o : Int) (w : World) (hB : B < w.heap.size) (h0 : w.cell? ⟨B, 0, none⟩ = some (.int .i64 x)) (h1 : w.cell? ⟨B, 1, none⟩ = some (.int .i64 o)) :
    Rl.Ok ⟨41, #[.pointer (some ⟨B, 0, none⟩)], fenceB x o, 2⟩ w :=
  ⟨fun w' => by kernel_rfl, fun w' hb => order1_any B x o w' ((hb.cell (p := ⟨B, 0, none⟩) hB).trans h0) ((hb.cell (p := ⟨B, 1, none⟩) hB).trans h1)⟩
set_option maxRecDepth 100000 in
theorem Check_any (x o : Int) (c : Bool) (w : World) :
    Calls Try.prog 16 #[.agg #[.int .i64 x, .int .i64 o, .bool c]] w fun e w' => e = .returned (.int .i64 (checkF x o)) ∧ Below w.heap.size w w' := by
  have hB0 : Below w.heap.size w (w.alloc (.cells #[.int .i64 x, .int .i64 o, .bool c] 37)) := (Below.refl _ w).alloc (Nat.le_refl _) _
  go_enter Try.func16, Try.ntmps16
  go_wp2_with fail
  refine (order_any _ _ _ _).mono ?_
  rintro e w1 ⟨⟨B, hB, rfl, hB1, hc0, hc1⟩, hb1⟩
  have hB2 := hB0.trans (hb1.mono hB0.size)
  go_wp2_with fail
  refine (first_new [⟨41, #[.pointer (some ⟨B, 0, none⟩)], fenceB x o, 2⟩] 1 w1 _ rfl 1 rfl (by decide) (by
    intro r hr
    simp only [List.mem_singleton] at hr
    subst hr
    exact order1_ok B x o w1 hB1 hc0 hc1)).mono ?_
  rintro e w2 ⟨rfl, hb2⟩
  go_wp2_with fail
  go_ret
  exact ⟨rfl, hB2.trans (hb2.mono hB2.size)⟩
set_option maxRecDepth 100000 in
theorem New_any (x o : Int) (w : World) :
    Calls Try.prog 7 #[.int .i64 x, .int .i64 o] w fun e w' => e = .returned (.tuple #[.agg (if fenceB x o then #[.int .i64 x, .int .i64 o, .bool false] else #[.int .i64 0, .int .i64 0, .bool false]), .int .i64 (checkF x o)]) ∧ Below w.heap.size w w' := by
  have hB0 : Below w.heap.size w (w.alloc (.cells #[.int .i64 0, .int .i64 0, .bool false] 37)) := (Below.refl _ w).alloc (Nat.le_refl _) _
  have hB1 := hB0.alloc hB0.size (.cells #[.int .i64 x, .int .i64 o, .bool false] 37)
  cases hf : fenceB x o
  · have hq : checkF x o = 2 := by unfold checkF; rw [hf]; rfl
    have HQ := Lib.hid hq
    clear hq hf
    go_enter Try.func7, Try.ntmps7
    go_wp2_with fail
    refine (Check_any x o _ _).mono ?_
    rintro e w1 ⟨rfl, hb1⟩
    rw [HQ.out]
    obtain ⟨hc1, hf1⟩ := bcell hb1
    have hz1 : w.heap.size < w1.heap.size := by have := hb1.size; simp at this; omega
    have hz2 : w.heap.size + 1 < w1.heap.size := by have := hb1.size; simp at this; omega
    have hB2 := hB1.trans (hb1.mono hB1.size)
    go_wp2_with fail
    refine bodyPost_ret (results_cell_tmp rfl _ _ _ _ _ _ rfl (set3 (blk0 hb1)) Try.underlying37 rfl info37) rfl ?_
    exact ⟨by rw [HQ.out]; rfl, bel3 hB2 (Nat.le_refl _)⟩
  · have hq : checkF x o = 0 := by unfold checkF; rw [hf]; rfl
    have HQ := Lib.hid hq
    clear hq hf
    go_enter Try.func7, Try.ntmps7
    go_wp2_with fail
    refine (Check_any x o _ _).mono ?_
    rintro e w1 ⟨rfl, hb1⟩
    rw [HQ.out]
    obtain ⟨hc1, hf1⟩ := bcell hb1
    have hz1 : w.heap.size < w1.heap.size := by have := hb1.size; simp at this; omega
    have hz2 : w.heap.size + 1 < w1.heap.size := by have := hb1.size; simp at this; omega
    have hB2 := hB1.trans (hb1.mono hB1.size)
    go_wp2_with fail
    refine bodyPost_ret (results_cell_tmp rfl _ _ _ _ _ _ rfl (set3 (blk0 hb1)) Try.underlying37 rfl info37) rfl ?_
    exact ⟨by rw [HQ.out]; rfl, bel3 hB2 (Nat.le_refl _)⟩
end Go.Proofs.Ytggaaajkbnhofaa
