/- The walk of available. Conditions: parents are below their children, at most 64 buckets. -/
import Derived.Test.YtehfnanhamaenaaWl
import Derived.BigRegionIn
namespace Go.Proofs.Ytehfnanhamaenaa
open Go.RowKit Go.Shelf
attribute [local go_sem] Oper.semAt_some
theorem PKeep.setCell {n₀ B1 B2 g off : Nat} (W : World) (a : Addr) (v : Value) (h0 : n₀ ≤ a.block) (h1 : B1 ≠ a.block) (h2 : B2 ≠ a.block) (h3 : g ≠ a.block) : PKeep n₀ B1 B2 g off W (W.setCell a v) :=
  ⟨(Below.refl _ _).setCell h0 _, World.cell?_setCell_other W a _ v (fun e => h1 (by rw [e])), World.cell?_setCell_other W a _ v (fun e => h2 (by rw [e])), fun _ => World.cell?_setCell_other W a _ v (fun e => h3 (by rw [e]))⟩
theorem PKeep.b {n₀ B1 B2 g off : Nat} {w : World} (h0 : n₀ ≤ w.heap.size) (h1 : B1 < w.heap.size) (h2 : B2 < w.heap.size) (h3 : g < w.heap.size) (W : World) (l : Nat) (o o' : Obj) (hl : w.heap.size ≤ l) (h : W.heap[l]? = some o) (ho : o.isCells = false) (hw : o.isWalk = false) : PKeep n₀ B1 B2 g off W (W.putObj l o') :=
  PKeep.of_below (belowK_b (Nat.le_refl _) W l o o' hl h ho hw) h0 h1 h2 h3
theorem PKeep.drew {n₀ B1 B2 g off : Nat} (W : World) : PKeep n₀ B1 B2 g off W W.drew := ⟨(Below.refl _ _).drew, rfl, rfl, fun _ => rfl⟩
def minI (m t : Int) : Int := if t < m then t else m
def availP (l : List Bk) (m : Int) (p : List Nat) : Int := p.foldl (fun m i => minI m (bkAt l i).tok) m
def availL (l : List Bk) (k : Nat) : Int := availP l (bkAt l k).tok (pathL l k)
set_option maxRecDepth 100000 in
set_option maxHeartbeats 1000000 in
theorem available_in (g off c : Nat) (l : List Bk) (k : Nat) (w : World) (hu : Up l) (hk : k < l.length) (hl : l.length ≤ 64) (hR : RdB w (some ⟨g, off, none⟩) l.length l) :
    CallsIn Fence.wide 3 Try.prog 33 #[.slice (some ⟨g, off, none⟩) l.length c, .int .i64 k] w fun e w' => e = .returned (.int .i64 (availL l k)) ∧ Below w.heap.size w w' := by
  obtain ⟨g', o', hA, hg, hcs⟩ := hR.cells (by omega)
  obtain ⟨rfl, rfl⟩ : g = g' ∧ off = o' := by
    injection hA with hA
    injection hA with h1 h2
    exact ⟨h1, h2⟩
  have hc0 : ∀ i, i < l.length → w.cell? ⟨g, off + i * 4, none⟩ = some (.int .i64 (bkAt l i).par) := fun i hi => by rw [bkAt_lt l i hi]; exact (hcs i hi).1
  have hc3 : ∀ i, i < l.length → w.cell? ⟨g, off + i * 4 + 3, none⟩ = some (.int .i64 (bkAt l i).tok) := fun i hi => by rw [bkAt_lt l i hi]; exact (hcs i hi).2.2.2
  have hk3 := hc3 k hk
  have HC := Lib.hid (And.intro hc0 hc3)
  clear hc0 hc3 hcs hA
  have hkc : (k : Int) < l.length := by omega
  refine callsIn_of_wp_marks Try.func33 rfl trivial ?_ rfl
  simp only [Try.ntmps33, List.size_toArray, List.length_cons, List.length_nil, Nat.reduceAdd, Nat.reduceSub, Array.replicate_succ, Array.replicate_zero, List.push_toArray, List.append_toArray, List.nil_append, List.cons_append]
  gi_wp2
  have hs := cell_new_l w (.int .i64 (bkAt l k).tok) 3
  have hB0 : Below w.heap.size w (w.alloc (.cells #[.int .i64 (bkAt l k).tok] 3)) := (Below.refl _ w).alloc (Nat.le_refl _) _
  have hsz : (w.alloc (.cells #[.int .i64 (bkAt l k).tok] 3)).heap.size = w.heap.size + 1 := by simp
  refine ⟨trivial, (callsIn_wide.2 (path_any _ _ _ _ _)).mono ?_⟩
  rintro e w1 ⟨rfl, hb1, hk1, hk2⟩
  have hs1 : w1.cell? ⟨w.heap.size, 0, none⟩ = some (.int .i64 (bkAt l k).tok) ∧ w1.frozen? ⟨w.heap.size, 0, none⟩ = false := by
    have hkb := (Blk.new w 3 #[.int .i64 (bkAt l k).tok]).below hb1 (by omega)
    exact ⟨hkb.cell 0, hkb.frozen 0⟩
  rw [hsz] at hk1 hk2 hb1
  have hbw : Below w.heap.size w w1 := hB0.trans (hb1.mono (by omega))
  have hl1 := hk1.lt
  have hl2 := hk2.lt
  have hst : SeqStopsK Fence.wide 2 Try.prog 39 #[.pointer (some ⟨w.heap.size + 1 + 1, 0, none⟩), .pointer (some ⟨w.heap.size + 1, 0, none⟩)] (fun x : { i : Nat // i < l.length } => #[Value.pointer (some ⟨g, off + x.1 * 4, none⟩)]) (PKeep w.heap.size (w.heap.size + 1 + 1) (w.heap.size + 1) g off) (fun ys => ys.map Subtype.val = pathL l k) (fun pre => pre.map Subtype.val <+: pathL l k) l.length w1 :=
    path1_stops 2 (by omega) (w.heap.size + 1 + 1) (w.heap.size + 1) g off c w.heap.size l k hu hk w1 hl2 hl1 (by omega) (hk2.cell 0) (hk1.cell 0) (fun i hi => (hbw.cell (p := ⟨g, off + i * 4, none⟩) hg).trans (HC.out.1 i hi))
  have HS := Lib.hid hst
  have HBW := Lib.hid hbw
  clear hst hk1 hk2 hs hB0 hb1 hbw
  gi_wp2
  refine wpIn_rangeFunc_ownF (w0 := w1) rfl (by omega) (gf := 39) (lb := #[.pointer (some ⟨w.heap.size + 1 + 1, 0, none⟩), .pointer (some ⟨w.heap.size + 1, 0, none⟩)]) rfl trivial enters39 HS.out PKeep.trans (PKeep.b (by omega) (by omega) (by omega) (by omega)) (Below.refl _ _) (fun _ => rfl)
    (fun pre W => (W.cell? ⟨w.heap.size, 0, none⟩ = some (.int .i64 (availP l (bkAt l k).tok (pre.map Subtype.val))) ∧ W.frozen? ⟨w.heap.size, 0, none⟩ = false) ∧ Below w.heap.size w W)
    (fun _ _ _ => False)
    (OwnFrom.and (Own.from (fun s A B row hs hg hr => ⟨cell_kept hs.1 hg hr, (frozen_kept hs.1 hg hr).trans hs.2⟩) _) (ownFrom_below (Nat.le_refl _) (by omega)))
    (fun _ _ _ _ _ hs _ _ => hs)
    ⟨hs1, HBW.out⟩
    (fun x => { tmps := #[.slice (some ⟨g, off, none⟩) l.length c, .int .i64 k, undef, undef, .int .i64 0, .pointer (some ⟨w.heap.size, 0, none⟩), .pointer (some ⟨g, off + x.1 * 4, none⟩), .slice (some ⟨g, off, none⟩) l.length c, .int .i64 k, .pointer (some ⟨g, off + k * 4, none⟩), .pointer (some ⟨g, off + k * 4 + 3, none⟩), .int .i64 (bkAt l k).tok, .slice (some ⟨g, off, none⟩) l.length c, .int .i64 k, .func (.func 39) #[] #[.pointer (some ⟨w.heap.size + 1 + 1, 0, none⟩), .pointer (some ⟨w.heap.size + 1, 0, none⟩)], .pointer (some ⟨g, off + x.1 * 4, none⟩), undef, undef, undef, undef, undef, undef, undef], defers := [] }) ?assign ?body ?done ?stop
  case assign =>
    intro l x W K hK
    gi_wp2
    exact hK
  case body =>
    rintro lf pre ⟨x, hx⟩ W ⟨⟨hc, hf⟩, hB⟩ _
    have h3 : W.cell? ⟨g, off + x * 4 + 3, none⟩ = some (.int .i64 (bkAt l x).tok) := (hB.cell (p := ⟨g, off + x * 4 + 3, none⟩) hg).trans (HC.out.2 x hx)
    have hv : Hid (availP l (bkAt l k).tok ((pre ++ [(⟨x, hx⟩ : { i : Nat // i < l.length })]).map Subtype.val) = minI (availP l (bkAt l k).tok (pre.map Subtype.val)) (bkAt l x).tok) := by
      simp [Hid, availP]
    generalize availP l (bkAt l k).tok (pre.map Subtype.val) = m at *
    have fin : ∀ u : Int, u = minI m (bkAt l x).tok → KeepsOthers W (W.setCell ⟨w.heap.size, 0, none⟩ (.int .i64 u)).drew ∧ PKeep w.heap.size (w.heap.size + 1 + 1) (w.heap.size + 1) g off W (W.setCell ⟨w.heap.size, 0, none⟩ (.int .i64 u)).drew ∧ ((W.setCell ⟨w.heap.size, 0, none⟩ (.int .i64 u)).drew.cell? ⟨w.heap.size, 0, none⟩ = some (.int .i64 (availP l (bkAt l k).tok ((pre ++ [(⟨x, hx⟩ : { i : Nat // i < l.length })]).map Subtype.val))) ∧ (W.setCell ⟨w.heap.size, 0, none⟩ (.int .i64 u)).drew.frozen? ⟨w.heap.size, 0, none⟩ = false) ∧ Below w.heap.size w (W.setCell ⟨w.heap.size, 0, none⟩ (.int .i64 u)).drew := by
      intro u e
      have hko := KeepsOthers.setCell W ⟨w.heap.size, 0, none⟩ (.int .i64 u)
      refine ⟨⟨hko.1, hko.2⟩, (PKeep.setCell W ⟨w.heap.size, 0, none⟩ _ (Nat.le_refl _) (by dsimp only; omega) (by dsimp only; omega) (by dsimp only; omega)).trans (PKeep.drew _), ⟨?_, ?_⟩, (hB.setCell (p := ⟨w.heap.size, 0, none⟩) (Nat.le_refl _) _).drew⟩
      · rw [hv.out, ← e]
        exact World.cell?_setCell_same' _ _ _ (by rw [hc]; rfl)
      · show (W.setCell ⟨w.heap.size, 0, none⟩ (.int .i64 u)).frozen? _ = false
        rw [World.frozen?_setCell]
        exact hf
    have HF := Lib.hid fin
    clear fin
    gi_wp2
    gi_region
    all_goals gi_wp2
    all_goals exact HF.out _ (by unfold minI; split <;> omega)
  case done =>
    rintro D ys W hD hS ⟨⟨hc, _⟩, hB⟩ hK
    rw [hS] at hc
    gi_wp2
    refine ⟨by simp, .inl ⟨_, _, rfl, run_takeDeferred hK, ?_⟩⟩
    refine ⟨_, results_tmp rfl _ _ _, ?_, hB.trans (belowK_b (w := w) (Nat.le_refl _) W D _ _ (by omega) hK rfl rfl)⟩
    rfl
  case stop =>
    rintro D c pre W _ _ h _
    exact h.elim
end Go.Proofs.Ytehfnanhamaenaa
