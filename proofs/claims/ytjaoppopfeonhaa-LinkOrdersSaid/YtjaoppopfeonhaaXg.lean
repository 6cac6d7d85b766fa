/- Rows of counters; payloads one by one. No condition. -/
import Derived.Test.YtjaoppopfeonhaaXf
namespace Go.Proofs.Ytjaoppopfeonhaa
open Go.RowKit
/-- what is left of the counts behind some payloads -/
def remL (ns : Nat) (P : List (List Nat)) (i : Nat) : List Int := (List.range ns).map fun j => ((cntH j P : Nat) : Int) - ((cntH j (P.take i) : Nat) : Int)
/-- the counts of some payloads -/
def seenL (ns : Nat) (P : List (List Nat)) (i : Nat) : List Int := (List.range ns).map fun j => ((cntH j (P.take i) : Nat) : Int)
theorem remL_len (ns : Nat) (P : List (List Nat)) (i : Nat) : (remL ns P i).length = ns := by simp [remL]
theorem seenL_len (ns : Nat) (P : List (List Nat)) (i : Nat) : (seenL ns P i).length = ns := by simp [seenL]
theorem remL_at {ns : Nat} (P : List (List Nat)) (i : Nat) {j : Nat} (hj : j < ns) : (remL ns P i)[j]? = some (((cntH j P : Nat) : Int) - ((cntH j (P.take i) : Nat) : Int)) := by
  unfold remL
  rw [List.getElem?_map, List.getElem?_range hj]
  rfl
theorem seenL_at {ns : Nat} (P : List (List Nat)) (i : Nat) {j : Nat} (hj : j < ns) : (seenL ns P i)[j]? = some ((cntH j (P.take i) : Nat) : Int) := by
  unfold seenL
  rw [List.getElem?_map, List.getElem?_range hj]
  rfl
theorem ext_ns {ns : Nat} {l m : List Int} (hl : l.length = ns) (hm : m.length = ns) (h : ∀ j, j < ns → l[j]? = m[j]?) : l = m := by
  apply List.ext_getElem?
  intro j
  by_cases hj : j < ns
  · exact h j hj
  · rw [List.getElem?_eq_none (by omega), List.getElem?_eq_none (by omega)]
theorem remL_zero {ns : Nat} {P : List (List Nat)} {cp : List Int} (hl : cp.length = ns) (h : ∀ j, j < ns → cp[j]? = some ((cntH j P : Nat) : Int)) : cp = remL ns P 0 := by
  refine ext_ns hl (remL_len _ _ _) (fun j hj => ?_)
  rw [h j hj, remL_at P 0 hj]
  simp [cntH]
theorem remL_succ {ns : Nat} {P : List (List Nat)} {i k : Nat} {p : List Nat} (hp : P[i]? = some p) (hk : ∀ j, headB j p = (k == j)) :
    (remL ns P i).set k (((cntH k P : Nat) : Int) - ((cntH k (P.take i) : Nat) : Int) - 1) = remL ns P (i + 1) := by
  refine ext_ns (by rw [List.length_set, remL_len]) (remL_len _ _ _) (fun j hj => ?_)
  rw [remL_at P (i + 1) hj, cntH_take hp, List.getElem?_set, hk]
  by_cases he : k = j
  · subst he
    rw [if_pos rfl, if_pos (by rw [remL_len]; exact hj), if_pos (by simp)]
    congr 1
    omega
  · rw [if_neg he, remL_at P i hj, if_neg (by simp; exact he)]
    rfl
theorem seenL_succ {ns : Nat} {P : List (List Nat)} {i k : Nat} {p : List Nat} (hp : P[i]? = some p) (hk : ∀ j, headB j p = (k == j)) :
    (seenL ns P i).set k (((cntH k (P.take i) : Nat) : Int) + 1) = seenL ns P (i + 1) := by
  refine ext_ns (by rw [List.length_set, seenL_len]) (seenL_len _ _ _) (fun j hj => ?_)
  rw [seenL_at P (i + 1) hj, cntH_take hp, List.getElem?_set, hk]
  by_cases he : k = j
  · subst he
    rw [if_pos rfl, if_pos (by rw [seenL_len]; exact hj), if_pos (by simp)]
    rfl
  · rw [if_neg he, seenL_at P i hj, if_neg (by simp; exact he)]
    rfl
theorem seenL_zero (ns : Nat) (P : List (List Nat)) : List.replicate ns (0 : Int) = seenL ns P 0 := by
  refine ext_ns (by simp) (seenL_len _ _ _) (fun j hj => ?_)
  rw [seenL_at P 0 hj, List.getElem?_replicate, if_pos hj]
  rfl
theorem remL_end {ns : Nat} (P : List (List Nat)) {j : Nat} (hj : j < ns) : (remL ns P P.length)[j]? = some 0 := by
  rw [remL_at P _ hj, List.take_length]
  congr 1
  omega
theorem cntH_le (j : Nat) (P : List (List Nat)) : cntH j P ≤ P.length := List.countP_le_length
/-- a row of counters, beside what is kept -/
structure CntI (w W5 : World) (v : Value) (low ns : Nat) (L : List Int) (W : World) : Prop where
  row : W.ownsRow low 3 1 v ns (i64s L)
  keep : ∀ k, k < W5.heap.size → v.ownBlock ≠ some k → W.heap[k]? = W5.heap[k]?
  size : W5.heap.size ≤ W.heap.size
  bel : Below w.heap.size w W
section
variable {w W5 W W' : World} {v : Value} {low ns : Nat} {L : List Int}
theorem CntI.below (h : CntI w W5 v low ns L W) (hb : Below W.heap.size W W') : CntI w W5 v low ns L W' :=
  ⟨own_below h.row hb, fun k hk hv => (hb.block k (Nat.lt_of_lt_of_le hk h.size)).trans (h.keep k hk hv), Nat.le_trans h.size hb.size, h.bel.trans (hb.mono h.bel.size)⟩
theorem CntI.set {g c : Nat} (h : CntI w W5 (.slice (some ⟨g, 0, none⟩) ns c) low ns L W) (hw : w.heap.size ≤ low) (j : Nat) (x : Int) : CntI w W5 (.slice (some ⟨g, 0, none⟩) ns c) low ns (L.set j x) (W.setCell ⟨g, j, none⟩ (.int .i64 x)) := by
  refine ⟨?_, fun k hk hv => ?_, by have := h.size; simpa using this, h.bel.setCell (Nat.le_trans hw (own_block_ge h.row g rfl)) _⟩
  · have h2 := own_set h.row j (.int .i64 x)
    have e : (i64s L).set j (.int .i64 x) = i64s (L.set j x) := by unfold i64s; rw [List.map_set]
    rw [e] at h2
    exact h2
  · exact (Below.heap_setCell _ _ _ _ (fun e => hv (by rw [e]; rfl))).trans (h.keep k hk hv)
theorem CntI.reads (h : CntI w W5 v low ns L W) {size n : Nat} {A : Option Addr} {xs : List Value} (hr : Reads W5 W5.heap.size size A n xs) (hA : ∀ ad, 0 < n → A = some ad → v.ownBlock ≠ some ad.block) : Reads W W.heap.size size A n xs := by
  refine ⟨hr.1, fun h0 => ?_⟩
  obtain ⟨ad, hA', hb, hc⟩ := hr.2 h0
  refine ⟨ad, hA', Nat.lt_of_lt_of_le hb h.size, fun j u hu => ?_⟩
  refine (World.cell?_of_block ?_).trans (hc j u hu)
  rw [block_of_add]
  exact h.keep _ hb (hA ad h0 hA')
theorem CntI.pl (h : CntI w W5 v low ns L W) {lp : Nat} {P : List (List Nat)} {u : Value} (hp : PlV W5 lp P u) (hv : ∀ b, v.ownBlock = some b → b < lp ∨ W5.heap.size ≤ b) : PlV W lp P u :=
  hp.keep (fun g h1 h2 => h.keep g h2 (fun e => by have := hv g e; omega)) h.size
end
/-- one payload of some -/
theorem PlV.at_ {W : World} {lp : Nat} {P : List (List Nat)} {u : Value} (h : PlV W lp P u) {i : Nat} (hi : i < P.length) :
    ∃ b off c xA xc, u = .slice (some ⟨b, off, none⟩) P.length c ∧ b < W.heap.size ∧ W.cell? ⟨b, off + i, none⟩ = some (.slice xA P[i].length xc) ∧ Reads W W.heap.size 1 xA P[i].length (u8s P[i]) := by
  obtain ⟨A, c, pl, rfl, h2, h3, _⟩ := h.val
  have hl : pl.length = P.length := by rw [← h3, List.length_map]
  obtain ⟨b, off, rfl, hb, hc⟩ := h2.rd.plain (by omega) (by omega)
  have hil : i < pl.length := by omega
  have he : P[i] = pl[i].p := by simp only [← h3, List.getElem_map]
  rw [he]
  exact ⟨b, off, c, pl[i].A, pl[i].c, by rw [hl], hb, hc i (encPl pl[i]) (by simp [List.getElem?_eq_getElem hil]), h2.pl _ (List.getElem_mem hil)⟩
end Go.Proofs.Ytjaoppopfeonhaa
