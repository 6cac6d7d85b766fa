/- The plain model of Scan. No condition. -/
import Derived.Test.YtbiiahbhgjjhgaaMathR
namespace Go.Proofs.Ytbiiahbhgjjhgaa
def scanM : Nat → List Sec → Nat → List Dec
  | 0, _, _ => []
  | f + 1, l, s => if (decM l).e = 0 ∧ (decM l).q = s then decM l :: scanM f (l.drop (decM l).n) (s + 1) else []
def totM : List Dec → Nat
  | [] => 0
  | d :: ds => d.n + totM ds
theorem totM_snoc (ds : List Dec) (d : Dec) : totM (ds ++ [d]) = totM ds + d.n := by
  induction ds with
  | nil => simp [totM]
  | cons x ds ih => rw [List.cons_append, totM, ih, totM]; omega
theorem dec_facts {l : List Sec} (hl : ∀ s ∈ l, s.Ok) (he : (decM l).e = 0) : 2 ≤ (decM l).n ∧ (decM l).n ≤ l.length ∧ (decM l).q < 4294967296 ∧ (decM l).p.length ≤ 4096 := by
  have hb : begE l = 0 := by
    rcases Nat.eq_zero_or_pos (begE l) with h | h
    · exact h
    · rw [decM_err (by omega)] at he
      exact absurd he (by show begE l ≠ 0; omega)
  cases l with
  | nil => simp [decM, Dec.err] at he
  | cons s l =>
    have hB := begE_zero hb
    rw [decM_ok hB] at he ⊢
    have hs := Sec.num_lt (hl s (by simp))
    have h1 := hB.len
    have h2 := hB.all
    have h3 := szN_pos (s.f + 256 * s.g)
    unfold tailM at he ⊢
    split at he
    · split at he
      · cases he
      · rename_i g1 g2
        rw [if_pos g1, if_neg g2]
        refine ⟨h3, h2, hs, ?_⟩
        dsimp only
        rw [List.length_take]
        omega
    · cases he
/-- how far a scan has come -/
structure ScanI (l : List Sec) (s0 : Nat) (ds : List Dec) (pos : Nat) : Prop where
  eq : scanM (l.length + 1) l s0 = ds ++ scanM (l.length + 1 - ds.length) (l.drop pos) (s0 + ds.length)
  tot : pos = totM ds
  two : 2 * ds.length ≤ pos
  le : pos ≤ l.length
theorem ScanI.start (l : List Sec) (s0 : Nat) : ScanI l s0 [] 0 := ⟨by simp, rfl, by simp, by omega⟩
theorem ScanI.step {l : List Sec} {s0 pos : Nat} {ds : List Dec} (h : ScanI l s0 ds pos) (hl : ∀ s ∈ l, s.Ok) (he : (decM (l.drop pos)).e = 0) (hq : (decM (l.drop pos)).q = s0 + ds.length) :
    ScanI l s0 (ds ++ [decM (l.drop pos)]) (pos + (decM (l.drop pos)).n) := by
  obtain ⟨h2, h3, _, _⟩ := dec_facts (l := l.drop pos) (fun s hs => hl s (List.mem_of_mem_drop hs)) he
  rw [List.length_drop] at h3
  have h4 := h.two
  have h5 := h.le
  refine ⟨?_, by rw [totM_snoc, ← h.tot], by simp; omega, by omega⟩
  rw [h.eq]
  obtain ⟨f, hf⟩ : ∃ f, l.length + 1 - ds.length = f + 1 := ⟨l.length - ds.length, by omega⟩
  rw [hf, scanM, if_pos ⟨he, hq⟩, List.drop_drop, List.append_assoc, List.singleton_append, List.length_append, List.length_singleton]
  rw [show l.length + 1 - (ds.length + 1) = f by omega, Nat.add_assoc]
theorem ScanI.stop {l : List Sec} {s0 pos : Nat} {ds : List Dec} (h : ScanI l s0 ds pos) (hn : ¬ ((decM (l.drop pos)).e = 0 ∧ (decM (l.drop pos)).q = s0 + ds.length)) : scanM (l.length + 1) l s0 = ds := by
  rw [h.eq]
  cases hf : l.length + 1 - ds.length with
  | zero => simp [scanM]
  | succ f => rw [scanM, if_neg hn, List.append_nil]
/-- what Scan answers -/
def scanI (l : List Sec) (s : Int) : List Dec := if s < 1 then [] else scanM (l.length + 1) l s.toNat
def Dec.trip (d : Dec) : Nat × Nat × List Nat := (d.k, d.q, d.p)
end Go.Proofs.Ytbiiahbhgjjhgaa
