/- The plain model of the budget, more: paths, what is available, what is taken, how long one waits. No condition. -/
import Derived.Test.YtehfnanhamaenaaMathB
namespace Go.Proofs.Ytehfnanhamaenaa
def bkAt (l : List Bk) (i : Nat) : Bk := l[i]?.getD ⟨-1, 0, 0, 0⟩
theorem bkAt_lt (l : List Bk) (i : Nat) (h : i < l.length) : bkAt l i = l[i] := by simp [bkAt, h]
/-- parents are below their children -/
def Up (l : List Bk) : Prop := ∀ k, k < l.length → -1 ≤ (bkAt l k).par ∧ (bkAt l k).par < k
def pathF (l : List Bk) : Nat → Int → List Nat
  | 0, _ => []
  | f + 1, i => if i < 0 then [] else i.toNat :: pathF l f (bkAt l i.toNat).par
def pathL (l : List Bk) (i : Int) : List Nat := pathF l (i + 1).toNat i
theorem pathF_more {l : List Bk} (hu : Up l) : ∀ (f f' : Nat) (i : Int), i < f → i < f' → i < l.length → pathF l f i = pathF l f' i
  | 0, 0, _, _, _, _ => rfl
  | 0, f' + 1, i, h, _, _ => by
    unfold pathF
    rw [if_pos (by omega)]
  | f + 1, 0, i, _, h, _ => by
    unfold pathF
    rw [if_pos (by omega)]
  | f + 1, f' + 1, i, h, h', hl => by
    unfold pathF
    by_cases c : i < 0
    · rw [if_pos c, if_pos c]
    · have := hu i.toNat (by omega)
      rw [if_neg c, if_neg c, pathF_more hu f f' _ (by omega) (by omega) (by omega)]
theorem pathL_neg (l : List Bk) {i : Int} (h : i < 0) : pathL l i = [] := by
  unfold pathL
  rw [show (i + 1).toNat = 0 by omega]
  rfl
theorem pathL_step {l : List Bk} (hu : Up l) (i : Nat) (h : i < l.length) : pathL l i = i :: pathL l (bkAt l i).par := by
  unfold pathL
  have h1 := hu i h
  rw [show ((i : Int) + 1).toNat = i + 1 by omega]
  rw [show pathF l (i + 1) i = (if (i : Int) < 0 then [] else (i : Int).toNat :: pathF l i (bkAt l (i : Int).toNat).par) from rfl]
  rw [if_neg (by omega), Int.toNat_natCast]
  rw [pathF_more hu i ((bkAt l i).par + 1).toNat (bkAt l i).par (by omega) (by omega) (by omega)]
theorem pathL_lt {l : List Bk} (hu : Up l) : ∀ (f : Nat) (i : Int), i < f → i < l.length → ∀ x ∈ pathL l i, (x : Int) ≤ i
  | 0, i, h, _, x, hx => by rw [pathL_neg l (by omega)] at hx; cases hx
  | f + 1, i, h, hl, x, hx => by
    by_cases c : i < 0
    · rw [pathL_neg l c] at hx; cases hx
    · obtain ⟨k, rfl⟩ : ∃ k : Nat, i = k := ⟨i.toNat, by omega⟩
      have := hu k (by omega)
      rw [pathL_step hu k (by omega)] at hx
      rcases List.mem_cons.1 hx with rfl | hx
      · omega
      · have := pathL_lt hu f _ (by omega) (by omega) x hx
        omega
theorem pathL_len {l : List Bk} (hu : Up l) : ∀ (f : Nat) (i : Int), i < f → i < l.length → (pathL l i).length ≤ (i + 1).toNat
  | 0, i, h, _ => by rw [pathL_neg l (by omega)]; simp
  | f + 1, i, h, hl => by
    by_cases c : i < 0
    · rw [pathL_neg l c]; simp
    · obtain ⟨k, rfl⟩ : ∃ k : Nat, i = k := ⟨i.toNat, by omega⟩
      have := hu k (by omega)
      rw [pathL_step hu k (by omega), List.length_cons]
      have := pathL_len hu f (bkAt l k).par (by omega) (by omega)
      omega
theorem pathL_le {l : List Bk} (hu : Up l) (i : Int) (h : i < l.length) : (pathL l i).length ≤ l.length := by
  have := pathL_len hu l.length i h h
  omega
theorem pathL_nodup {l : List Bk} (hu : Up l) : ∀ (f : Nat) (i : Int), i < f → i < l.length → (pathL l i).Nodup
  | 0, i, h, _ => by rw [pathL_neg l (by omega)]; simp
  | f + 1, i, h, hl => by
    by_cases c : i < 0
    · rw [pathL_neg l c]; simp
    · obtain ⟨k, rfl⟩ : ∃ k : Nat, i = k := ⟨i.toNat, by omega⟩
      have := hu k (by omega)
      rw [pathL_step hu k (by omega), List.nodup_cons]
      refine ⟨fun hx => ?_, pathL_nodup hu f _ (by omega) (by omega)⟩
      have := pathL_lt hu f _ (by omega) (by omega) k hx
      omega
end Go.Proofs.Ytehfnanhamaenaa
