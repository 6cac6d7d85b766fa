/- Plain laws of lineages: the last span; what Extend answers. No condition. -/
import Derived.Test.YtnhemndpnjhbfaaWq
namespace Go.Proofs.Ytnhemndpnjhbfaa
open Go.RowKit
theorem lin_all {l : List Span} (h : lineageE l = 0) : ∀ k, k ≤ l.length → linE (prevS l k) (l.drop k) = 0 ∧ 0 ≤ (prevS l k).e ∧ (prevS l k).e ≤ 1073741824 ∧ 0 ≤ (prevS l k).t ∧ (prevS l k).t ≤ 1073741824
  | 0, _ => ⟨h, by show (0 : Int) ≤ 0; omega, by show (0 : Int) ≤ 1073741824; omega, by show (0 : Int) ≤ 0; omega, by show (0 : Int) ≤ 1073741824; omega⟩
  | k + 1, hk => by
    obtain ⟨h1, _⟩ := lin_all h k (by omega)
    rw [linE_drop l k (by omega)] at h1
    split at h1
    · next hc =>
      obtain ⟨z1, z2, z3, z4, z5, z6, z7⟩ := chkS_zero hc
      rw [prevS_succ] at h1 ⊢
      exact ⟨h1, by omega, by omega, by omega, by omega⟩
    · next hc => exact absurd h1 hc
theorem last_bd {l : List Span} (h : lineageE l = 0) : 0 ≤ (lastS l).e ∧ (lastS l).e ≤ 1073741824 ∧ 0 ≤ (lastS l).t ∧ (lastS l).t ≤ 1073741824 := (lin_all h l.length (Nat.le_refl _)).2
theorem lin_chk {l : List Span} (h : lineageE l = 0) (k : Nat) (hk : k < l.length) : chkS (prevS l k) (atS l k) = 0 := by
  obtain ⟨h1, _⟩ := lin_all h k (by omega)
  rw [linE_drop l k hk] at h1
  split at h1
  · assumption
  · next hc => exact absurd h1 hc
/-- the error of Extend behind the last span -/
def extR (p : Span) (n c : Int) : Int := if inB n 1 && inB c 1 then (if p.e ≤ n then (if p.t < c then 0 else 8) else 13) else 2
def extE (l : List Span) (n c : Int) : Int := if lineageE l = 0 then extR (lastS l) n c else lineageE l
/-- the lineage with all cycles up to a further one -/
def extL (l : List Span) (n c : Int) : List Span :=
  if l ≠ [] ∧ n = (lastS l).e then l.set (l.length - 1) ⟨(lastS l).e, (lastS l).f, c⟩ else l ++ [⟨n, (lastS l).t + 1, c⟩]
def extV (l : List Span) (n c : Int) : List Span := if extE l n c = 0 then extL l n c else []
theorem firstV_ext (a b d : Array Value) (p : Span) (n c : Int) : firstV [⟨51, a, inB n 1 && inB c 1, 2⟩, ⟨52, b, decide (p.e ≤ n), 13⟩, ⟨53, d, decide (p.t < c), 8⟩] = extR p n c := by
  simp only [firstV, extR, decide_eq_true_eq]
theorem extR_zero {p : Span} {n c : Int} (h : extR p n c = 0) : 1 ≤ n ∧ n ≤ 1073741824 ∧ 1 ≤ c ∧ c ≤ 1073741824 ∧ p.e ≤ n ∧ p.t < c := by
  unfold extR at h
  (repeat' split at h) <;> simp_all [inB]
end Go.Proofs.Ytnhemndpnjhbfaa
