/- One step keeps the invariant. No condition. -/
import Derived.Test.YtggaaajkbnhofaaWp
namespace Go.Proofs.Ytggaaajkbnhofaa
open Go.RowKit
theorem Inv.lsOk {K : Int} {n : Nat} {b : Int} {s : St} (h : Inv K n b s) (hK : K ≤ 1000) : LsOk s.ls := fun i hi => by
  have := h.le i hi
  have := h.now
  have := h.tm
  omega
theorem step_ok (w W : World) (g low k : Nat) (s : St) (b kd si wh : Int) (hI : StI w g low s W) (hV : Inv (1 + 6 * (k : Nat)) k b s) (hk : k < 60) :
    Calls Try.prog 5 #[.pointer (some ⟨g, 0, none⟩), .agg #[.int .i64 kd, .int .i64 si, .int .i64 wh]] W fun x W' => x = .returned (.bool true) ∧ ∃ s' b', StI w g low s' W' ∧ Inv (1 + 6 * ((k + 1 : Nat) : Int)) (k + 1) b' s' := by
  have hl : LsOk s.ls := hV.lsOk (by omega)
  have hrn := hV.rqn
  have han := hV.ann
  have hnow := hV.now
  have htm := hV.tm
  have hmg := hV.mg
  have hwe := hV.we
  have hwu := hV.wu
  have eK : (1 : Int) + 6 * ((k + 1 : Nat) : Int) = 1 + 6 * (k : Nat) + 6 := by omega
  rw [eK]
  have hV6 : Inv (1 + 6 * (k : Nat) + 6) k b s := hV.mono (by omega) (Nat.le_refl _)
  have hV7 : Inv (1 + 6 * (k : Nat) + 6) (k + 1) b s := hV.mono (by omega) (Nat.le_succ _)
  rcases Decidable.em (kd = 0 ∨ kd = 1 ∨ kd = 2 ∨ kd = 3 ∨ kd = 4 ∨ kd = 5) with (rfl | rfl | rfl | rfl | rfl | rfl) | hk'
  · refine (step0 w W g low s si wh hI hl (by omega)).mono ?_
    rintro z w1 ⟨rfl, i, x, hi, hx1, hx2, hx3, hI'⟩
    have hle := hV.le i hi
    refine ⟨rfl, _, b, hI', hV6.send (.inl rfl) ⟨?_, ?_⟩ ⟨?_, ?_⟩ (fun h9 => ?_)⟩
    · dsimp only; omega
    · dsimp only; omega
    · dsimp only; omega
    · dsimp only
      rw [Int.max_def] at hx3
      split at hx3 <;> omega
    · exact absurd (show _ = (18 : Int) from h9) (by simp)
  · refine (step1 w W g low s si wh hI hl (by omega)).mono ?_
    rintro z w1 ⟨rfl, s', hI', rfl | ⟨i, hi, rfl⟩⟩
    · exact ⟨rfl, _, b, hI', hV7⟩
    · have hle := hV.le i hi
      refine ⟨rfl, _, b, hI', hV6.send (.inr (.inl rfl)) ⟨?_, ?_⟩ ⟨?_, ?_⟩ (fun h9 => ?_)⟩
      · dsimp only; omega
      · dsimp only; omega
      · dsimp only; omega
      · dsimp only; omega
      · exact absurd (show _ = (18 : Int) from h9) (by simp)
  · refine (step2 w W g low s si wh hI hl (by omega)).mono ?_
    rintro z w1 ⟨rfl, i, hi, hI'⟩
    have hle := hV.le i hi
    refine ⟨rfl, _, b, hI', (hV.give hi).send (.inr (.inr rfl)) ⟨?_, ?_⟩ ⟨?_, ?_⟩ (fun h9 => ?_)⟩
    · dsimp only; omega
    · dsimp only; omega
    · dsimp only; omega
    · dsimp only; omega
    · dsimp only
      rw [Int.toNat_natCast, updL_same]
      dsimp only
      omega
  · refine (step3 w W g low s si wh hI hl ⟨?_, ?_, ?_, ?_, ?_⟩ (fun q hq => ?_) (by omega) (by omega)).mono ?_
    · omega
    · have := hV.wh
      omega
    · omega
    · omega
    · omega
    · obtain ⟨j, hj, hjq⟩ := List.getElem_of_mem hq
      have hqq : s.rq[j]? = some q := by rw [List.getElem?_eq_getElem hj, hjq]
      obtain ⟨a1, a2, a3, a4, a5, a6, a7, a8, a9⟩ := hV.rq j q hqq
      exact ⟨a4, by omega, by omega⟩
    · rintro z w1 ⟨rfl, s', hI', rfl | ⟨q, hq, rfl⟩⟩
      · exact ⟨rfl, _, b, hI', hV7⟩
      · obtain ⟨b', hV'⟩ := hV6.hand hq
        exact ⟨rfl, _, b', hI', hV'⟩
  · refine (step4 w W g low s si wh hI hl (fun m hm => ?_) (fun q hq => ?_) (by omega) (by omega) (by omega) (by omega)).mono ?_
    · obtain ⟨a1, a2, a3, a4, a5, a6, a7⟩ := hV.an m hm
      exact ⟨a1, by omega, by omega, by omega⟩
    · obtain ⟨j, hj, hjq⟩ := List.getElem_of_mem hq
      have hqq : s.rq[j]? = some q := by rw [List.getElem?_eq_getElem hj, hjq]
      obtain ⟨a1, a2, a3, a4, a5, a6, a7, a8, a9⟩ := hV.rq j q hqq
      omega
    · rintro z w1 ⟨rfl, s', hI', rfl | ⟨m, q, hm, hq, rfl⟩⟩
      · exact ⟨rfl, _, b, hI', hV7⟩
      · exact ⟨rfl, _, b, hI', hV7.learn hm hq⟩
  · have hfe := hV.fe
    refine (step5 w W g low s si wh hI hl (by omega) hV.fo hV.may).mono ?_
    rintro z w1 ⟨rfl, i, hi, hI'⟩
    exact ⟨rfl, _, b, hI', hV7.write hi⟩
  · refine (stepD w W g low s si wh hI hl kd hk' (by omega)).mono ?_
    rintro z w1 ⟨rfl, d, hd1, hd2, hI'⟩
    exact ⟨rfl, _, b, hI', (hV.time ⟨hd1, hd2⟩).mono (Int.le_refl _) (Nat.le_succ _)⟩
end Go.Proofs.Ytggaaajkbnhofaa
