/- The plain law of BudgetLimits. No condition. -/
import Derived.Test.YtehfnanhamaenaaMathH
namespace Go.Proofs.Ytehfnanhamaenaa
def takn (l : List Pl) (us : List Us) (q : Nat) : TK := tAt (runT (0, startL l) us) q
def limF (l : List Pl) (us : List Us) (a q : Nat) : Int := if a ∈ pathL (startL l) (takn l us q).2.1 then (takn l us q).2.2 else 0
section
variable {l : List Pl} {us : List Us} (h8 : l.length ≤ 8) (h0 : 0 < l.length) (hm : us.length ≤ 20)
include h8 h0 hm
theorem takn_bd {q : Nat} (hq : q < us.length) : (takn l us q).2.1 < l.length ∧ 0 ≤ (takn l us q).2.2 ∧ (takn l us q).2.2 ≤ 1073741824 ∧ 0 ≤ (takn l us q).1 ∧ (takn l us q).1 ≤ 105 := by
  have hg := (start_good l h8 h0).run (us.take q) (by rw [List.length_take]; show (0 : Int) + _ ≤ _; omega)
  have h2 := hg.2.2
  have h3 := hg.2.1
  rw [List.length_take] at h2
  dsimp only at h2 h3
  have e : takn l us q = useT (runS (0, startL l) (us.take q)) us[q] := runT_at us _ q hq
  rw [e]
  have hk := hg.1.k (u := us[q])
  have hn := hg.1.n (u := us[q]) (by omega)
  have hl := hg.1.len
  rw [startL_len] at hl
  have ha := availL_le (hg.1.advok (u := us[q]) (by omega)) (useK (runS (0, startL l) (us.take q)) us[q])
  have hw := useW_bd us[q]
  exact ⟨by show useK _ _ < _; omega, hn.1, by show useN _ _ ≤ _; omega, by show 0 ≤ (runS (0, startL l) (us.take q)).1 + useW us[q]; omega, by show (runS (0, startL l) (us.take q)).1 + useW us[q] ≤ 105; omega⟩
theorem lim_top {i k a : Nat} (hik : i ≤ k) (hk : k < us.length) (ha : a < l.length) :
    sumF (limF l us a) i (k - i + 1) ≤ (l[a].burst : Int) % 60 + (l[a].rate : Int) % 20 * ((takn l us k).1 - (takn l us i).1) := by
  have h := limit_sum us (start_good l h8 h0) (by show (0 : Int) + _ + _ ≤ _; omega) a (by rw [startL_len]; exact ha) i (k - i) (by omega)
  have e : i + (k - i) = k := by omega
  rw [e] at h
  have hb : (bkAt (startL l) a).burst = (l[a].burst : Int) % 60 := by rw [bkAt_lt _ a (by rw [startL_len]; exact ha), startL_get l a ha]; rfl
  have hr : (bkAt (startL l) a).rate = (l[a].rate : Int) % 20 := by rw [bkAt_lt _ a (by rw [startL_len]; exact ha), startL_get l a ha]; rfl
  have h' : sumF (limF l us a) i (k - i + 1) ≤ (bkAt (startL l) a).burst + (bkAt (startL l) a).rate * ((takn l us k).1 - (takn l us i).1) - (bkAt (runS (0, startL l) (us.take (k + 1))).2 a).tok := h
  rw [hb, hr] at h'
  have ht := (start_good l h8 h0).run (us.take (k + 1)) (by rw [List.length_take]; show (0 : Int) + _ ≤ _; omega)
  have htok := (tok_bd ht.1.ok a).1
  generalize (l[a].rate : Int) % 20 * ((takn l us k).1 - (takn l us i).1) = z at *
  omega
theorem limF_nn {a q : Nat} (hq : q < us.length) : 0 ≤ limF l us a q := by
  unfold limF
  split
  · exact (takn_bd h8 h0 hm hq).2.1
  · exact Int.le_refl _
theorem lim_sum_bd {i a : Nat} (ha : a < l.length) : ∀ q, i + q ≤ us.length → 0 ≤ sumF (limF l us a) i q ∧ sumF (limF l us a) i q ≤ 3000
  | 0, _ => ⟨Int.le_refl _, by show (0 : Int) ≤ 3000; omega⟩
  | q + 1, hq => by
    have ih := lim_sum_bd (i := i) ha q (by omega)
    have h1 := limF_nn h8 h0 hm (a := a) (q := i + q) (by omega)
    refine ⟨by show 0 ≤ _ + _; omega, ?_⟩
    have h := lim_top h8 h0 hm (i := i) (k := i + q) (a := a) (by omega) (by omega) ha
    rw [show i + q - i = q by omega] at h
    have b1 := takn_bd h8 h0 hm (q := i + q) (by omega)
    have b2 := takn_bd h8 h0 hm (q := i) (by omega)
    have hx : (l[a].rate : Int) % 20 * ((takn l us (i + q)).1 - (takn l us i).1) ≤ 19 * 105 := by
      have r0 : 0 ≤ (l[a].rate : Int) % 20 := by omega
      have r1 : (l[a].rate : Int) % 20 ≤ 19 := by omega
      rcases Int.lt_or_le ((takn l us (i + q)).1 - (takn l us i).1) 0 with hneg | hpos
      · have := Int.mul_nonpos_of_nonneg_of_nonpos r0 (Int.le_of_lt hneg)
        omega
      · exact Int.mul_le_mul r1 (by omega) hpos (by omega)
    omega
end
end Go.Proofs.Ytehfnanhamaenaa
