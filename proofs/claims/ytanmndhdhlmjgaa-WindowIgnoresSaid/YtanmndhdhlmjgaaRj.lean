/- The walk of the transmission's all. Conditions: small. -/
import Derived.Test.YtanmndhdhlmjgaaRi
import Derived.Test.YtanmndhdhlmjgaaArgsC
namespace Go.Proofs.Ytanmndhdhlmjgaa
open Go.RowKit
/-- the transmission behind k steps -/
def runK (m : RunM) (ns : List Int) (k : Nat) : RunM := (ns.take k).foldl stepR m
theorem runK_succ (m : RunM) (ns : List Int) {k : Nat} (hk : k < ns.length) : runK m ns (k + 1) = stepR (runK m ns k) ns[k] := by
  unfold runK
  rw [List.take_succ_eq_append_getElem hk, List.foldl_append]
  rfl
theorem runK_all (m : RunM) (ns : List Int) : runK m ns ns.length = ns.foldl stepR m := by
  unfold runK
  rw [List.take_length]
theorem runK_zero (m : RunM) (ns : List Int) : runK m ns 0 = m := rfl
/-- all steps can be walked, and all is right behind each -/
structure Goes (m : RunM) (ns : List Int) : Prop where
  fit : ∀ k, k ≤ ns.length → Fit (runK m ns k)
  right : ∀ k, k ≤ ns.length → RightI (runK m ns k)
attribute [irreducible] runK
set_option maxRecDepth 100000 in
set_option maxHeartbeats 4000000 in
set_option linter.unusedSimpArgs false in
theorem runAll_any (m : RunM) (u : RVal) (X base B0 : Nat) (ns : List Int) (v : Value) (W : World) (h : RunI W base X m u) (hX : base ≤ X) (hv : Vec encI IR 3 1 W B0 v ns) (hg : Goes m ns) (hl : ns.length ≤ 1000) (hB : ∀ W', Below base W W' → Vec encI IR 3 1 W' B0 v ns) :
    Calls Try.prog 38 #[.pointer (some ⟨X, 0, none⟩), v] W fun e W' => e = .returned (.bool true) ∧ (∃ u', RunI W' base X (ns.foldl stepR m) u') ∧ Below base W W' := by
  have HH := Lib.hid (And.intro h (And.intro hg hB))
  obtain ⟨A, c, rfl, hc1, hc2, -⟩ := hv.val
  obtain ⟨nn, hnn⟩ : ∃ n, ns.length = n := ⟨_, rfl⟩
  rw [hnn] at hl hc1 ⊢
  have HN := Lib.hid hnn
  clear h hg hB hv hnn
  go_enter Try.func38, Try.ntmps38
  go_wp2_with fail
  go_loopw [6, 9] (fun v6 v9 wr => ∃ k : Nat, k ≤ nn ∧ v9 = .int .i64 k ∧ Hid ((∃ u', RunI wr base X (runK m ns k) u') ∧ Below base W wr)) (fun _ v9 _ => nn - (intOf v9).toNat)
  case atStart => exact ⟨0, by omega, rfl, ⟨⟨_, by rw [runK_zero]; exact HH.out.1⟩, Below.refl _ _⟩⟩
  case round =>
    obtain ⟨k, hk, rfl, HS⟩ := hrel
    by_cases hlt : k < nn
    · have ik : (k : Int) < nn := by omega
      have hkl : k < ns.length := by rw [HN.out]; exact hlt
      obtain ⟨b, off, c2, hv2, -, -, hbl, hc⟩ := (HH.out.2.2 _ HS.out.2).at_ encI_len (by omega) (by omega)
      injection hv2 with hA hn2 hc3
      subst hA hc3
      clear hn2
      obtain ⟨x, hx⟩ : ∃ x, x = ns[k] := ⟨_, rfl⟩
      have d0 : wr.cell? ⟨b, off + k, none⟩ = some (.int .i64 x) := by have h := hc k hkl 0 (.int .i64 x) (by rw [hx]; rfl); simpa using h
      have hxb : IR wr B0 x := by rw [hx]; exact (HH.out.2.2 _ HS.out.2).el _ (List.getElem_mem hkl)
      have hsx := runK_succ m ns hkl
      rw [← hx] at hsx
      obtain ⟨u1, hu1⟩ := HS.out.1
      have HC := Lib.hid (runStep_any (runK m ns k) u1 X base x wr hu1 hX (HH.out.2.1.fit k (by rw [HN.out]; omega)) hxb)
      have HX := Lib.hid hsx
      clear hc hxb hsx hx hkl hu1
      go_wp2_with fail
      refine HC.out.mono ?_
      clear HC
      rintro e w1 ⟨rfl, hu2, hb1⟩
      rw [← HX.out] at hu2
      obtain ⟨u2, hu2⟩ := hu2
      have HU := Lib.hid (And.intro hu2 (HS.out.2.trans hb1))
      have HC := Lib.hid (runRight_any (runK m ns (k + 1)) u2 X base w1 hu2 (HH.out.2.1.right (k + 1) (by rw [HN.out]; omega)))
      clear hu2 hb1 d0 hbl
      go_wp2_with fail
      refine HC.out.mono ?_
      clear HC
      rintro e w2 ⟨rfl, hb2⟩
      have HF : Hid ((∃ u', RunI w2 base X (runK m ns (k + 1)) u') ∧ Below base W w2) := ⟨⟨u2, HU.out.1.below hb2⟩, HU.out.2.trans (hb2.mono (by have := HU.out.1.blk.lt; omega))⟩
      clear hb2
      go_wp2_with fail
      go_roundw
      case rel => exact ⟨k + 1, by omega, by go_num, HF⟩
      case measure => simp [intOf]; omega
    · obtain rfl : k = nn := by omega
      go_wp2_with fail
      go_ret
      refine ⟨rfl, ?_, HS.out.2⟩
      rw [← runK_all, HN.out]
      exact HS.out.1
end Go.Proofs.Ytanmndhdhlmjgaa
