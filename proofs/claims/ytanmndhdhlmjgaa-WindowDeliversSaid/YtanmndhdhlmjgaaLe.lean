/- The walk of the law WindowDelivers. Conditions: small. -/
import Derived.Test.YtanmndhdhlmjgaaMathO
import Derived.Test.YtanmndhdhlmjgaaXh
namespace Go.Proofs.Ytanmndhdhlmjgaa
open Go.RowKit
set_option maxRecDepth 100000 in
set_option maxHeartbeats 2000000 in
set_option linter.unusedSimpArgs false in
theorem walkWindowDelivers (w : World) (v0 v1 v2 : Value) (h0 : Arg5 w v0) (h1 : Arg5 w v1) (h2 : Arg66 w v2) : Calls Try.prog 7 #[v0, v1, v2] w fun e w' => e = .returned (.bool true) ∧ Below w.heap.size w w' := by
  obtain ⟨a, rfl, ha⟩ := h0
  obtain ⟨b, rfl, hb⟩ := h1
  obtain ⟨ns, hv⟩ := h2
  obtain ⟨A, c, rfl, hc1, -, -⟩ := hv.val
  obtain ⟨nn, hnn⟩ : ∃ n, ns.length = n := ⟨_, rfl⟩
  have HV := Lib.hid (And.intro hv hnn)
  rw [hnn]
  have HC := Lib.hid (begin_any a b w.heap.size w ha hb (Nat.le_refl _))
  clear hv hnn hc1 ha hb
  go_enter Try.func7, Try.ntmps7
  go_wp2_with fail
  refine HC.out.mono ?_
  clear HC
  rintro e w1 ⟨⟨X, u, rfl, hX, hR⟩, hb1⟩
  have H1 := Lib.hid (And.intro hX (And.intro hR hb1))
  clear hX hR hb1
  by_cases hl : 60 < nn
  · have kl : decide ((60 : Int) < (nn : Int)) = true := decide_eq_true (by omega)
    have klb : (60 < nn) = True := eq_true hl
    clear hl
    go_wp2_with fail
    refine (awake_any w1).mono ?_
    rintro e w2 ⟨rfl, hb2⟩
    have HF := Lib.hid (H1.out.2.2.trans (hb2.mono H1.out.2.2.size))
    clear hb2
    go_wp2_with fail
    go_ret
    exact ⟨rfl, HF.out⟩
  · have kl : decide ((60 : Int) < (nn : Int)) = false := decide_eq_false (by omega)
    have klb : (60 < nn) = False := eq_false hl
    have hl2 : nn ≤ 60 := by omega
    clear hl
    have HC := Lib.hid (runAll_any (run0 a b) u X w.heap.size w.heap.size ns (.slice A nn c) w1 H1.out.2.1 H1.out.1 (by rw [← HV.out.2]; exact HV.out.1.up H1.out.2.2 ir_ab) (goes_run a b ns (by rw [HV.out.2]; exact hl2)) (by rw [HV.out.2]; omega) (fun W' hW => by rw [← HV.out.2]; exact HV.out.1.up (H1.out.2.2.trans hW) ir_ab))
    go_wp2_with fail
    refine HC.out.mono ?_
    clear HC
    rintro e w2 ⟨rfl, -, hb2⟩
    have HF := Lib.hid (H1.out.2.2.trans hb2)
    clear hb2
    go_wp2_with fail
    refine (awake_any w2).mono ?_
    rintro e w3 ⟨rfl, hb3⟩
    have HF3 := Lib.hid (HF.out.trans (hb3.mono HF.out.size))
    clear hb3
    go_wp2_with fail
    go_ret
    exact ⟨rfl, HF3.out⟩
end Go.Proofs.Ytanmndhdhlmjgaa
