/- The walk of first: the first rule whose condition does not hold. No condition. -/
import Derived.Test.YtggaaajkbnhofaaWa
namespace Go.Proofs.Ytggaaajkbnhofaa
open Go.RowKit
/-- a rule: the closure (its function and what it captures), what it says, its error -/
structure Rl where
  k : Nat
  cap : Array Value
  b : Bool
  e : Int
def firstV : List Rl → Int
  | [] => 0
  | r :: l => if r.b then firstV l else r.e
theorem firstV_drop (l : List Rl) (i : Nat) (h : i < l.length) : firstV (l.drop i) = if l[i].b then firstV (l.drop (i + 1)) else l[i].e := by
  rw [List.drop_eq_getElem_cons h]
  rfl
/-- what a rule must say of its closure -/
def Rl.Ok (r : Rl) (w : World) : Prop :=
  (∀ w', (callFunc r.k r.cap).run Try.prog w' = .ok (.enter r.k r.cap) w') ∧
  ∀ w', Below w.heap.size w w' → Calls Try.prog r.k r.cap w' fun x w'' => x = .returned (.bool r.b) ∧ w' = w''
set_option maxRecDepth 100000 in
theorem first_any (g c : Nat) (rs : List Rl) (w : World) (hg : g < w.heap.size) (hn : rs.length ≤ 100)
    (hc : ∀ i (h : i < rs.length), w.cell? ⟨g, i * 2, none⟩ = some (.func (.func rs[i].k) #[] rs[i].cap) ∧ w.cell? ⟨g, i * 2 + 1, none⟩ = some (.int .i64 rs[i].e))
    (hk : ∀ r ∈ rs, r.Ok w) :
    Calls Try.prog 28 #[.slice (some ⟨g, 0, none⟩) rs.length c] w fun x w' => x = .returned (.int .i64 (firstV rs)) ∧ Below w.heap.size w w' := by
  obtain ⟨n, hln⟩ : ∃ n, rs.length = n := ⟨_, rfl⟩
  rw [hln]
  have HL := Lib.hid hln
  have hn' : n ≤ 100 := by omega
  have HC := Lib.hid hc
  have HK := Lib.hid hk
  clear hln hc hk hn
  go_enter Try.func28, Try.ntmps28
  go_wp2
  go_loopw [7] (fun i wr => ∃ k : Nat, k ≤ n ∧ i = .int .i64 k ∧ firstV rs = firstV (rs.drop k) ∧ Below w.heap.size w wr) (fun i _ => n - (intOf i).toNat)
  case atStart => exact ⟨0, by omega, rfl, rfl, Below.refl _ _⟩
  case round =>
    obtain ⟨k, hk, rfl, hf, hb⟩ := hrel
    have HF := Lib.hid hf
    clear hf
    by_cases hlt : k < n
    · have hkl : k < rs.length := by rw [HL.out]; exact hlt
      obtain ⟨d0, d1⟩ := HC.out k hkl
      replace d0 := (hb.cell (p := ⟨g, k * 2, none⟩) hg).trans d0
      replace d1 := (hb.cell (p := ⟨g, k * 2 + 1, none⟩) hg).trans d1
      obtain ⟨en, hcl⟩ := HK.out rs[k] (List.getElem_mem hkl)
      have HS := Lib.hid (firstV_drop rs k hkl)
      generalize rs[k] = r at *
      obtain ⟨kk, cap, b, e⟩ := r
      dsimp only at d0 d1 en hcl
      have HS' : Hid (firstV (rs.drop k) = if b = true then firstV (rs.drop (k + 1)) else e) := HS
      clear HS
      go_wp2_with fail
      refine (hcl _ (hb.alloc hb.size _)).mono ?_
      rintro x w1 ⟨rfl, rfl⟩
      cases b
      · go_wp2_with fail
        go_ret
        exact ⟨ret_int (by rw [HF.out, HS'.out]; rfl), hb.alloc hb.size _⟩
      · go_wp2_with fail
        go_roundw
        case rel => exact ⟨k + 1, by omega, by go_num, by rw [HF.out, HS'.out]; rfl, hb.alloc hb.size _⟩
        case measure => simp [intOf]; omega
    · have hkn : k = n := by omega
      have h0 : firstV rs = 0 := by
        rw [HF.out, List.drop_of_length_le (by rw [HL.out]; omega)]
        rfl
      have H1 := Lib.hid h0
      clear h0
      go_wp2
      go_ret
      exact ⟨ret_int H1.out.symm, hb⟩
end Go.Proofs.Ytggaaajkbnhofaa
