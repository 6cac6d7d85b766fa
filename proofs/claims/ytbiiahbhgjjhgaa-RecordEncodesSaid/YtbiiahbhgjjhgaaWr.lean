/- The walks of SameSectors and the reference's Encode. Condition: at most 4096 bytes. -/
import Derived.Test.YtbiiahbhgjjhgaaWp
namespace Go.Proofs.Ytbiiahbhgjjhgaa
open Go.RowKit
set_option maxRecDepth 100000 in
set_option maxHeartbeats 2000000 in
theorem SameSectors_any (n c c' : Nat) (A A' : Option Addr) (l : List Sec) (w : World) (hR : Reads w w.heap.size 8 A n (l.flatMap encS)) (hR' : Reads w w.heap.size 8 A' n (l.flatMap encS)) (hn : n ≤ 2000) :
    Calls Try.prog 16 #[.slice A n c, .slice A' n c'] w fun e w' => e = .returned (.bool true) ∧ Below w.heap.size w w' := by
  have hlen := sec_count hR
  have hneq := neqV
  have HX := Lib.hid (And.intro hR (And.intro hR' hlen))
  clear hR hR' hlen
  go_enter Try.func16, Try.ntmps16
  go_wp2_with fail
  go_loopw [5] (fun i W => ∃ k : Nat, k ≤ n ∧ i = .int .i64 k ∧ Below w.heap.size w W) (fun i _ => n - (intOf i).toNat)
  case atStart => exact ⟨0, by omega, rfl, Below.refl _ _⟩
  case round =>
    obtain ⟨k, hk, rfl, hb⟩ := hrel
    by_cases hkn : k < n
    · obtain ⟨hR, hR', hlen⟩ := HX.out
      have hkl : k < l.length := by omega
      obtain ⟨b, off, rfl, hbb, hc⟩ := hR.sec (by omega)
      obtain ⟨b', off', rfl, hbb', hc'⟩ := hR'.sec (by omega)
      have hcx := hc k hkl
      have hcx' := hc' k hkl
      generalize l[k] = x at *
      have g9 : ∀ j u, (encS x)[j]? = some u → wr.drew.cell? ⟨b, off + k * 8 + j, none⟩ = some u := fun j u hu => by
        rw [Nat.add_assoc, Nat.mul_comm k 8]
        exact (hb.cell (p := ⟨b, _, none⟩) hbb).trans (hcx j u hu)
      have g9' : ∀ j u, (encS x)[j]? = some u → wr.drew.cell? ⟨b', off' + k * 8 + j, none⟩ = some u := fun j u hu => by
        rw [Nat.add_assoc, Nat.mul_comm k 8]
        exact (hb.cell (p := ⟨b', _, none⟩) hbb').trans (hcx' j u hu)
      obtain ⟨d0, d1, d2, d3, d4, d5, d6, d7⟩ : wr.cell? ⟨b, off + k * 8, none⟩ = some (.int .u8 (x.a : Int)) ∧ wr.cell? ⟨b, off + k * 8 + 1, none⟩ = some (.int .u8 (x.b : Int)) ∧ wr.cell? ⟨b, off + k * 8 + 2, none⟩ = some (.int .u8 (x.c : Int)) ∧ wr.cell? ⟨b, off + k * 8 + 3, none⟩ = some (.int .u8 (x.d : Int)) ∧ wr.cell? ⟨b, off + k * 8 + 4, none⟩ = some (.int .u8 (x.e : Int)) ∧ wr.cell? ⟨b, off + k * 8 + 5, none⟩ = some (.int .u8 (x.f : Int)) ∧ wr.cell? ⟨b, off + k * 8 + 6, none⟩ = some (.int .u8 (x.g : Int)) ∧ wr.cell? ⟨b, off + k * 8 + 7, none⟩ = some (.int .u8 (x.h : Int)) := ⟨g9 0 _ rfl, g9 1 _ rfl, g9 2 _ rfl, g9 3 _ rfl, g9 4 _ rfl, g9 5 _ rfl, g9 6 _ rfl, g9 7 _ rfl⟩
      obtain ⟨e0, e1, e2, e3, e4, e5, e6, e7⟩ : wr.cell? ⟨b', off' + k * 8, none⟩ = some (.int .u8 (x.a : Int)) ∧ wr.cell? ⟨b', off' + k * 8 + 1, none⟩ = some (.int .u8 (x.b : Int)) ∧ wr.cell? ⟨b', off' + k * 8 + 2, none⟩ = some (.int .u8 (x.c : Int)) ∧ wr.cell? ⟨b', off' + k * 8 + 3, none⟩ = some (.int .u8 (x.d : Int)) ∧ wr.cell? ⟨b', off' + k * 8 + 4, none⟩ = some (.int .u8 (x.e : Int)) ∧ wr.cell? ⟨b', off' + k * 8 + 5, none⟩ = some (.int .u8 (x.f : Int)) ∧ wr.cell? ⟨b', off' + k * 8 + 6, none⟩ = some (.int .u8 (x.g : Int)) ∧ wr.cell? ⟨b', off' + k * 8 + 7, none⟩ = some (.int .u8 (x.h : Int)) := ⟨g9' 0 _ rfl, g9' 1 _ rfl, g9' 2 _ rfl, g9' 3 _ rfl, g9' 4 _ rfl, g9' 5 _ rfl, g9' 6 _ rfl, g9' 7 _ rfl⟩
      clear hR hR' hc hc' hcx hcx' g9 g9'
      have hkn' : (k : Int) < n := by omega
      have hk0 : (0 : Int) ≤ k := by omega
      go_wp2_with fail
      go_region
      all_goals go_wp2_with fail
      exact ⟨⟨k + 1, by omega, by go_num, hb.drew⟩, by simp [intOf]; omega⟩
    · go_wp2_with fail
      go_ret
      exact ⟨rfl, hb⟩
end Go.Proofs.Ytbiiahbhgjjhgaa
