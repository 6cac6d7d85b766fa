/- The walk of the reference Truncate. Condition: at most 1000 spans. -/
import Derived.Test.YtnhemndpnjhbfaaWp
namespace Go.Proofs.Ytnhemndpnjhbfaa
open Go.RowKit Go.Shelf
set_option maxRecDepth 100000 in
set_option maxHeartbeats 1000000 in
theorem refTruncate_any (A : Option Addr) (n c : Nat) (y : Int) (l : List Span) (w : World) (hR : RdS w A n l) (hl : n ≤ 1000) :
    Calls Try.prog 27 #[.slice A n c, .int .i64 y] w fun e w' => (∃ A' n' c', e = .returned (.slice A' n' c') ∧ RdS w' A' n' (truncV l y)) ∧ Below w.heap.size w w' := by
  have HCL := Lib.hid (refCheckLineage_any A n c l w hR hl)
  by_cases hz : lineageE l = 0
  · have hlen := hR.len
    subst hlen
    obtain ⟨g, off, hg, hc⟩ := hR.cells
    obtain ⟨i0, hi0, hz0, hz1, hz2⟩ := info_parts info68
    have HI := Lib.hid (And.intro hi0 (And.intro hz0 (And.intro hz1 hz2)))
    clear hi0 hz0 hz1 hz2
    rw [show truncV l y = truncL y l from if_pos hz]
    rw [hz] at HCL
    have HG := Lib.hid hg
    have HC := Lib.hid hc
    clear hg hc hR hz
    go_enter Try.func27, Try.ntmps27
    go_wp2_with fail
    refine HCL.out.mono ?_
    rintro e W0 ⟨rfl, hb1⟩
    have hs1 := hb1.size
    go_wp2_with fail
    go_loopw [5, 6] (fun v i wr => ∃ k : Nat, k ≤ l.length ∧ i = .int .i64 k ∧ wr.ownsRow W0.heap.size 68 3 v (truncL y (l.take k)).length ((truncL y (l.take k)).flatMap encS) ∧ Below W0.heap.size W0 wr) (fun _ i _ => l.length - (intOf i).toNat)
    case atStart => exact ⟨0, by omega, rfl, World.ownsRow_nil _ _ 68 3, Below.refl _ _⟩
    case round =>
      obtain ⟨k, hk, rfl, hown, hbr⟩ := hrel
      have HO := Lib.hid hown
      clear hown
      by_cases hlt : k < l.length
      · obtain ⟨rfl, hgw⟩ := HG.out (by omega)
        have hl1 : g < W0.heap.size := by omega
        have ik : (k : Int) < l.length := by omega
        have hbwr := hb1.trans (hbr.mono (by omega))
        obtain ⟨d0, d1, d2⟩ := HC.out k hlt
        have e0 := (hbwr.cell (p := ⟨g, off + k * 3, none⟩) hgw).trans d0
        have e1 := (hbwr.cell (p := ⟨g, off + k * 3 + 1, none⟩) hgw).trans d1
        have e2 := (hbwr.cell (p := ⟨g, off + k * 3 + 2, none⟩) hgw).trans d2
        have HS := Lib.hid (truncL_take y l k hlt)
        have hln : (truncL y (l.take k)).length ≤ 1000 := by have := truncL_len y (l.take k); simp at this; omega
        clear d0 d1 d2
        generalize atS l k = s at *
        generalize truncL y (l.take k) = t at *
        by_cases c0 : s.f ≤ y
        · by_cases c1 : y < s.t
          · go_wp2_with fail
            go_region_held3 (fun w' => w'.cell? ⟨g, off + k * 3, none⟩ = some (.int .i64 s.e) ∧ w'.cell? ⟨g, off + k * 3 + 1, none⟩ = some (.int .i64 s.f) ∧ w'.cell? ⟨g, off + k * 3 + 2, none⟩ = some (.int .i64 s.t))
              (first
                | (go_keep; done)
                | (go_split_ands; exact ⟨(hba.cell hl1).trans e0, (hba.cell hl1).trans e1, (hba.cell hl1).trans e2⟩))
              ((refine step_append_elem wr.drew (by rfl) (.tmp 23) (.tmp 42) _ (by rfl) W0.heap.size 68 i0 _ 3 24 Try.underlying39 HI.out.1 HI.out.2.1 HI.out.2.2.1 HI.out.2.2.2 rfl (by omega) u5 t.length (t.flatMap encS) #[.int .i64 s.e, .int .i64 s.f, .int .i64 y] rfl (by rfl) (by rfl) HO.out (by simp [Value.oneCell']) (by simp only [maxLen]; omega) (by omega) hbr.size ?_; intro v2 w2 hown2 hba))
            rename_i hH
            clear hH
            have hown3 : w2.ownsRow W0.heap.size 68 3 v2 (truncL y (l.take (k + 1))).length ((truncL y (l.take (k + 1))).flatMap encS) := by
              rw [HS.out, if_pos c0, if_pos c1, List.flatMap_append, List.length_append]
              exact hown2
            go_wp2
            go_roundw
            case rel => exact ⟨k + 1, by omega, by go_num, hown3, hbr.drew.trans hba⟩
            case measure => simp [intOf]; omega
          · go_wp2_with fail
            go_region_held3 (fun w' => w'.cell? ⟨g, off + k * 3, none⟩ = some (.int .i64 s.e) ∧ w'.cell? ⟨g, off + k * 3 + 1, none⟩ = some (.int .i64 s.f) ∧ w'.cell? ⟨g, off + k * 3 + 2, none⟩ = some (.int .i64 s.t))
              (first
                | (go_keep; done)
                | (go_split_ands; exact ⟨(hba.cell hl1).trans e0, (hba.cell hl1).trans e1, (hba.cell hl1).trans e2⟩))
              ((refine step_append_elem wr.drew (by rfl) (.tmp 23) (.tmp 42) _ (by rfl) W0.heap.size 68 i0 _ 3 24 Try.underlying39 HI.out.1 HI.out.2.1 HI.out.2.2.1 HI.out.2.2.2 rfl (by omega) u5 t.length (t.flatMap encS) #[.int .i64 s.e, .int .i64 s.f, .int .i64 (if y < s.t then y else s.t)] rfl (by rfl) (by rfl) HO.out (by simp [Value.oneCell']) (by simp only [maxLen]; omega) (by omega) hbr.size ?_; intro v2 w2 hown2 hba))
            rename_i hH
            clear hH
            have hown3 : w2.ownsRow W0.heap.size 68 3 v2 (truncL y (l.take (k + 1))).length ((truncL y (l.take (k + 1))).flatMap encS) := by
              rw [HS.out, if_pos c0, List.flatMap_append, List.length_append]
              exact hown2
            go_wp2
            go_roundw
            case rel => exact ⟨k + 1, by omega, by go_num, hown3, hbr.drew.trans hba⟩
            case measure => simp [intOf]; omega
        · go_wp2_with fail
          go_roundw
          case rel => exact ⟨k + 1, by omega, by go_num, (by rw [HS.out, if_neg (by omega), List.append_nil]; exact HO.out), hbr⟩
          case measure => simp [intOf]; omega
      · obtain rfl : k = l.length := by omega
        obtain ⟨A2, c2, rfl, h2c, h2m, hr2⟩ := own_slice HO.out
        rw [List.take_length] at hr2
        have HR2 := Lib.hid hr2
        clear hr2
        go_wp2_with fail
        go_ret
        exact ⟨⟨_, _, _, rfl, by rw [List.take_length]; exact HR2.out⟩, hb1.trans (hbr.mono (by omega))⟩
  · rw [show truncV l y = [] from if_neg hz]
    obtain ⟨v, hvv⟩ : ∃ v, lineageE l = v := ⟨_, rfl⟩
    rw [hvv] at HCL hz
    have hz' : (v != 0) = true := by simpa using hz
    clear hvv hR
    go_enter Try.func27, Try.ntmps27
    go_wp2_with fail
    refine HCL.out.mono ?_
    rintro e w1 ⟨rfl, hb1⟩
    go_wp2_with fail
    go_ret
    exact ⟨⟨_, _, _, rfl, Reads.none_⟩, hb1⟩
end Go.Proofs.Ytnhemndpnjhbfaa
