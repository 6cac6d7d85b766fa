/- The walk of the laws' extended; Same of a literal. Condition: at most 100 steps. -/
import Derived.Test.YtnhemndpnjhbfaaWt
namespace Go.Proofs.Ytnhemndpnjhbfaa
open Go.RowKit Go.Shelf
theorem below_step {X W w' : World} (h : Below X.heap.size X W) (hb : Below W.heap.size W w') : Below X.heap.size X w' := h.trans (hb.mono h.size)
/-- a lineage extended by some steps -/
def runX : List (Int × Int) → List Span → Option (List Span)
  | [], l => some l
  | p :: q, l => if extE l p.1 p.2 = 0 then runX q (extL l p.1 p.2) else none
theorem runX_step {q : List (Int × Int)} {k : Nat} {l L : List Span} (h : k < q.length) (hr : runX (q.drop k) l = some L) : extE l q[k].1 q[k].2 = 0 ∧ runX (q.drop (k + 1)) (extL l q[k].1 q[k].2) = some L := by
  rw [List.drop_eq_getElem_cons h, runX] at hr
  split at hr
  · exact ⟨by assumption, hr⟩
  · cases hr
theorem extL_len (l : List Span) (n c : Int) : (extL l n c).length ≤ l.length + 1 := by
  unfold extL
  split <;> simp
theorem two_cells {B b0 o0 b1 o1 : Nat} {X w' : World} {v0 v1 : Value} (hB : Below B X w') (h0 : X.cell? ⟨b0, o0, none⟩ = some v0) (h1 : X.cell? ⟨b1, o1, none⟩ = some v1) (l0 : b0 < B) (l1 : b1 < B) :
    w'.cell? ⟨b0, o0, none⟩ = some v0 ∧ w'.cell? ⟨b1, o1, none⟩ = some v1 ∧ Below B X w' :=
  ⟨(hB.cell (p := ⟨b0, o0, none⟩) l0).trans h0, (hB.cell (p := ⟨b1, o1, none⟩) l1).trans h1, hB⟩
set_option maxRecDepth 100000 in
set_option maxHeartbeats 2000000 in
theorem extended_any (g c : Nat) (q : List (Int × Int)) (L : List Span) (w : World) (hg : g < w.heap.size) (hq : q.length ≤ 100)
    (hc : ∀ i (h : i < q.length), w.cell? ⟨g, i * 2, none⟩ = some (.int .i64 q[i].1) ∧ w.cell? ⟨g, i * 2 + 1, none⟩ = some (.int .i64 q[i].2)) (hr : runX q [] = some L) :
    Calls Try.prog 33 #[.slice (some ⟨g, 0, none⟩) q.length c] w fun e w' => (∃ A n c, e = .returned (.tuple #[.slice A n c, .bool true]) ∧ RdS w' A n L ∧ n ≤ c ∧ c ≤ maxLen) ∧ Below w.heap.size w w' := by
  obtain ⟨m, hm⟩ : ∃ m, q.length = m := ⟨_, rfl⟩
  rw [hm] at hq ⊢
  have HM := Lib.hid hm
  have HC := Lib.hid hc
  clear hm hc
  go_enter Try.func33, Try.ntmps33
  go_wp2_with fail
  go_loopw [4, 5] (fun v i wr => ∃ (k : Nat) (l : List Span) (A : Option Addr) (n c : Nat), k ≤ m ∧ i = .int .i64 k ∧ v = .slice A n c ∧ (RdS wr A n l ∧ n ≤ c ∧ c ≤ maxLen) ∧ n ≤ k ∧ runX (q.drop k) l = some L ∧ Below w.heap.size w wr) (fun _ i _ => m - (intOf i).toNat)
  case atStart => exact ⟨0, [], none, 0, 0, by omega, rfl, rfl, RdS.nil _, by omega, hr, Below.refl _ _⟩
  case round =>
    obtain ⟨k, l, A, n, c, hk, rfl, rfl, hR, hn, hrun, hb⟩ := hrel
    have HR := Lib.hid hR
    have HRUN := Lib.hid hrun
    clear hR hrun
    by_cases hlt : k < m
    · have hkl : k < q.length := by rw [HM.out]; exact hlt
      obtain ⟨d0, d1⟩ := HC.out k hkl
      replace d0 := (hb.cell (p := ⟨g, k * 2, none⟩) hg).trans d0
      replace d1 := (hb.cell (p := ⟨g, k * 2 + 1, none⟩) hg).trans d1
      have HS := Lib.hid (runX_step hkl HRUN.out)
      generalize q[k] = p at *
      obtain ⟨p1, p2⟩ := p
      change wr.cell? ⟨g, k * 2, none⟩ = some (.int .i64 p1) at d0
      change wr.cell? ⟨g, k * 2 + 1, none⟩ = some (.int .i64 p2) at d1
      have hgr : g < wr.heap.size := Nat.lt_of_lt_of_le hg hb.size
      have ik : (k : Int) < m := by omega
      go_wp2_with fail
      go_region_held3 (fun w' => w'.cell? ⟨g, k * 2, none⟩ = some (.int .i64 p1) ∧ w'.cell? ⟨g, k * 2 + 1, none⟩ = some (.int .i64 p2) ∧ Below wr.heap.size wr w')
        (first
          | exact two_cells ((Below.refl _ wr).drew) d0 d1 hgr hgr
          | (go_split_ands; refine two_cells (below_step ?_ hb') d0 d1 hgr hgr; assumption))
        (((go_at_call 28; refine (Extend_any _ _ _ _ _ l _ (HR.out.1.up ?_) (by omega)).mono ?_; (go_split_ands; assumption); rintro e w' ⟨⟨A', n', c', rfl, hR'⟩, hb'⟩)))
      rename_i hH
      have HH := Lib.hid hH
      clear hH
      have he : extE l p1 p2 = 0 := HS.out.1
      have hrn : runX (q.drop (k + 1)) (extL l p1 p2) = some L := HS.out.2
      rw [show extV l p1 p2 = extL l p1 p2 from if_pos he] at hR'
      rw [he]
      have hn' : n' ≤ k + 1 := by
        have h1 := extL_len l p1 p2
        have h2 := hR'.1.len
        have h3 := HR.out.1.len
        omega
      have HR2 := Lib.hid (And.intro hR' hrn)
      clear hR' hrn he
      go_wp2_with fail
      go_roundw
      case rel => exact ⟨k + 1, extL l p1 p2, A', n', c', by omega, by go_num, rfl, HR2.out.1, hn', HR2.out.2, hb.trans (HH.out.2.2.mono hb.size)⟩
      case measure => simp [intOf]; omega
    · have hkm : k = q.length := by have := HM.out; omega
      have hL : l = L := by
        have h := HRUN.out
        rw [hkm, List.drop_length, runX] at h
        exact Option.some.inj h
      rw [hL] at HR
      clear hkm hL
      go_wp2_with fail
      go_ret2
      exact ⟨⟨_, _, _, rfl, HR.out⟩, hb⟩
/-- a lineage laid at once -/
theorem RdS.lit (w : World) (l : List Span) (cells : Array Value) (h : cells = (l.flatMap encS).toArray) (n : Nat) (hn : l.length = n) : RdS (w.alloc (.cells cells 68)) (some ⟨w.heap.size, 0, none⟩) n l := by
  subst h hn
  exact Blk.reads (Blk.new w 68 (l.flatMap encS).toArray) (by rw [List.size_toArray, encS_len])
end Go.Proofs.Ytnhemndpnjhbfaa
