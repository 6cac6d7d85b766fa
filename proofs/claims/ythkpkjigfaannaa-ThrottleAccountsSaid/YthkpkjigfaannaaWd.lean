/- The walk of the reference Check. Condition: at most 1000 marks. -/
import Derived.Test.YthkpkjigfaannaaMath
namespace Go.Proofs.Ythkpkjigfaannaa
open Go.RowKit
structure RcI (w : World) (o r t b : Int) (A : Option Addr) (n c : Nat) (wr : World) : Prop where
  a : Blk wr w.heap.size 24 #[.int .i64 o, .int .i64 r, .int .i64 t, .int .i64 b, .slice A n c]
  bel : Below w.heap.size w wr
theorem RcI.facts {w : World} {o r t b : Int} {A : Option Addr} {n c : Nat} {wr : World} (h : RcI w o r t b A n c wr) :
    wr.cell? ⟨w.heap.size, 0, none⟩ = some (.int .i64 o) ∧ wr.cell? ⟨w.heap.size, 1, none⟩ = some (.int .i64 r) ∧ wr.cell? ⟨w.heap.size, 2, none⟩ = some (.int .i64 t) ∧ wr.cell? ⟨w.heap.size, 3, none⟩ = some (.int .i64 b) ∧ wr.cell? ⟨w.heap.size, 4, none⟩ = some (.slice A n c) ∧ w.heap.size < wr.heap.size :=
  ⟨h.a.cell 0, h.a.cell 1, h.a.cell 2, h.a.cell 3, h.a.cell 4, h.a.lt⟩
theorem RcI.alloc {w : World} {o r t b : Int} {A : Option Addr} {n c : Nat} {wr : World} (h : RcI w o r t b A n c wr) (x : Obj) : RcI w o r t b A n c (wr.alloc x) := ⟨h.a.alloc x, h.bel.alloc h.bel.size x⟩
theorem RcI.drewN {w : World} {o r t b : Int} {A : Option Addr} {n c : Nat} {wr : World} (h : RcI w o r t b A n c wr) (k : Nat) : RcI w o r t b A n c (wr.drewN k) := ⟨h.a.drewN k, below_drewN h.bel k⟩
theorem RcI.new (w : World) (o r t b : Int) (A : Option Addr) (n c : Nat) : RcI w o r t b A n c (w.alloc (.cells #[.int .i64 o, .int .i64 r, .int .i64 t, .int .i64 b, .slice A n c] 24)) := ⟨Blk.new _ _ _, (Below.refl _ w).alloc (Nat.le_refl _) _⟩
set_option maxRecDepth 100000 in
set_option maxHeartbeats 4000000 in
theorem refCheck_any (o r t b : Int) (A : Option Addr) (n c : Nat) (l : List Mk) (w : World) (hR : RdM w A n l) (hn : n ≤ 1000) :
    Calls Try.prog 16 #[.agg #[.int .i64 o, .int .i64 r, .int .i64 t, .int .i64 b, .slice A n c]] w fun e w' => e = .returned (.int .i64 (chkTh o r t b l)) ∧ Below w.heap.size w w' := by
  have hlen := hR.len
  subst hlen
  have HI0 := Lib.hid (RcI.new w o r t b A l.length c)
  have HR := Lib.hid hR
  clear hR
  by_cases hok : 1 ≤ o ∧ o ≤ 1073741824 ∧ 1 ≤ r ∧ r ≤ 4096 ∧ 0 ≤ t ∧ t ≤ 1073741824
  · have hokB : (okN o r && betwB t 0 1073741824) = true := by
      obtain ⟨h1, h2, h3, h4, h5, h6⟩ := hok
      simp only [okN, betwB, Bool.and_eq_true, decide_eq_true_eq]
      exact ⟨⟨⟨h1, h2⟩, h3, h4⟩, h5, h6⟩
    have HQ : Hid (chkTh o r t b l = if marksB t ⟨-1, 0⟩ l then chkO b l else 3) := by rw [Hid, chkTh, hokB]; rfl
    obtain ⟨h1, h2, h3, h4, h5, h6⟩ := hok
    have hlm : (l.length : Int) ≤ 4096 := by omega
    clear hokB
    go_enter Try.func16, Try.ntmps16
    go_wp2_with fail
    go_loopw [3, 4, 5] (fun u v i wr => ∃ (k : Nat) (p : Mk), k ≤ l.length ∧ i = .int .i64 k ∧ u = .int .i64 p.t ∧ v = .int .i64 p.n ∧ p = lastM ⟨-1, 0⟩ (l.take k) ∧ marksB t ⟨-1, 0⟩ l = marksB t p (l.drop k) ∧ (-1 ≤ p.t ∧ p.t ≤ 1073741824 ∧ 0 ≤ p.n ∧ p.n ≤ 1073741824) ∧ RcI w o r t b A l.length c wr) (fun _ _ i _ => l.length - (intOf i).toNat)
    case atStart => exact ⟨0, ⟨-1, 0⟩, by omega, rfl, rfl, rfl, rfl, rfl, by simp, HI0.out⟩
    clear HI0
    case round =>
      obtain ⟨k, p, hk, rfl, rfl, rfl, hp, hm, ⟨p1, p2, p3, p4⟩, hI⟩ := hrel
      have HI := Lib.hid hI
      have HP := Lib.hid (And.intro hp hm)
      clear hI hp hm
      obtain ⟨f0, f1, f2, f3, f4, lw⟩ := HI.out.facts
      by_cases hlt : k < l.length
      · obtain ⟨g, off, hg, hc⟩ := HR.out.cells
        obtain ⟨rfl, hgw⟩ := hg (by omega)
        obtain ⟨d0, d1⟩ := hc k hlt
        replace d0 := (HI.out.bel.cell (p := ⟨g, off + k * 2, none⟩) hgw).trans d0
        replace d1 := (HI.out.bel.cell (p := ⟨g, off + k * 2 + 1, none⟩) hgw).trans d1
        have ik : (k : Int) < l.length := by omega
        have HD := Lib.hid (marksB_drop t p l k hlt)
        have HT := Lib.hid (lastM_take ⟨-1, 0⟩ l k hlt)
        clear hc hg
        generalize atM l k = m at *
        obtain ⟨pt, pn⟩ := p
        obtain ⟨mt, mn⟩ := m
        change wr.cell? ⟨g, off + k * 2, none⟩ = some (.int .i64 mt) at d0
        change wr.cell? ⟨g, off + k * 2 + 1, none⟩ = some (.int .i64 mn) at d1
        change -1 ≤ pt at p1
        change pt ≤ _ at p2
        change 0 ≤ pn at p3
        change pn ≤ _ at p4
        by_cases hb : (pt < mt ∧ mt ≤ t) ∧ pn < mn ∧ mn ≤ 1073741824
        · have HB : Hid ((betwB mt (pt + 1) t && betwB mn (pn + 1) 1073741824) = true) := by simp [Hid, betwB]; omega
          obtain ⟨⟨b1, b2⟩, b3, b4⟩ := hb
          go_wp2_with fail
          go_quiet (fail)
          go_wp2_with fail
          go_roundw
          case rel => exact ⟨k + 1, ⟨mt, mn⟩, by omega, by go_num, rfl, rfl, HT.out.symm, by rw [HP.out.2, HD.out, HB.out]; rfl, ⟨by show -1 ≤ mt; omega, by show mt ≤ _; omega, by show 0 ≤ mn; omega, by show mn ≤ _; omega⟩, (HI.out.alloc _).drewN _⟩
          case measure => simp [intOf]; omega
        · have HB : Hid ((betwB mt (pt + 1) t && betwB mn (pn + 1) 1073741824) = false) := by simp [Hid, betwB]; omega
          have HQ3 : Hid (chkTh o r t b l = 3) := by rw [Hid, HQ.out, HP.out.2, HD.out, HB.out]; rfl
          by_cases b1 : pt < mt
          · by_cases b2 : mt ≤ t
            · by_cases b3 : pn < mn
              · have b4 : ¬ mn ≤ 1073741824 := fun h => hb ⟨⟨b1, b2⟩, b3, h⟩
                clear hb
                go_wp2_with fail
                go_ret
                exact ⟨ret_int HQ3.out.symm, (HI.out.alloc _).bel⟩
              · clear hb
                go_wp2_with fail
                go_ret
                exact ⟨ret_int HQ3.out.symm, (HI.out.alloc _).bel⟩
            · clear hb
              go_wp2_with fail
              go_ret
              exact ⟨ret_int HQ3.out.symm, (HI.out.alloc _).bel⟩
          · clear hb
            go_wp2_with fail
            go_ret
            exact ⟨ret_int HQ3.out.symm, (HI.out.alloc _).bel⟩
      · obtain rfl : k = l.length := by omega
        have hmk : marksB t ⟨-1, 0⟩ l = true := by rw [HP.out.2, List.drop_length]; rfl
        have hpl : p = lastM ⟨-1, 0⟩ l := by have := HP.out.1; rwa [List.take_length] at this
        have HQ2 : Hid (chkTh o r t b l = chkO b l) := by rw [Hid, HQ.out, hmk]; rfl
        have HPN : Hid (totM l = p.n) := by rw [Hid, totM, hpl]
        have HLW := Lib.hid (fun T => belowE_law (T := T) hmk)
        obtain ⟨pt, pn⟩ := p
        change 0 ≤ pn at p3
        change pn ≤ _ at p4
        clear hmk hpl HQ HP p1 p2
        by_cases c1 : 0 ≤ b
        · by_cases c2 : b ≤ pn
          · have HQ3 : Hid (chkTh o r t b l = belowE (pn - b) l) := by
              have h9 : betwB b 0 pn = true := by simp [betwB]; omega
              rw [Hid, HQ2.out, chkO, HPN.out, h9, HLW.out]
              rfl
            clear HQ2 HLW HPN
            go_wp2_with fail
            go_loopw [7] (fun i wr => ∃ k : Nat, k ≤ l.length ∧ i = .int .i64 k ∧ belowE (pn - b) l = belowE (pn - b) (l.drop k) ∧ RcI w o r t b A l.length c wr) (fun i _ => l.length - (intOf i).toNat)
            case atStart => exact ⟨0, by omega, rfl, rfl, HI.out⟩
            clear HI f0 f1 f2 f3 f4 lw
            case round =>
              obtain ⟨k, hk, rfl, hbe, hI⟩ := hrel
              have HI := Lib.hid hI
              have HBE := Lib.hid hbe
              clear hI hbe
              obtain ⟨f0, f1, f2, f3, f4, lw⟩ := HI.out.facts
              by_cases hk1 : k + 1 < l.length
              · obtain ⟨g, off, hg, hc⟩ := HR.out.cells
                obtain ⟨rfl, hgw⟩ := hg (by omega)
                obtain ⟨_, d1⟩ := hc k (by omega)
                replace d1 := (HI.out.bel.cell (p := ⟨g, off + k * 2 + 1, none⟩) hgw).trans d1
                have ik : (k : Int) + 1 < l.length := by omega
                have HD := Lib.hid (belowE_drop (pn - b) l k hk1)
                clear hc hg
                generalize atM l k = m at *
                obtain ⟨mt, mn⟩ := m
                change wr.cell? ⟨g, off + k * 2 + 1, none⟩ = some (.int .i64 mn) at d1
                by_cases hm : mn ≤ pn - b
                · go_wp2_with fail
                  go_quiet (fail)
                  go_wp2_with fail
                  go_ret
                  exact ⟨ret_int (by rw [HQ3.out, HBE.out, HD.out, if_pos hm]), (HI.out.drewN _).bel⟩
                · go_wp2_with fail
                  go_quiet (fail)
                  go_wp2_with fail
                  go_roundw
                  case rel => exact ⟨k + 1, by omega, by go_num, by rw [HBE.out, HD.out, if_neg (by omega)], HI.out.drewN _⟩
                  case measure => simp [intOf]; omega
              · have ik : ¬ (k : Int) + 1 < l.length := by omega
                go_wp2_with fail
                go_ret
                exact ⟨ret_int (by rw [HQ3.out, HBE.out, belowE_end _ _ _ (by omega)]), HI.out.bel⟩
          · have HQ3 : Hid (chkTh o r t b l = 2) := by
              have h9 : betwB b 0 pn = false := by simp [betwB]; omega
              rw [Hid, HQ2.out, chkO, HPN.out, h9]; rfl
            go_wp2_with fail
            go_ret
            exact ⟨ret_int HQ3.out.symm, HI.out.bel⟩
        · have HQ3 : Hid (chkTh o r t b l = 2) := by
            have h9 : betwB b 0 pn = false := by simp [betwB]; omega
            rw [Hid, HQ2.out, chkO, HPN.out, h9]; rfl
          go_wp2_with fail
          go_ret
          exact ⟨ret_int HQ3.out.symm, HI.out.bel⟩
  · have hokB : (okN o r && betwB t 0 1073741824) = false := by
      simp only [okN, betwB]
      rw [Bool.eq_false_iff]
      intro h
      simp only [Bool.and_eq_true, decide_eq_true_eq] at h
      exact hok ⟨h.1.1.1, h.1.1.2, h.1.2.1, h.1.2.2, h.2.1, h.2.2⟩
    have HQ : Hid (chkTh o r t b l = 2) := by rw [Hid, chkTh, hokB]; rfl
    clear hokB
    by_cases h1 : 1 ≤ o
    · by_cases h2 : o ≤ 1073741824
      · by_cases h3 : 1 ≤ r
        · by_cases h4 : r ≤ 4096
          · by_cases h5 : 0 ≤ t
            · have h6 : ¬ t ≤ 1073741824 := fun h6 => hok ⟨h1, h2, h3, h4, h5, h6⟩
              clear hok
              go_enter Try.func16, Try.ntmps16
              go_wp2_with fail
              go_ret
              exact ⟨ret_int HQ.out.symm, HI0.out.bel⟩
            · clear hok
              go_enter Try.func16, Try.ntmps16
              go_wp2_with fail
              go_ret
              exact ⟨ret_int HQ.out.symm, HI0.out.bel⟩
          · clear hok
            go_enter Try.func16, Try.ntmps16
            go_wp2_with fail
            go_ret
            exact ⟨ret_int HQ.out.symm, HI0.out.bel⟩
        · clear hok
          go_enter Try.func16, Try.ntmps16
          go_wp2_with fail
          go_ret
          exact ⟨ret_int HQ.out.symm, HI0.out.bel⟩
      · clear hok
        go_enter Try.func16, Try.ntmps16
        go_wp2_with fail
        go_ret
        exact ⟨ret_int HQ.out.symm, HI0.out.bel⟩
    · clear hok
      go_enter Try.func16, Try.ntmps16
      go_wp2_with fail
      go_ret
      exact ⟨ret_int HQ.out.symm, HI0.out.bel⟩
end Go.Proofs.Ythkpkjigfaannaa
