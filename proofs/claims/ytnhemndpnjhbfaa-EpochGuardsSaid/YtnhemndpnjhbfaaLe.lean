/- The walk of the law EpochGuards. No condition. -/
import Derived.Test.YtnhemndpnjhbfaaLa
import Derived.Test.YtnhemndpnjhbfaaMathG
namespace Go.Proofs.Ytnhemndpnjhbfaa
open Go.RowKit Go.Shelf
def boolV (b : Bool) : Value := .bool b
/-- the fence and the epochs that are over, in their two blocks -/
structure GuI (w : World) (G H : Nat) (x o : Int) (c : Bool) (ov : List Bool) (wr : World) : Prop where
  fen : Blk wr G 23 #[.int .i64 x, .int .i64 o, .bool c]
  ovr : Blk wr H 53 (ov.map boolV).toArray
  inv : Fen x o c ov
  bel : Below w.heap.size w wr
theorem GuI.keep {w : World} {G H : Nat} {x o : Int} {c : Bool} {ov : List Bool} {wr w' : World} (h : GuI w G H x o c ov wr) (hb : Below wr.heap.size wr w') : GuI w G H x o c ov w' :=
  ⟨h.fen.below hb h.fen.lt, h.ovr.below hb h.ovr.lt, h.inv, h.bel.trans (hb.mono h.bel.size)⟩
theorem GuI.facts {w : World} {G H : Nat} {x o : Int} {c : Bool} {ov : List Bool} {wr : World} (h : GuI w G H x o c ov wr) :
    wr.cell? ⟨G, 0, none⟩ = some (.int .i64 x) ∧ wr.cell? ⟨G, 1, none⟩ = some (.int .i64 o) ∧ wr.cell? ⟨G, 2, none⟩ = some (.bool c) ∧ G < wr.heap.size ∧ H < wr.heap.size :=
  ⟨h.fen.cell 0, h.fen.cell 1, h.fen.cell 2, h.fen.lt, h.ovr.lt⟩
theorem GuI.over {w : World} {G H : Nat} {x o : Int} {c : Bool} {ov : List Bool} {wr : World} (h : GuI w G H x o c ov wr) {n : Nat} {b : Bool} (hn : ov[n]? = some b) : wr.cell? ⟨H, n, none⟩ = some (.bool b) ∧ wr.frozen? ⟨H, n, none⟩ = false := by
  refine ⟨(h.ovr.cell n).trans ?_, h.ovr.frozen n⟩
  simp [hn, boolV]
theorem GuI.mark {w : World} {G H : Nat} {x o : Int} {c : Bool} {ov : List Bool} {wr : World} (h : GuI w G H x o c ov wr) (hG : G ≠ H) (hH : w.heap.size ≤ H) {n : Nat} (hi : Fen x o c (ov.set n true)) : GuI w G H x o c (ov.set n true) (wr.setCell ⟨H, n, none⟩ (.bool true)) := by
  refine ⟨h.fen.far hG _, ?_, hi, h.bel.setCell (p := ⟨H, n, none⟩) hH _⟩
  have := h.ovr.set_ n (.bool true)
  simpa [boolV, List.map_set] using this
theorem stp_cells {w : World} {A : Option Addr} {n : Nat} {l : List Stp} (h : Reads w w.heap.size 3 A n (l.flatMap encStp)) : l.length = n ∧ ∃ g off, (0 < n → A = some ⟨g, off, none⟩ ∧ g < w.heap.size) ∧ ∀ i (h : i < l.length), w.cell? ⟨g, off + i * 3, none⟩ = some (.int .u8 l[i].e) ∧ w.cell? ⟨g, off + i * 3 + 1, none⟩ = some (.int .u8 l[i].o) ∧ w.cell? ⟨g, off + i * 3 + 2, none⟩ = some (.bool l[i].s) := by
  have hl : l.length = n := Reads.count h (fun _ => rfl) (by omega)
  refine ⟨hl, ?_⟩
  by_cases h0 : 0 < n
  · obtain ⟨g, off, e, hg, hc⟩ := h.elems3 (fun _ => rfl) h0
    exact ⟨g, off, fun _ => ⟨e, hg⟩, fun i hi => hc i hi _ _ _ rfl⟩
  · exact ⟨0, 0, fun h => absurd h h0, fun i hi => by omega⟩
theorem GuI.put {w : World} {G H : Nat} {x o : Int} {c : Bool} {ov : List Bool} {wr : World} (h : GuI w G H x o c ov wr) (hG : G ≠ H) (hw : w.heap.size ≤ G) {x' o' : Int} {c' : Bool} (hi : Fen x' o' c' ov) :
    GuI w G H x' o' c' ov (((wr.setCell ⟨G, 0, none⟩ (.int .i64 x')).setCell ⟨G, 1, none⟩ (.int .i64 o')).setCell ⟨G, 2, none⟩ (.bool c')) := by
  refine ⟨?_, ((h.ovr.far (p := ⟨G, 0, none⟩) (fun q => hG q.symm) _).far (p := ⟨G, 1, none⟩) (fun q => hG q.symm) _).far (p := ⟨G, 2, none⟩) (fun q => hG q.symm) _, hi, ((h.bel.setCell (p := ⟨G, 0, none⟩) hw _).setCell (p := ⟨G, 1, none⟩) hw _).setCell (p := ⟨G, 2, none⟩) hw _⟩
  exact ((h.fen.set_ 0 (.int .i64 x')).set_ 1 (.int .i64 o')).set_ 2 (.bool c')
theorem GuI.new {w : World} {G H : Nat} {x o : Int} {c : Bool} {ov : List Bool} {wr : World} (h : GuI w G H x o c ov wr) (b : Obj) : GuI w G H x o c ov (wr.alloc b) :=
  h.keep ((Below.refl _ wr).alloc (Nat.le_refl _) b)
theorem Fen.shut0 {x o : Int} {c : Bool} {ov : List Bool} (h : Fen x o c ov) {n : Nat} (hn : x ≤ n) (hn2 : n ≤ 31) : Fen n o true ov := by
  obtain ⟨h1, h2, h3, h4, h5, h6⟩ := h
  refine ⟨by omega, by omega, h3, h4, h5, fun m hm => ⟨?_, fun _ => rfl⟩⟩
  have := (h6 m hm).1; omega
theorem three_set {wr w' : World} {a b : Int} {c : Bool} (hb : Below (wr.drew.alloc (.cells #[.int .i64 0, .int .i64 0, .bool false] 23)).heap.size (wr.drew.alloc (.cells #[.int .i64 0, .int .i64 0, .bool false] 23)) w') :
    Blk (((w'.setCell ⟨wr.heap.size, 0, none⟩ (.int .i64 a)).setCell ⟨wr.heap.size, 1, none⟩ (.int .i64 b)).setCell ⟨wr.heap.size, 2, none⟩ (.bool c)) wr.heap.size 23 #[.int .i64 a, .int .i64 b, .bool c] := by
  have h0 : Blk (wr.drew.alloc (.cells #[.int .i64 0, .int .i64 0, .bool false] 23)) wr.heap.size 23 #[.int .i64 0, .int .i64 0, .bool false] := Blk.new wr.drew 23 _
  exact (((h0.below hb h0.lt).set_ 0 (.int .i64 a)).set_ 1 (.int .i64 b)).set_ 2 (.bool c)
theorem three_far {w : World} {G g k : Nat} {a b c : Value} (h : g ≠ G) : (((w.setCell ⟨G, 0, none⟩ a).setCell ⟨G, 1, none⟩ b).setCell ⟨G, 2, none⟩ c).cell? ⟨g, k, none⟩ = w.cell? ⟨g, k, none⟩ := by
  have e : ∀ (w : World) (i : Nat) (u : Value), (w.setCell ⟨G, i, none⟩ u).cell? ⟨g, k, none⟩ = w.cell? ⟨g, k, none⟩ := fun w i u => by
    have := Below.heap_setCell w ⟨G, i, none⟩ u g h
    simp only [World.cell?, this]
  rw [e, e, e]
theorem sz_le (w : World) (o : Obj) : w.heap.size ≤ (w.alloc o).heap.size := by simp
theorem below_new {X W : World} (h : Below X.heap.size X W) (b : Obj) : Below X.heap.size X (W.alloc b) := h.alloc h.size b
theorem four_cells {B b0 o0 b1 o1 b2 o2 b3 o3 : Nat} {X w' : World} {v0 v1 v2 v3 : Value} (hB : Below B X w') (h0 : X.cell? ⟨b0, o0, none⟩ = some v0) (h1 : X.cell? ⟨b1, o1, none⟩ = some v1) (h2 : X.cell? ⟨b2, o2, none⟩ = some v2) (h3 : X.cell? ⟨b3, o3, none⟩ = some v3) (l0 : b0 < B) (l1 : b1 < B) (l2 : b2 < B) (l3 : b3 < B) :
    w'.cell? ⟨b0, o0, none⟩ = some v0 ∧ w'.cell? ⟨b1, o1, none⟩ = some v1 ∧ w'.cell? ⟨b2, o2, none⟩ = some v2 ∧ w'.cell? ⟨b3, o3, none⟩ = some v3 ∧ Below B X w' :=
  ⟨(hB.cell (p := ⟨b0, o0, none⟩) l0).trans h0, (hB.cell (p := ⟨b1, o1, none⟩) l1).trans h1, (hB.cell (p := ⟨b2, o2, none⟩) l2).trans h2, (hB.cell (p := ⟨b3, o3, none⟩) l3).trans h3, hB⟩
set_option maxRecDepth 100000 in
set_option maxHeartbeats 4000000 in
theorem walkEpochGuards (w : World) (v0 : Value) (h0 : Arg52 w v0) : Calls Try.prog 7 #[v0] w fun e w' => e = .returned (.bool true) ∧ Below w.heap.size w w' := by
  obtain ⟨A, n, c, l, rfl, hR, hl, hnc, hcm⟩ := h0
  have hn63 : n ≤ 9223372036854775807 := by unfold maxLen at hcm; omega
  by_cases c0 : 30 < n
  · have c1 : (30 : Int) < n := by omega
    go_enter Try.func7, Try.ntmps7
    go_wp2_with fail
    refine (awake_any _).mono ?_
    rintro e w1 ⟨rfl, hb1⟩
    go_wp2_with fail
    go_ret
    exact ⟨rfl, hb1⟩
  · have c1 : ¬ (30 : Int) < n := by omega
    obtain ⟨hln, g, off, hg, hc⟩ := stp_cells hR
    subst hln
    have HC := Lib.hid (And.intro hg hc)
    clear hg hc hR hl
    go_enter Try.func7, Try.ntmps7
    go_wp2_with fail
    refine (New_any 0 0 w).mono ?_
    rintro e w1 ⟨rfl, hb1⟩
    rw [show checkF 0 0 = 0 by kernel_rfl, show fenceB 0 0 = true by kernel_rfl, if_pos rfl]
    go_wp2_with fail
    have hs1 := hb1.size
    have h2 : (w1.alloc (.cells #[.int .i64 0, .int .i64 0, .bool false] 23)).heap.size = w1.heap.size + 1 := by simp
    have hI0 := GuI.mk (w := w) ((Blk.new w1 23 #[.int .i64 0, .int .i64 0, .bool false]).alloc (.cells ((List.replicate 40 false).map boolV).toArray 53)) (Blk.new (w1.alloc (.cells #[.int .i64 0, .int .i64 0, .bool false] 23)) 53 ((List.replicate 40 false).map boolV).toArray) fen_init ((hb1.alloc hs1 _).alloc (by rw [h2]; omega) _)
    rw [h2] at hI0
    have HI0 := Lib.hid hI0
    clear hI0 h2
    go_loopw [6] (fun i wr => ∃ (k : Nat) (x o : Int) (c : Bool) (ov : List Bool), k ≤ l.length ∧ i = .int .i64 k ∧ GuI w w1.heap.size (w1.heap.size + 1) x o c ov wr) (fun i _ => l.length + 1 - (intOf i).toNat)
    case atStart => exact ⟨0, 0, 0, false, _, by omega, rfl, HI0.out⟩
    clear HI0
    obtain ⟨G, hG⟩ : ∃ G, w1.heap.size = G := ⟨_, rfl⟩
    rw [hG] at hs1
    case round =>
      rw [hG] at hrel
      obtain ⟨k, x, o, c, ov, hk, rfl, hI⟩ := hrel
      rw [hG]
      clear hG hb1
      have HI := Lib.hid hI
      clear hI
      obtain ⟨f0, f1, f2, lG, lH⟩ := HI.out.facts
      have ik : (k : Int) ≤ l.length := by omega
      go_wp2_with fail
      go_loopw [7, 8] (fun a i wr => ∃ (k2 : Nat) (ov : List Bool), k2 ≤ 40 ∧ i = .int .i64 k2 ∧ a = .int .i64 (cntF c x o k2 0) ∧ GuI w G (G + 1) x o c ov wr) (fun _ i _ => 40 - (intOf i).toNat)
      case atStart => exact ⟨0, ov, by omega, rfl, by rw [cntF_zero HI.out.inv], HI.out⟩
      clear f0 f1 f2 lG lH HI
      case round =>
        obtain ⟨k2, ov, hk2, rfl, rfl, hI⟩ := hrel
        have HI := Lib.hid hI
        clear hI
        by_cases hl2 : k2 < 40
        · have il2 : (k2 : Int) < 40 := by omega
          go_wp2_with fail
          go_loopw [7, 9] (fun a i wr => ∃ j : Nat, j ≤ 4 ∧ i = .int .i64 j ∧ a = .int .i64 (cntF c x o k2 j) ∧ GuI w G (G + 1) x o c ov wr) (fun _ i _ => 4 - (intOf i).toNat)
          case atStart => exact ⟨0, by omega, rfl, rfl, HI.out⟩
          clear HI
          case round =>
            obtain ⟨j, hj, rfl, rfl, hI⟩ := hrel
            have HI := Lib.hid hI
            clear hI
            obtain ⟨f0, f1, f2, lG, lH⟩ := HI.out.facts
            by_cases hj4 : j < 4
            · have ij4 : (j : Int) < 4 := by omega
              by_cases hy : c = false ∧ (k2 : Int) = x ∧ (j : Int) = o
              · obtain ⟨rfl, hx, ho⟩ := hy
                have HAV : Hid (admitV x o false k2 j = 0) := by rw [Hid, hx, ho]; exact admit_yes HI.out.inv
                have HCN := Lib.hid (cnt_yes hx ho)
                obtain ⟨ho1, ho2⟩ := HI.out.over (HI.out.inv.not_over hx)
                clear hx ho
                rw [HCN.out.1]
                go_wp2_with fail
                refine (Admit_any x o _ _ false wr).mono ?_
                rintro e w2 ⟨rfl, hb2⟩
                rw [HAV.out]
                have ho3 := (hb2.cell (p := ⟨G + 1, k2, none⟩) lH).trans ho1
                clear ho1 ho2 f0 f1 f2
                go_wp2_with fail
                go_roundw
                case rel => exact ⟨j + 1, by omega, by go_num, by rw [HCN.out.2], HI.out.keep hb2⟩
                case measure => simp [intOf]; omega
              · obtain ⟨v, hv, hv0⟩ := admit_no HI.out.inv hy
                have HAV := Lib.hid hv
                have HCN := Lib.hid (cnt_no (s := j) hy)
                clear hv hy
                go_wp2_with fail
                refine (Admit_any x o _ _ c wr).mono ?_
                rintro e w2 ⟨rfl, hb2⟩
                rw [HAV.out]
                clear f0 f1 f2
                go_wp2_with fail
                go_roundw
                case rel => exact ⟨j + 1, by omega, by go_num, by rw [HCN.out], HI.out.keep hb2⟩
                case measure => simp [intOf]; omega
            · obtain rfl : j = 4 := by omega
              have HCN := Lib.hid (cntF_next HI.out.inv k2)
              by_cases hm : (k2 : Int) < x
              · have hlen := HI.out.inv.2.2.2.2.1
                obtain ⟨ho1, ho2⟩ := HI.out.over (n := k2) (List.getElem?_eq_getElem (by omega))
                obtain ⟨b, hb⟩ : ∃ b, ov[k2] = b := ⟨_, rfl⟩
                rw [hb] at ho1
                clear hb hlen
                go_wp2_with fail
                go_roundw
                case rel => exact ⟨k2 + 1, ov.set k2 true, by omega, by go_num, by rw [← HCN.out], HI.out.mark (by omega) (by omega) (HI.out.inv.mark hm)⟩
                case measure => simp [intOf]; omega
              · go_wp2_with fail
                go_roundw
                case rel => exact ⟨k2 + 1, ov, by omega, by go_num, by rw [← HCN.out], HI.out⟩
                case measure => simp [intOf]; omega
        · obtain rfl : k2 = 40 := by omega
          obtain ⟨f0, f1, f2, lG, lH⟩ := HI.out.facts
          obtain ⟨a, ha⟩ : ∃ a, cntF c x o 40 0 = a := ⟨_, rfl⟩
          have ha1 : a ≤ 1 := by rw [← ha]; exact (cntF_bd _ _ _ _ _).2
          rw [ha]
          clear ha
          by_cases hkl : k < l.length
          · have ikl : (k : Int) < l.length := by omega
            obtain ⟨rfl, hgw⟩ := HC.out.1 (by omega)
            obtain ⟨d0, d1, d2⟩ := HC.out.2 k hkl
            have hbw := HI.out.bel
            replace d0 := (hbw.cell (p := ⟨g, off + k * 3, none⟩) hgw).trans d0
            replace d1 := (hbw.cell (p := ⟨g, off + k * 3 + 1, none⟩) hgw).trans d1
            replace d2 := (hbw.cell (p := ⟨g, off + k * 3 + 2, none⟩) hgw).trans d2
            generalize l[k] = p at *
            obtain ⟨pe, po, ps⟩ := p
            change wr.cell? ⟨g, off + k * 3, none⟩ = some (.int .u8 pe) at d0
            change wr.cell? ⟨g, off + k * 3 + 1, none⟩ = some (.int .u8 po) at d1
            change wr.cell? ⟨g, off + k * 3 + 2, none⟩ = some (.bool ps) at d2
            obtain ⟨N, hN⟩ : ∃ N : Nat, pe % 32 = N := ⟨_, rfl⟩
            have hNi : (pe : Int) % 32 = N := by omega
            have hN31 : N ≤ 31 := by omega
            have HNI := Lib.hid hNi
            clear hN hNi hbw
            cases ps
            · obtain ⟨S, hS⟩ : ∃ S : Nat, po % 4 = S := ⟨_, rfl⟩
              have hSi : (po : Int) % 4 = S := by omega
              have hS3 : S ≤ 3 := by omega
              have HSI : Hid (IntKind.i64.wrap ((po : Int).tmod 4) = S) := by
                rw [Hid, Int.tmod_eq_emod_of_nonneg (by omega), hSi, IntWalk.i64_in _ (by omega)]
              clear hS hSi
              have lg : g < wr.heap.size := Nat.lt_of_lt_of_le hgw HI.out.bel.size
              have HRV := Lib.hid (HI.out.inv.raiseV_eq hN31 hS3)
              by_cases hxN : x < (N : Int)
              · rw [if_pos hxN] at HRV
                go_wp2_with fail
                rw [HNI.out]
                go_region_held3 (fun w' => w'.cell? ⟨G, 0, none⟩ = some (.int .i64 x) ∧ w'.cell? ⟨G, 1, none⟩ = some (.int .i64 o) ∧ w'.cell? ⟨G, 2, none⟩ = some (.bool c) ∧ w'.cell? ⟨g, off + k * 3 + 1, none⟩ = some (.int .u8 po) ∧ Below wr.heap.size wr w')
                  (((refine four_cells ?_ f0 f1 f2 d1 lG lG lG lg); (first
                    | exact (Below.refl _ wr).drew
                    | exact ((Below.refl _ wr).drew.trans hb')
                    | exact ((Below.refl _ wr).drew.trans hb').alloc hb'.size _
                    | exact (Below.refl _ wr).drew.alloc (Nat.le_refl _) _
                    | exact ((Below.refl _ wr).drew.alloc (Nat.le_refl _) _).trans (hb'.mono (sz_le _ _))
                    | exact (((Below.refl _ wr).drew.alloc (Nat.le_refl _) _).trans (hb'.mono (sz_le _ _))).setCell (Nat.le_refl _) _
                    | exact ((((Below.refl _ wr).drew.alloc (Nat.le_refl _) _).trans (hb'.mono (sz_le _ _))).setCell (Nat.le_refl _) _).setCell (Nat.le_refl _) _
                    | exact (((((Below.refl _ wr).drew.alloc (Nat.le_refl _) _).trans (hb'.mono (sz_le _ _))).setCell (Nat.le_refl _) _).setCell (Nat.le_refl _) _).setCell (Nat.le_refl _) _)))
                  (((go_at_call 17; rw [HSI.out]; refine (Raise_any x o _ _ c _).mono ?_; rintro e w' ⟨rfl, hb'⟩; obtain ⟨hcc, hff⟩ := bcell hb'; rw [HRV.out, show fenceR 0 (N : Int) (S : Int) false = .agg #[.int .i64 N, .int .i64 S, .bool false] from rfl])))
                · rename_i hH
                  have hb9 : Below wr.heap.size wr (w'.alloc (.cells #[.int .i64 N, .int .i64 S, .bool false] 23)) := ((Below.refl _ wr).drew.trans hb').alloc hb'.size _
                  have k9 : Blk (w'.alloc (.cells #[.int .i64 N, .int .i64 S, .bool false] 23)) w'.heap.size 23 #[.int .i64 N, .int .i64 S, .bool false] := Blk.new _ _ _
                  clear hH hcc hff hb' f0 f1 f2
                  generalize (w'.alloc (.cells #[.int .i64 N, .int .i64 S, .bool false] 23)) = W9 at *
                  generalize w'.heap.size = g9 at *
                  have HI2 := Lib.hid (HI.out.keep hb9)
                  obtain ⟨f0, f1, f2, lG9, lH9⟩ := HI2.out.facts
                  have z0 : W9.frozen? ⟨G, 0, none⟩ = false := HI2.out.fen.frozen 0
                  have z1 : W9.frozen? ⟨G, 1, none⟩ = false := HI2.out.fen.frozen 1
                  have z2 : W9.frozen? ⟨G, 2, none⟩ = false := HI2.out.fen.frozen 2
                  have e0 := k9.cell 0
                  have e1 := k9.cell 1
                  have e2 := k9.cell 2
                  have hFR := HI2.out.inv.raise hxN hN31 hS3
                  have HX := Lib.hid (HI2.out.put (by omega) hs1 hFR)
                  have d9 := (hb9.cell (p := ⟨g, off + k * 3 + 1, none⟩) lg).trans d1
                  have HAV : Hid (admitV N S false N S = 0) := admit_yes hFR
                  have HDX : Hid ((((W9.setCell ⟨G, 0, none⟩ (.int .i64 N)).setCell ⟨G, 1, none⟩ (.int .i64 S)).setCell ⟨G, 2, none⟩ (.bool false)).cell? ⟨g, off + k * 3 + 1, none⟩ = some (.int .u8 po)) := by
                    have hgG : g ≠ G := by omega
                    rw [Hid, three_far hgG]
                    exact d9
                  clear hFR d0 d1 d2
                  go_wp2_with fail
                  generalize (((W9.setCell ⟨G, 0, none⟩ (.int .i64 N)).setCell ⟨G, 1, none⟩ (.int .i64 S)).setCell ⟨G, 2, none⟩ (.bool false)) = X at *
                  clear f0 f1 f2 z0 z1 z2 e0 e1 e2 d9 k9
                  have d1 := HDX.out
                  obtain ⟨f0, f1, f2, lG, lH⟩ := HX.out.facts
                  have lg : g < X.heap.size := Nat.lt_of_lt_of_le hgw HX.out.bel.size
                  go_region_held3 (fun w' => w'.cell? ⟨G, 0, none⟩ = some (.int .i64 N) ∧ w'.cell? ⟨G, 1, none⟩ = some (.int .i64 S) ∧ w'.cell? ⟨G, 2, none⟩ = some (.bool false) ∧ w'.cell? ⟨g, off + k * 3 + 1, none⟩ = some (.int .u8 po) ∧ Below X.heap.size X w')
                    (first
                      | exact four_cells ((Below.refl _ X).drew) f0 f1 f2 d1 lG lG lG lg
                      | (go_split_ands; refine four_cells (below_step ?_ hb') f0 f1 f2 d1 lG lG lG lg; assumption))
                    (((go_at_call 15; rw [HSI.out]; refine (Admit_any (N : Int) (S : Int) _ _ false _).mono ?_; rintro e w' ⟨rfl, hb'⟩; rw [HAV.out])))
                  all_goals
                    rename_i hS9
                    have HS9 := Lib.hid hS9
                    clear hS9
                    go_wp2_with fail
                    go_roundw
                    case rel => exact ⟨k + 1, N, S, false, ov, by omega, by go_num, HX.out.keep HS9.out.2.2.2.2⟩
                    case measure => simp [intOf]; omega
                · rename_i hH
                  have hb9 : Below wr.heap.size wr (((w'.setCell ⟨wr.heap.size, 0, none⟩ (.int .i64 N)).setCell ⟨wr.heap.size, 1, none⟩ (.int .i64 S)).setCell ⟨wr.heap.size, 2, none⟩ (.bool false)) := (((((Below.refl _ wr).drew.alloc (Nat.le_refl _) _).trans (hb'.mono (sz_le _ _))).setCell (Nat.le_refl _) _).setCell (Nat.le_refl _) _).setCell (Nat.le_refl _) _
                  have k9 : Blk (((w'.setCell ⟨wr.heap.size, 0, none⟩ (.int .i64 N)).setCell ⟨wr.heap.size, 1, none⟩ (.int .i64 S)).setCell ⟨wr.heap.size, 2, none⟩ (.bool false)) wr.heap.size 23 #[.int .i64 N, .int .i64 S, .bool false] := three_set hb'
                  clear hH hcc hff hb' f0 f1 f2
                  generalize (((w'.setCell ⟨wr.heap.size, 0, none⟩ (.int .i64 N)).setCell ⟨wr.heap.size, 1, none⟩ (.int .i64 S)).setCell ⟨wr.heap.size, 2, none⟩ (.bool false)) = W9 at *
                  have HI2 := Lib.hid (HI.out.keep hb9)
                  obtain ⟨f0, f1, f2, lG9, lH9⟩ := HI2.out.facts
                  have z0 : W9.frozen? ⟨G, 0, none⟩ = false := HI2.out.fen.frozen 0
                  have z1 : W9.frozen? ⟨G, 1, none⟩ = false := HI2.out.fen.frozen 1
                  have z2 : W9.frozen? ⟨G, 2, none⟩ = false := HI2.out.fen.frozen 2
                  have e0 := k9.cell 0
                  have e1 := k9.cell 1
                  have e2 := k9.cell 2
                  have hFR := HI2.out.inv.raise hxN hN31 hS3
                  have HX := Lib.hid (HI2.out.put (by omega) hs1 hFR)
                  have d9 := (hb9.cell (p := ⟨g, off + k * 3 + 1, none⟩) lg).trans d1
                  have HAV : Hid (admitV N S false N S = 0) := admit_yes hFR
                  have HDX : Hid ((((W9.setCell ⟨G, 0, none⟩ (.int .i64 N)).setCell ⟨G, 1, none⟩ (.int .i64 S)).setCell ⟨G, 2, none⟩ (.bool false)).cell? ⟨g, off + k * 3 + 1, none⟩ = some (.int .u8 po)) := by
                    have hgG : g ≠ G := by omega
                    rw [Hid, three_far hgG]
                    exact d9
                  clear hFR d0 d1 d2
                  go_wp2_with fail
                  generalize (((W9.setCell ⟨G, 0, none⟩ (.int .i64 N)).setCell ⟨G, 1, none⟩ (.int .i64 S)).setCell ⟨G, 2, none⟩ (.bool false)) = X at *
                  clear f0 f1 f2 z0 z1 z2 e0 e1 e2 d9 k9
                  have d1 := HDX.out
                  obtain ⟨f0, f1, f2, lG, lH⟩ := HX.out.facts
                  have lg : g < X.heap.size := Nat.lt_of_lt_of_le hgw HX.out.bel.size
                  go_region_held3 (fun w' => w'.cell? ⟨G, 0, none⟩ = some (.int .i64 N) ∧ w'.cell? ⟨G, 1, none⟩ = some (.int .i64 S) ∧ w'.cell? ⟨G, 2, none⟩ = some (.bool false) ∧ w'.cell? ⟨g, off + k * 3 + 1, none⟩ = some (.int .u8 po) ∧ Below X.heap.size X w')
                    (first
                      | exact four_cells ((Below.refl _ X).drew) f0 f1 f2 d1 lG lG lG lg
                      | (go_split_ands; refine four_cells (below_step ?_ hb') f0 f1 f2 d1 lG lG lG lg; assumption))
                    (((go_at_call 15; rw [HSI.out]; refine (Admit_any (N : Int) (S : Int) _ _ false _).mono ?_; rintro e w' ⟨rfl, hb'⟩; rw [HAV.out])))
                  all_goals
                    rename_i hS9
                    have HS9 := Lib.hid hS9
                    clear hS9
                    go_wp2_with fail
                    go_roundw
                    case rel => exact ⟨k + 1, N, S, false, ov, by omega, by go_num, HX.out.keep HS9.out.2.2.2.2⟩
                    case measure => simp [intOf]; omega
              · rw [if_neg hxN] at HRV
                go_wp2_with fail
                rw [HNI.out]
                go_region_held3 (fun w' => w'.cell? ⟨G, 0, none⟩ = some (.int .i64 x) ∧ w'.cell? ⟨G, 1, none⟩ = some (.int .i64 o) ∧ w'.cell? ⟨G, 2, none⟩ = some (.bool c) ∧ w'.cell? ⟨g, off + k * 3 + 1, none⟩ = some (.int .u8 po) ∧ Below wr.heap.size wr w')
                  (((refine four_cells ?_ f0 f1 f2 d1 lG lG lG lg); (first
                    | exact (Below.refl _ wr).drew
                    | exact ((Below.refl _ wr).drew.trans hb')
                    | exact ((Below.refl _ wr).drew.trans hb').alloc hb'.size _
                    | exact (Below.refl _ wr).drew.alloc (Nat.le_refl _) _
                    | exact ((Below.refl _ wr).drew.alloc (Nat.le_refl _) _).trans (hb'.mono (sz_le _ _))
                    | exact (((Below.refl _ wr).drew.alloc (Nat.le_refl _) _).trans (hb'.mono (sz_le _ _))).setCell (Nat.le_refl _) _
                    | exact ((((Below.refl _ wr).drew.alloc (Nat.le_refl _) _).trans (hb'.mono (sz_le _ _))).setCell (Nat.le_refl _) _).setCell (Nat.le_refl _) _
                    | exact (((((Below.refl _ wr).drew.alloc (Nat.le_refl _) _).trans (hb'.mono (sz_le _ _))).setCell (Nat.le_refl _) _).setCell (Nat.le_refl _) _).setCell (Nat.le_refl _) _)))
                  (((go_at_call 17; rw [HSI.out]; refine (Raise_any x o _ _ c _).mono ?_; rintro e w' ⟨rfl, hb'⟩; obtain ⟨hcc, hff⟩ := bcell hb'; rw [HRV.out, show fenceR 13 (N : Int) (S : Int) false = .agg #[.int .i64 0, .int .i64 0, .bool false] from rfl])))
                · rename_i hH
                  have hb9 : Below wr.heap.size wr (w'.alloc (.cells #[.int .i64 0, .int .i64 0, .bool false] 23)) := ((Below.refl _ wr).drew.trans hb').alloc hb'.size _
                  have k9 : Blk (w'.alloc (.cells #[.int .i64 0, .int .i64 0, .bool false] 23)) w'.heap.size 23 #[.int .i64 0, .int .i64 0, .bool false] := Blk.new _ _ _
                  clear hH hcc hff hb' f0 f1 f2
                  generalize (w'.alloc (.cells #[.int .i64 0, .int .i64 0, .bool false] 23)) = W9 at *
                  generalize w'.heap.size = g9 at *
                  have HI2 := Lib.hid (HI.out.keep hb9)
                  clear k9
                  go_wp2_with fail
                  go_roundw
                  case rel => exact ⟨k + 1, x, o, c, ov, by omega, by go_num, HI2.out⟩
                  case measure => simp [intOf]; omega
                · rename_i hH
                  have hb9 : Below wr.heap.size wr (((w'.setCell ⟨wr.heap.size, 0, none⟩ (.int .i64 0)).setCell ⟨wr.heap.size, 1, none⟩ (.int .i64 0)).setCell ⟨wr.heap.size, 2, none⟩ (.bool false)) := (((((Below.refl _ wr).drew.alloc (Nat.le_refl _) _).trans (hb'.mono (sz_le _ _))).setCell (Nat.le_refl _) _).setCell (Nat.le_refl _) _).setCell (Nat.le_refl _) _
                  have k9 : Blk (((w'.setCell ⟨wr.heap.size, 0, none⟩ (.int .i64 0)).setCell ⟨wr.heap.size, 1, none⟩ (.int .i64 0)).setCell ⟨wr.heap.size, 2, none⟩ (.bool false)) wr.heap.size 23 #[.int .i64 0, .int .i64 0, .bool false] := three_set hb'
                  clear hH hcc hff hb' f0 f1 f2
                  generalize (((w'.setCell ⟨wr.heap.size, 0, none⟩ (.int .i64 0)).setCell ⟨wr.heap.size, 1, none⟩ (.int .i64 0)).setCell ⟨wr.heap.size, 2, none⟩ (.bool false)) = W9 at *
                  have HI2 := Lib.hid (HI.out.keep hb9)
                  clear k9
                  go_wp2_with fail
                  go_roundw
                  case rel => exact ⟨k + 1, x, o, c, ov, by omega, by go_num, HI2.out⟩
                  case measure => simp [intOf]; omega
            · go_wp2_with fail
              rw [HNI.out]
              refine (Shut_any x o _ c wr).mono ?_
              rintro e w2 ⟨rfl, hb2⟩
              rw [HI.out.inv.shutV_eq hN31]
              have HI2 := Lib.hid (HI.out.keep hb2)
              obtain ⟨f0, f1, f2, lG, lH⟩ := HI2.out.facts
              have z0 : w2.frozen? ⟨G, 0, none⟩ = false := HI2.out.fen.frozen 0
              have z1 : w2.frozen? ⟨G, 1, none⟩ = false := HI2.out.fen.frozen 1
              have z2 : w2.frozen? ⟨G, 2, none⟩ = false := HI2.out.fen.frozen 2
              have hlen := HI2.out.inv.2.2.2.2.1
              obtain ⟨ho1, ho2⟩ := HI2.out.over (n := N) (List.getElem?_eq_getElem (by omega))
              obtain ⟨b, hb⟩ : ∃ b, ov[N] = b := ⟨_, rfl⟩
              rw [hb] at ho1
              clear hb hlen
              by_cases hxN : x ≤ (N : Int)
              · rw [if_pos hxN, show fenceR 0 N o true = .agg #[.int .i64 N, .int .i64 o, .bool true] from rfl]
                go_wp2_with fail
                go_roundw
                case rel => exact ⟨k + 1, N, o, true, ov.set N true, by omega, by go_num, ((HI2.out.put (by omega) hs1 (HI2.out.inv.shut0 hxN hN31)).mark (by omega) (by omega) (HI2.out.inv.shut hxN hN31)).new _⟩
                case measure => simp [intOf]; omega
              · rw [if_neg hxN, show fenceR 13 N o true = .agg #[.int .i64 0, .int .i64 0, .bool false] from rfl]
                go_wp2_with fail
                go_roundw
                case rel => exact ⟨k + 1, x, o, c, ov, by omega, by go_num, HI2.out.new _⟩
                case measure => simp [intOf]; omega
          · obtain rfl : k = l.length := by omega
            go_wp2_with fail
            refine (awake_any _).mono ?_
            rintro e w2 ⟨rfl, hb2⟩
            go_wp2_with fail
            go_ret
            exact ⟨rfl, HI.out.bel.trans (hb2.mono HI.out.bel.size)⟩
end Go.Proofs.Ytnhemndpnjhbfaa
