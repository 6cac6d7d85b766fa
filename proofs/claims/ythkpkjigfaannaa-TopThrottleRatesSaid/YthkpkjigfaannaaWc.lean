/- The walk of Check. Condition: at most 1000 marks. -/
import Derived.Test.YthkpkjigfaannaaWb
namespace Go.Proofs.Ythkpkjigfaannaa
open Go.RowKit
def marksB (t : Int) : Mk → List Mk → Bool
  | _, [] => true
  | p, m :: l => (betwB m.t (p.t + 1) t && betwB m.n (p.n + 1) 1073741824) && marksB t m l
theorem marksB_drop (t : Int) (p : Mk) (l : List Mk) (k : Nat) (h : k < l.length) : marksB t p (l.drop k) = ((betwB (atM l k).t (p.t + 1) t && betwB (atM l k).n (p.n + 1) 1073741824) && marksB t (atM l k) (l.drop (k + 1))) := by
  have ha : atM l k = l[k] := by simp [atM, h]
  rw [List.drop_eq_getElem_cons h, ha]
  rfl
theorem lastM_take (p : Mk) (l : List Mk) (k : Nat) (h : k < l.length) : lastM p (l.take (k + 1)) = atM l k := by
  rw [lastM_at p (l.take (k + 1)) k (by rw [List.length_take]; omega)]
  simp [atM, h]
theorem marksB_bd {t : Int} {p : Mk} {l : List Mk} (h : marksB t p l = true) : p.n ≤ (lastM p l).n ∧ (p.n ≤ 1073741824 → (lastM p l).n ≤ 1073741824) ∧ p.t ≤ (lastM p l).t ∧ (p.t ≤ t → (lastM p l).t ≤ t) := by
  induction l generalizing p with
  | nil => exact ⟨Int.le_refl _, fun h => h, Int.le_refl _, fun h => h⟩
  | cons m l ih =>
    simp only [marksB, betwB, Bool.and_eq_true, decide_eq_true_eq] at h
    obtain ⟨⟨⟨h1, h2⟩, h3, h4⟩, h5⟩ := h
    obtain ⟨i1, i2, i3, i4⟩ := ih h5
    simp only [lastM]
    exact ⟨by omega, fun _ => i2 h4, by omega, fun _ => i4 h2⟩
theorem tot_bd {t : Int} {l : List Mk} (h : marksB t ⟨-1, 0⟩ l = true) : 0 ≤ totM l ∧ totM l ≤ 1073741824 :=
  ⟨(marksB_bd h).1, (marksB_bd h).2.1 (by show (0 : Int) ≤ _; omega)⟩
/-- the error of Check -/
def chkO (b : Int) (l : List Mk) : Int := if betwB b 0 (totM l) then (if decide (1 < l.length) && decide (0 < openM (totM l - b) l) then 3 else 0) else 2
def chkTh (o r t b : Int) (l : List Mk) : Int := if okN o r && betwB t 0 1073741824 then (if marksB t ⟨-1, 0⟩ l then chkO b l else 3) else 2
/-- what a round of Check finds -/
structure ChI (w : World) (L : Nat) (o r t b : Int) (A : Option Addr) (n c : Nat) (p : Mk) (wr : World) : Prop where
  a : Blk wr w.heap.size 24 #[.int .i64 o, .int .i64 r, .int .i64 t, .int .i64 b, .slice A n c]
  s : Blk wr (w.heap.size + 1) 76 #[.int .i64 o, .int .i64 r, .int .i64 t, .int .i64 b, .slice A n c]
  l : Blk wr L 74 #[.int .i64 p.t, .int .i64 p.n]
  bel : Below w.heap.size w wr
theorem ChI.facts {w : World} {L : Nat} {o r t b : Int} {A : Option Addr} {n c : Nat} {p : Mk} {wr : World} (h : ChI w L o r t b A n c p wr) :
    wr.cell? ⟨w.heap.size, 2, none⟩ = some (.int .i64 t) ∧ wr.cell? ⟨L, 0, none⟩ = some (.int .i64 p.t) ∧ wr.cell? ⟨L, 1, none⟩ = some (.int .i64 p.n) ∧ wr.frozen? ⟨L, 0, none⟩ = false ∧ wr.frozen? ⟨L, 1, none⟩ = false ∧ w.heap.size < wr.heap.size ∧ L < wr.heap.size :=
  ⟨h.a.cell 2, h.l.cell 0, h.l.cell 1, h.l.frozen 0, h.l.frozen 1, h.a.lt, h.l.lt⟩
theorem ChI.put {w : World} {L : Nat} {o r t b : Int} {A : Option Addr} {n c : Nat} {p : Mk} {wr : World} (h : ChI w L o r t b A n c p wr) (hL : w.heap.size + 2 ≤ L) (m : Mk) (x : Obj) :
    ChI w L o r t b A n c m (((wr.setCell ⟨L, 0, none⟩ (.int .i64 m.t)).setCell ⟨L, 1, none⟩ (.int .i64 m.n)).alloc x) := by
  have hb := (h.bel.setCell (p := ⟨L, 0, none⟩) (show w.heap.size ≤ L by omega) (.int .i64 m.t)).setCell (p := ⟨L, 1, none⟩) (show w.heap.size ≤ L by omega) (.int .i64 m.n)
  refine ⟨((h.a.far (p := ⟨L, 0, none⟩) (show w.heap.size ≠ L by omega) _).far (p := ⟨L, 1, none⟩) (show w.heap.size ≠ L by omega) _).alloc x, ((h.s.far (p := ⟨L, 0, none⟩) (show w.heap.size + 1 ≠ L by omega) _).far (p := ⟨L, 1, none⟩) (show w.heap.size + 1 ≠ L by omega) _).alloc x, ?_, hb.alloc hb.size x⟩
  exact ((h.l.set_ 0 _).set_ 1 _).alloc x
theorem blk55 {B g g' : Nat} {X w' : World} {ty ty' : TypeId} {v0 v1 v2 v3 v4 u0 u1 u2 u3 u4 : Value} (hB : Below B X w') (h : Blk X g ty #[v0, v1, v2, v3, v4]) (h' : Blk X g' ty' #[u0, u1, u2, u3, u4]) (l : g < B) (l' : g' < B) :
    w'.cell? ⟨g, 0, none⟩ = some v0 ∧ w'.cell? ⟨g, 1, none⟩ = some v1 ∧ w'.cell? ⟨g, 2, none⟩ = some v2 ∧ w'.cell? ⟨g, 3, none⟩ = some v3 ∧ w'.cell? ⟨g, 4, none⟩ = some v4 ∧
    w'.cell? ⟨g', 0, none⟩ = some u0 ∧ w'.cell? ⟨g', 1, none⟩ = some u1 ∧ w'.cell? ⟨g', 2, none⟩ = some u2 ∧ w'.cell? ⟨g', 3, none⟩ = some u3 ∧ w'.cell? ⟨g', 4, none⟩ = some u4 ∧ Below B X w' :=
  have h := h.below hB l
  have h' := h'.below hB l'
  ⟨h.cell 0, h.cell 1, h.cell 2, h.cell 3, h.cell 4, h'.cell 0, h'.cell 1, h'.cell 2, h'.cell 3, h'.cell 4, hB⟩
theorem ok_not {x : Bool} (h : ¬ x = true) : x = false := by simpa using h
set_option maxRecDepth 100000 in
set_option maxHeartbeats 4000000 in
theorem Check_any (o r t b : Int) (A : Option Addr) (n c : Nat) (l : List Mk) (w : World) (hR : RdM w A n l) (hn : n ≤ 1000) :
    Calls Try.prog 15 #[.agg #[.int .i64 o, .int .i64 r, .int .i64 t, .int .i64 b, .slice A n c]] w fun e w' => e = .returned (.int .i64 (chkTh o r t b l)) ∧ Below w.heap.size w w' := by
  have hlen := hR.len
  subst hlen
  have hB0 : Below w.heap.size w ((w.alloc (.cells #[.int .i64 o, .int .i64 r, .int .i64 t, .int .i64 b, .slice A l.length c] 24)).alloc (.cells #[.int .i64 o, .int .i64 r, .int .i64 t, .int .i64 b, .slice A l.length c] 76)) := ((Below.refl _ w).alloc (Nat.le_refl _) _).alloc (by simp) _
  have hk0 : Blk ((w.alloc (.cells #[.int .i64 o, .int .i64 r, .int .i64 t, .int .i64 b, .slice A l.length c] 24)).alloc (.cells #[.int .i64 o, .int .i64 r, .int .i64 t, .int .i64 b, .slice A l.length c] 76)) w.heap.size 24 #[.int .i64 o, .int .i64 r, .int .i64 t, .int .i64 b, .slice A l.length c] := (Blk.new _ _ _).alloc _
  have hk1 : Blk ((w.alloc (.cells #[.int .i64 o, .int .i64 r, .int .i64 t, .int .i64 b, .slice A l.length c] 24)).alloc (.cells #[.int .i64 o, .int .i64 r, .int .i64 t, .int .i64 b, .slice A l.length c] 76)) (w.heap.size + 1) 76 #[.int .i64 o, .int .i64 r, .int .i64 t, .int .i64 b, .slice A l.length c] := by
    have := Blk.new (w.alloc (.cells #[.int .i64 o, .int .i64 r, .int .i64 t, .int .i64 b, .slice A l.length c] 24)) 76 #[.int .i64 o, .int .i64 r, .int .i64 t, .int .i64 b, .slice A l.length c]
    rw [World.size_alloc] at this
    exact this
  have HK := Lib.hid (And.intro hB0 (And.intro hk0 hk1))
  have HR := Lib.hid hR
  clear hB0 hk0 hk1 hR
  cases hok : okN o r
  · have HQ : Hid (chkTh o r t b l = 2) := by rw [Hid, chkTh, hok]; rfl
    have HN : Hid (∀ w9, Calls Try.prog 12 #[.int .i64 o, .int .i64 r] w9 fun e w' => e = .returned (.tuple #[.agg #[.int .i64 0, .int .i64 0, .int .i64 0, .int .i64 0, .slice none 0 0], .int .i64 2]) ∧ Below w9.heap.size w9 w') := by
      have h9 := fun w9 => New_any o r w9
      rw [show newE o r = 2 by rw [newE, hok]; rfl, show newV o r = thV 0 0 0 0 none 0 0 by rw [newV, hok]; rfl] at h9
      exact h9
    clear hok
    go_enter Try.func15, Try.ntmps15
    go_wp2_with fail
    refine (HN.out _).mono ?_
    rintro e w1 ⟨rfl, hb1⟩
    go_wp2_with fail
    go_ret
    exact ⟨ret_int HQ.out.symm, (HK.out.1.trans (hb1.mono HK.out.1.size)).alloc (Nat.le_trans HK.out.1.size hb1.size) _⟩
  · have HN : Hid (∀ w9, Calls Try.prog 12 #[.int .i64 o, .int .i64 r] w9 fun e w' => e = .returned (.tuple #[.agg #[.int .i64 o, .int .i64 r, .int .i64 0, .int .i64 0, .slice none 0 0], .int .i64 0]) ∧ Below w9.heap.size w9 w') := by
      have h9 := fun w9 => New_any o r w9
      rw [show newE o r = 0 by rw [newE, hok]; rfl, show newV o r = thV o r 0 0 none 0 0 by rw [newV, hok]; rfl] at h9
      exact h9
    cases hbt : betwB t 0 1073741824
    · have HQ : Hid (chkTh o r t b l = 2) := by rw [Hid, chkTh, hok, hbt]; rfl
      have HBT := Lib.hid hbt
      clear hok hbt
      go_enter Try.func15, Try.ntmps15
      go_wp2_with fail
      refine (HN.out _).mono ?_
      rintro e w1 ⟨rfl, hb1⟩
      obtain ⟨hc1, _⟩ := bcell hb1
      have hz1 : w.heap.size < w1.heap.size := by have := hb1.size; simp at this; omega
      go_wp2_with fail
      refine (between_any t 0 1073741824 _).mono ?_
      rintro e w2 ⟨rfl, rfl⟩
      rw [HBT.out]
      go_wp2_with fail
      go_ret
      exact ⟨ret_int HQ.out.symm, (HK.out.1.trans (hb1.mono HK.out.1.size)).alloc (Nat.le_trans HK.out.1.size hb1.size) _⟩
    · have HQ : Hid (chkTh o r t b l = if marksB t ⟨-1, 0⟩ l then chkO b l else 3) := by rw [Hid, chkTh, hok, hbt]; rfl
      have HBT := Lib.hid hbt
      have ht2 : t ≤ 1073741824 := by simp [betwB] at hbt; exact hbt.2
      clear hok hbt
      go_enter Try.func15, Try.ntmps15
      go_wp2_with fail
      refine (HN.out _).mono ?_
      rintro e w1 ⟨rfl, hb1⟩
      obtain ⟨hc1, _⟩ := bcell hb1
      have hz1 : w.heap.size < w1.heap.size := by have := hb1.size; simp at this; omega
      go_wp2_with fail
      refine (between_any t 0 1073741824 _).mono ?_
      rintro e w2 ⟨rfl, rfl⟩
      rw [HBT.out]
      have hlm : (l.length : Int) ≤ 4096 := by omega
      go_wp2_with fail
      have hs1 := hb1.size
      rw [World.size_alloc, World.size_alloc] at hs1
      have hI0 : ChI w (w1.heap.size + 1) o r t b A l.length c ⟨-1, 0⟩ ((w1.alloc (.cells #[.int .i64 o, .int .i64 r, .int .i64 0, .int .i64 0, .slice none 0 0] 24)).alloc (.cells #[.int .i64 (-1), .int .i64 0] 74)) := by
        have h9 : w.heap.size < ((w.alloc (.cells #[.int .i64 o, .int .i64 r, .int .i64 t, .int .i64 b, .slice A l.length c] 24)).alloc (.cells #[.int .i64 o, .int .i64 r, .int .i64 t, .int .i64 b, .slice A l.length c] 76)).heap.size := HK.out.2.1.lt
        have hl := Blk.new (w1.alloc (.cells #[.int .i64 o, .int .i64 r, .int .i64 0, .int .i64 0, .slice none 0 0] 24)) 74 #[.int .i64 (-1), .int .i64 0]
        rw [World.size_alloc] at hl
        exact ⟨((HK.out.2.1.below hb1 HK.out.2.1.lt).alloc _).alloc _, ((HK.out.2.2.below hb1 HK.out.2.2.lt).alloc _).alloc _, hl, (((HK.out.1.trans (hb1.mono HK.out.1.size)).alloc (by omega) _).alloc (by rw [World.size_alloc]; omega) _)⟩
      have HI0 := Lib.hid hI0
      have hL2 : w.heap.size + 2 ≤ w1.heap.size + 1 := by omega
      clear hI0 hb1 hc1 hz1 HK
      generalize w1.heap.size + 1 = L at *
      go_loopw [35] (fun i wr => ∃ (k : Nat) (p : Mk), k ≤ l.length ∧ i = .int .i64 k ∧ p = lastM ⟨-1, 0⟩ (l.take k) ∧ marksB t ⟨-1, 0⟩ l = marksB t p (l.drop k) ∧ (-1 ≤ p.t ∧ p.t ≤ 1073741824 ∧ 0 ≤ p.n ∧ p.n ≤ 1073741824) ∧ ChI w L o r t b A l.length c p wr) (fun i _ => l.length - (intOf i).toNat)
      case atStart => exact ⟨0, ⟨-1, 0⟩, by omega, rfl, rfl, rfl, by simp, HI0.out⟩
      clear HI0
      case round =>
        obtain ⟨k, p, hk, rfl, hp, hm, ⟨p1, p2, p3, p4⟩, hI⟩ := hrel
        have HI := Lib.hid hI
        have HP := Lib.hid (And.intro hp hm)
        clear hI hp hm
        obtain ⟨f2, l0, l1, z0, z1, lw, lL⟩ := HI.out.facts
        by_cases hlt : k < l.length
        · obtain ⟨g, off, hg, hc⟩ := HR.out.cells
          obtain ⟨rfl, hgw⟩ := hg (by omega)
          obtain ⟨d0, d1⟩ := hc k hlt
          replace d0 := (HI.out.bel.cell (p := ⟨g, off + k * 2, none⟩) hgw).trans d0
          replace d1 := (HI.out.bel.cell (p := ⟨g, off + k * 2 + 1, none⟩) hgw).trans d1
          have ik : (k : Int) < l.length := by omega
          have HD := Lib.hid (marksB_drop t p l k hlt)
          have HT := Lib.hid (lastM_take ⟨-1, 0⟩ l k hlt)
          clear hc hg
          generalize atM l k = m at *
          obtain ⟨pt, pn⟩ := p
          obtain ⟨mt, mn⟩ := m
          change wr.cell? ⟨L, 0, none⟩ = some (.int .i64 pt) at l0
          change wr.cell? ⟨L, 1, none⟩ = some (.int .i64 pn) at l1
          change wr.cell? ⟨g, off + k * 2, none⟩ = some (.int .i64 mt) at d0
          change wr.cell? ⟨g, off + k * 2 + 1, none⟩ = some (.int .i64 mn) at d1
          change -1 ≤ pt at p1
          change pt ≤ _ at p2
          change 0 ≤ pn at p3
          change pn ≤ _ at p4
          cases hb1 : betwB mt (pt + 1) t
          · have HB1 := Lib.hid hb1
            clear hb1
            go_wp2_with fail
            refine (between_any mt _ t _).mono ?_
            rintro e w2 ⟨rfl, rfl⟩
            rw [HB1.out]
            go_wp2_with fail
            go_ret
            exact ⟨ret_int (by rw [HQ.out, HP.out.2, HD.out, HB1.out]; rfl), HI.out.bel.alloc HI.out.bel.size _⟩
          · have hbt1 : mt ≤ t ∧ pt + 1 ≤ mt := by simp [betwB] at hb1; omega
            have HB1 := Lib.hid hb1
            clear hb1
            cases hb2 : betwB mn (pn + 1) 1073741824
            · have HB2 := Lib.hid hb2
              clear hb2
              go_wp2_with fail
              refine (between_any mt _ t _).mono ?_
              rintro e w2 ⟨rfl, rfl⟩
              rw [HB1.out]
              go_wp2_with fail
              refine (between_any mn _ _ _).mono ?_
              rintro e w2 ⟨rfl, rfl⟩
              rw [HB2.out]
              go_wp2_with fail
              go_ret
              exact ⟨ret_int (by rw [HQ.out, HP.out.2, HD.out, HB1.out, HB2.out]; rfl), HI.out.bel.alloc HI.out.bel.size _⟩
            · have hbt2 : mn ≤ 1073741824 ∧ pn + 1 ≤ mn := by simp [betwB] at hb2; omega
              have HB2 := Lib.hid hb2
              clear hb2
              go_wp2_with fail
              refine (between_any mt _ t _).mono ?_
              rintro e w2 ⟨rfl, rfl⟩
              rw [HB1.out]
              go_wp2_with fail
              refine (between_any mn _ _ _).mono ?_
              rintro e w2 ⟨rfl, rfl⟩
              rw [HB2.out]
              go_wp2_with fail
              go_roundw
              case rel => exact ⟨k + 1, ⟨mt, mn⟩, by omega, by go_num, HT.out.symm, by rw [HP.out.2, HD.out, HB1.out, HB2.out]; rfl, ⟨by show -1 ≤ mt; omega, by show mt ≤ _; omega, by show 0 ≤ mn; omega, by show mn ≤ _; omega⟩, HI.out.put hL2 ⟨mt, mn⟩ _⟩
              case measure => simp [intOf]; omega
        · obtain rfl : k = l.length := by omega
          have hmk : marksB t ⟨-1, 0⟩ l = true := by rw [HP.out.2, List.drop_length]; rfl
          obtain ⟨t0, t1⟩ := tot_bd hmk
          have HQ2 : Hid (chkTh o r t b l = chkO b l) := by rw [Hid, HQ.out, hmk]; rfl
          clear hmk HQ l0 l1 z0 z1 lL p1 p2 p3 p4 hL2 HP
          obtain ⟨f0, f1, f2, f3, f4, _⟩ := blk5 (Below.refl _ wr) HI.out.a HI.out.a.lt
          have lw2 : w.heap.size + 1 < wr.heap.size := HI.out.s.lt
          have HTO := Lib.hid (fun w9 (h9 : Below wr.heap.size wr w9) => total_any o r t b A l.length c l w9 ((HR.out.up HI.out.bel).up h9) hn)
          cases hbb : betwB b 0 (totM l)
          · have HQ3 : Hid (chkTh o r t b l = 2) := by rw [Hid, HQ2.out, chkO, hbb]; rfl
            have HBB := Lib.hid hbb
            clear hbb HQ2
            go_wp2_with fail
            go_region_held3 (fun w' => w'.cell? ⟨w.heap.size, 0, none⟩ = some (.int .i64 o) ∧ w'.cell? ⟨w.heap.size, 1, none⟩ = some (.int .i64 r) ∧ w'.cell? ⟨w.heap.size, 2, none⟩ = some (.int .i64 t) ∧ w'.cell? ⟨w.heap.size, 3, none⟩ = some (.int .i64 b) ∧ w'.cell? ⟨w.heap.size, 4, none⟩ = some (.slice A l.length c) ∧ w'.cell? ⟨w.heap.size + 1, 0, none⟩ = some (.int .i64 o) ∧ w'.cell? ⟨w.heap.size + 1, 1, none⟩ = some (.int .i64 r) ∧ w'.cell? ⟨w.heap.size + 1, 2, none⟩ = some (.int .i64 t) ∧ w'.cell? ⟨w.heap.size + 1, 3, none⟩ = some (.int .i64 b) ∧ w'.cell? ⟨w.heap.size + 1, 4, none⟩ = some (.slice A l.length c) ∧ Below wr.heap.size wr w')
              (first
                | exact blk55 ((Below.refl _ wr).drew) HI.out.a HI.out.s lw lw2
                | (go_split_ands; refine blk55 (below_step ?_ hb') HI.out.a HI.out.s lw lw2; assumption)
                | (go_split_ands; refine ⟨?_, ?_, ?_, ?_, ?_, ?_, ?_, ?_, ?_, ?_, ?_⟩ <;> assumption))
              (first
                | (go_at_call 30; refine (HTO.out _ ?_).mono ?_; (go_split_ands; assumption); rintro e w' ⟨rfl, hb'⟩)
                | (go_at_call 29; refine (between_any b 0 _ _).mono ?_; rintro e w' ⟨rfl, rfl⟩; rw [HBB.out]))
            rename_i hS
            have HS := Lib.hid hS
            clear hS
            go_wp2_with fail
            go_ret
            exact ⟨ret_int HQ3.out.symm, HI.out.bel.trans (HS.out.2.2.2.2.2.2.2.2.2.2.mono HI.out.bel.size)⟩
          · have hb12 : 0 ≤ b ∧ b ≤ totM l := by simp [betwB] at hbb; omega
            have HBB := Lib.hid hbb
            clear hbb
            go_wp2_with fail
            go_region_held3 (fun w' => w'.cell? ⟨w.heap.size, 0, none⟩ = some (.int .i64 o) ∧ w'.cell? ⟨w.heap.size, 1, none⟩ = some (.int .i64 r) ∧ w'.cell? ⟨w.heap.size, 2, none⟩ = some (.int .i64 t) ∧ w'.cell? ⟨w.heap.size, 3, none⟩ = some (.int .i64 b) ∧ w'.cell? ⟨w.heap.size, 4, none⟩ = some (.slice A l.length c) ∧ w'.cell? ⟨w.heap.size + 1, 0, none⟩ = some (.int .i64 o) ∧ w'.cell? ⟨w.heap.size + 1, 1, none⟩ = some (.int .i64 r) ∧ w'.cell? ⟨w.heap.size + 1, 2, none⟩ = some (.int .i64 t) ∧ w'.cell? ⟨w.heap.size + 1, 3, none⟩ = some (.int .i64 b) ∧ w'.cell? ⟨w.heap.size + 1, 4, none⟩ = some (.slice A l.length c) ∧ Below wr.heap.size wr w')
              (first
                | exact blk55 ((Below.refl _ wr).drew) HI.out.a HI.out.s lw lw2
                | (go_split_ands; refine blk55 (below_step ?_ hb') HI.out.a HI.out.s lw lw2; assumption)
                | (go_split_ands; refine ⟨?_, ?_, ?_, ?_, ?_, ?_, ?_, ?_, ?_, ?_, ?_⟩ <;> assumption))
              (first
                | (go_at_call 30; refine (HTO.out _ ?_).mono ?_; (go_split_ands; assumption); rintro e w' ⟨rfl, hb'⟩)
                | (go_at_call 29; refine (between_any b 0 _ _).mono ?_; rintro e w' ⟨rfl, rfl⟩; rw [HBB.out]))
            rename_i hS
            have hbX := hS.2.2.2.2.2.2.2.2.2.2
            clear hS f0 f1 f2 f3 f4
            generalize w' = X at *
            have ka := HI.out.a.below hbX lw
            have ks := HI.out.s.below hbX lw2
            have HX := Lib.hid (And.intro ka (And.intro ks (HI.out.bel.trans (hbX.mono HI.out.bel.size))))
            have lX : w.heap.size < X.heap.size := ka.lt
            have lX2 : w.heap.size + 1 < X.heap.size := ks.lt
            obtain ⟨f0, f1, f2, f3, f4, _⟩ := blk5 (Below.refl _ X) ka lX
            have f4' : X.cell? ⟨w.heap.size + 1, 4, none⟩ = some (.slice A l.length c) := ks.cell 4
            clear ka ks hbX
            by_cases h1 : 1 < l.length
            · have h1i : (1 : Int) < l.length := by omega
              have HOP := Lib.hid (fun w9 (h9 : Below X.heap.size X w9) => open_any o r t b A l.length c l (totM l - b) w9 ((HR.out.up HX.out.2.2).up h9) hn)
              have HCO := Lib.hid (fun w9 (h9 : Below X.heap.size X w9) => confirmed_any o r t b A l.length c l w9 ((HR.out.up HX.out.2.2).up h9) hn hb12.1 (by omega) t0 t1)
              have HQ3 : Hid (chkTh o r t b l = if 0 < openM (totM l - b) l then 3 else 0) := by rw [Hid, HQ2.out, chkO, HBB.out, if_pos rfl, decide_eq_true h1]; simp
              have hol := openM_le (totM l - b) l
              generalize openM (totM l - b) l = q at *
              generalize totM l - b = T at *
              by_cases hq : 0 < q
              · have hqi : (0 : Int) < q := by omega
                rw [if_pos hq] at HQ3
                go_wp2_with fail
                go_region_held3 (fun w' => w'.cell? ⟨w.heap.size, 0, none⟩ = some (.int .i64 o) ∧ w'.cell? ⟨w.heap.size, 1, none⟩ = some (.int .i64 r) ∧ w'.cell? ⟨w.heap.size, 2, none⟩ = some (.int .i64 t) ∧ w'.cell? ⟨w.heap.size, 3, none⟩ = some (.int .i64 b) ∧ w'.cell? ⟨w.heap.size, 4, none⟩ = some (.slice A l.length c) ∧ w'.cell? ⟨w.heap.size + 1, 0, none⟩ = some (.int .i64 o) ∧ w'.cell? ⟨w.heap.size + 1, 1, none⟩ = some (.int .i64 r) ∧ w'.cell? ⟨w.heap.size + 1, 2, none⟩ = some (.int .i64 t) ∧ w'.cell? ⟨w.heap.size + 1, 3, none⟩ = some (.int .i64 b) ∧ w'.cell? ⟨w.heap.size + 1, 4, none⟩ = some (.slice A l.length c) ∧ Below X.heap.size X w')
                  (first
                    | exact blk55 ((Below.refl _ X).drew) HX.out.1 HX.out.2.1 lX lX2
                    | (go_split_ands; refine blk55 (below_step ?_ hb') HX.out.1 HX.out.2.1 lX lX2; assumption)
                    | (go_split_ands; refine ⟨?_, ?_, ?_, ?_, ?_, ?_, ?_, ?_, ?_, ?_, ?_⟩ <;> assumption))
                  (first
                    | (go_at_call 32; refine (HCO.out _ ?_).mono ?_; (go_split_ands; assumption); rintro e w' ⟨rfl, hb'⟩)
                    | (go_at_call 31; refine (HOP.out _ ?_).mono ?_; (go_split_ands; assumption); rintro e w' ⟨rfl, hb'⟩))
                all_goals
                  rename_i hS
                  have HS := Lib.hid hS
                  clear hS
                  go_wp2_with fail
                  go_ret
                  exact ⟨ret_int HQ3.out.symm, HX.out.2.2.trans (HS.out.2.2.2.2.2.2.2.2.2.2.mono HX.out.2.2.size)⟩
              · have hqi : ¬ (0 : Int) < q := by omega
                rw [if_neg hq] at HQ3
                go_wp2_with fail
                go_region_held3 (fun w' => w'.cell? ⟨w.heap.size, 0, none⟩ = some (.int .i64 o) ∧ w'.cell? ⟨w.heap.size, 1, none⟩ = some (.int .i64 r) ∧ w'.cell? ⟨w.heap.size, 2, none⟩ = some (.int .i64 t) ∧ w'.cell? ⟨w.heap.size, 3, none⟩ = some (.int .i64 b) ∧ w'.cell? ⟨w.heap.size, 4, none⟩ = some (.slice A l.length c) ∧ w'.cell? ⟨w.heap.size + 1, 0, none⟩ = some (.int .i64 o) ∧ w'.cell? ⟨w.heap.size + 1, 1, none⟩ = some (.int .i64 r) ∧ w'.cell? ⟨w.heap.size + 1, 2, none⟩ = some (.int .i64 t) ∧ w'.cell? ⟨w.heap.size + 1, 3, none⟩ = some (.int .i64 b) ∧ w'.cell? ⟨w.heap.size + 1, 4, none⟩ = some (.slice A l.length c) ∧ Below X.heap.size X w')
                  (first
                    | exact blk55 ((Below.refl _ X).drew) HX.out.1 HX.out.2.1 lX lX2
                    | (go_split_ands; refine blk55 (below_step ?_ hb') HX.out.1 HX.out.2.1 lX lX2; assumption)
                    | (go_split_ands; refine ⟨?_, ?_, ?_, ?_, ?_, ?_, ?_, ?_, ?_, ?_, ?_⟩ <;> assumption))
                  (first
                    | (go_at_call 32; refine (HCO.out _ ?_).mono ?_; (go_split_ands; assumption); rintro e w' ⟨rfl, hb'⟩)
                    | (go_at_call 31; refine (HOP.out _ ?_).mono ?_; (go_split_ands; assumption); rintro e w' ⟨rfl, hb'⟩))
                all_goals
                  rename_i hS
                  have HS := Lib.hid hS
                  clear hS
                  go_wp2_with fail
                  go_ret
                  exact ⟨ret_int HQ3.out.symm, HX.out.2.2.trans (HS.out.2.2.2.2.2.2.2.2.2.2.mono HX.out.2.2.size)⟩
            · have h1i : ¬ (1 : Int) < l.length := by omega
              have HQ3 : Hid (chkTh o r t b l = 0) := by
                have : decide (1 < l.length) = false := by simpa using h1
                rw [Hid, HQ2.out, chkO, HBB.out, if_pos rfl, this]; rfl
              have h01 : l.length = 0 ∨ l.length = 1 := by omega
              clear h1i h1 HQ2
              rcases h01 with h01 | h01
              · rw [h01] at f4 f4' HX ⊢
                clear h01
                go_wp2_with fail
                go_quiet (fail)
                go_wp2_with fail
                go_ret
                exact ⟨ret_int HQ3.out.symm, below_drewN HX.out.2.2 _⟩
              · rw [h01] at f4 f4' HX ⊢
                clear h01
                go_wp2_with fail
                go_quiet (fail)
                go_wp2_with fail
                go_ret
                exact ⟨ret_int HQ3.out.symm, below_drewN HX.out.2.2 _⟩
end Go.Proofs.Ythkpkjigfaannaa
