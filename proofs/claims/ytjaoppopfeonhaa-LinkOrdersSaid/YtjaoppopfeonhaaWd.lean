/- The walk of Same where both links are equal; of SamePayloads, SameInts where both lists are. Condition: at most 10000 elements. -/
import Derived.Test.YtjaoppopfeonhaaWc
import Derived.Test.YtjaoppopfeonhaaLibP
import Derived.Deep.CutRange
namespace Go.Proofs.Ytjaoppopfeonhaa
open Go.RowKit
theorem eq3 (d : Nat) (x z : Int) (w : World) : (Op.equalIn (d + 1) 3 (.int .i64 x) (.int .i64 z)).run Try.prog w = .ok (x == z) w := by
  simp [Op.equalIn, run_underlying Try.underlying3]
theorem part3 (cs : Array Value) (i : Nat) (v : Value) (w : World) (h : cs[i]? = some v) : (part 3 cs i).run Try.prog w = .ok v w := by
  simp [part, isAgg, run_underlying Try.underlying3, h]
theorem eql23 (p r u p' r' u' : Int) (w : World) : (Op.equalIn (9998 + 1 + 1) 23 (.agg #[.int .i64 p, .int .i64 r, .int .i64 u]) (.agg #[.int .i64 p', .int .i64 r', .int .i64 u'])).run Try.prog w = .ok (p == p' && (r == r' && u == u')) w := by
  rw [run_equalIn_struct (P := Try.prog) w (9998 + 1) 23 _ _ (by kernel_rfl) (by kernel_rfl)]
  have hf : (Try.prog.fieldsOf 23).toList = [⟨"MinDelay", 3, 0, false, "", "", 0⟩, ⟨"MaxDelay", 3, 1, false, "", "", 8⟩, ⟨"Rate", 3, 2, false, "", "", 16⟩] := by kernel_rfl
  rw [hf]
  simp [Op.eqFields, Sem.run_bind, part3, eq3]
  by_cases h0 : p = p' <;> by_cases h1 : r = r' <;> by_cases h2 : u = u' <;> simp [h0, h1, h2]
theorem neq23 (p r u : Int) (w : World) : (binOp .neq 23 (.agg #[.int .i64 p, .int .i64 r, .int .i64 u]) (.agg #[.int .i64 p, .int .i64 r, .int .i64 u])).run Try.prog w = .ok (.bool false) w := by
  simp only [binOp]
  simp [Op.equal, Op.maxDepth, eql23]
theorem same_at {l l' : List Ev} (h : l.map Ev.em = l'.map Ev.em) {k : Nat} (hk : k < l.length) (hk' : k < l'.length) : l[k].em = l'[k].em := by
  have := congrArg (fun x => x[k]?) h
  simpa [List.getElem?_eq_getElem hk, List.getElem?_eq_getElem hk'] using this
/-- the string of bytes -/
def strB (l : List Nat) : ByteArray := strOfNums (l.map fun x : Nat => (x : Int))
theorem run_str (w : World) (n c : Nat) (A : Option Addr) (l : List Nat) (hR : Reads w w.heap.size 1 A n (u8s l)) : (convert 37 9 (.slice A n c)).run Try.prog w = .ok (.string (strB l)) w := by
  have hlen : l.length = n := by have := hR.1; rw [u8s_len] at this; omega
  rcases Nat.eq_zero_or_pos n with h0 | h0
  · subst h0
    have hl : l = [] := List.eq_nil_of_length_eq_zero hlen
    subst hl
    cases A with
    | none => exact run_convert_bytes_nil w 37 5 Try.underlying37 Try.underlying5 0 c 9 Try.underlying9
    | some a =>
      rw [run_convert_bytes_string w 37 9 5 _ 0 c Try.underlying37 Try.underlying5 Try.underlying9]
      exact run_bytesToString w a 0 c [] (run_loadCells_list (P := Try.prog) w a [] (fun j v hj => by simp at hj))
  · obtain ⟨b, off, rfl, _, hc⟩ := hR.plain h0 (by omega)
    refine run_convert_bytes_arg w 37 5 Try.underlying37 Try.underlying5 b off n c (l.map fun x : Nat => (x : Int)) (by simpa using hlen) (fun i hi => ?_) 9 Try.underlying9
    refine hc i _ ?_
    have hil : i < l.length := by omega
    simp [u8s, List.getD, hil]
/-- two flights laid in new blocks -/
def TwoI (wr : World) (t n : Int) (p : List Nat) (A : Option Addr) (c : Nat) (A' : Option Addr) (c' : Nat) (v6 v7 : Value) (W : World) : Prop :=
  ∃ g1 g2, v6 = .pointer (some ⟨g1, 0, none⟩) ∧ v7 = .pointer (some ⟨g2, 0, none⟩) ∧ Blk W g1 69 #[.int .i64 t, .int .i64 n, .slice A p.length c] ∧ Blk W g2 69 #[.int .i64 t, .int .i64 n, .slice A' p.length c'] ∧ Below wr.heap.size wr W
theorem twoI_a (wr : World) (t n : Int) (p : List Nat) (A : Option Addr) (c : Nat) (A' : Option Addr) (c' : Nat) :
    TwoI wr t n p A c A' c' (.pointer (some ⟨wr.heap.size, 0, none⟩)) (.pointer (some ⟨wr.heap.size + 1, 0, none⟩)) ((wr.alloc (.cells #[.int .i64 t, .int .i64 n, .slice A p.length c] 69)).alloc (.cells #[.int .i64 t, .int .i64 n, .slice A' p.length c'] 69)).drew := by
  have h2 := Blk.new (wr.alloc (.cells #[.int .i64 t, .int .i64 n, .slice A p.length c] 69)) 69 #[.int .i64 t, .int .i64 n, .slice A' p.length c']
  rw [World.size_alloc] at h2
  exact ⟨_, _, rfl, rfl, ((Blk.new wr 69 _).alloc _).drew, h2.drew, (((Below.refl _ wr).alloc (Nat.le_refl _) _).alloc (by simp) _).drew⟩
theorem twoI_b (wr : World) (t n : Int) (p : List Nat) (A : Option Addr) (c : Nat) (A' : Option Addr) (c' : Nat) :
    TwoI wr t n p A c A' c' (.pointer (some ⟨wr.heap.size + 1, 0, none⟩)) (.pointer (some ⟨wr.heap.size, 0, none⟩)) ((wr.alloc (.cells #[.int .i64 t, .int .i64 n, .slice A' p.length c'] 69)).alloc (.cells #[.int .i64 t, .int .i64 n, .slice A p.length c] 69)).drew := by
  have h2 := Blk.new (wr.alloc (.cells #[.int .i64 t, .int .i64 n, .slice A' p.length c'] 69)) 69 #[.int .i64 t, .int .i64 n, .slice A p.length c]
  rw [World.size_alloc] at h2
  exact ⟨_, _, rfl, rfl, h2.drew, ((Blk.new wr 69 _).alloc _).drew, (((Below.refl _ wr).alloc (Nat.le_refl _) _).alloc (by simp) _).drew⟩
set_option linter.unusedSimpArgs false in
set_option maxRecDepth 100000 in
set_option maxHeartbeats 2000000 in
theorem Same_true (mi ma ra : Int) (dn : Bool) (id nx : Int) (A A' : Option Addr) (m c c' : Nat) (l l' : List Ev) (w : World) (hR : Evs w A m l) (hR' : Evs w A' m l') (hm : m ≤ 10000) (he : l.map Ev.em = l'.map Ev.em) :
    Calls Try.prog 15 #[.agg (lkC mi ma ra dn id nx A m c), .agg (lkC mi ma ra dn id nx A' m c')] w fun e w' => e = .returned (.bool true) ∧ Below w.heap.size w w' := by
  unfold lkC
  have hb : Below w.heap.size w ((w.alloc (.cells #[.int .i64 mi, .int .i64 ma, .int .i64 ra, .bool dn, .int .i64 id, .int .i64 nx, .slice A m c] 26)).alloc (.cells #[.int .i64 mi, .int .i64 ma, .int .i64 ra, .bool dn, .int .i64 id, .int .i64 nx, .slice A' m c'] 26)) := ((Below.refl _ w).alloc (Nat.le_refl _) _).alloc (by simp) _
  have h1 := (Blk.new w 26 #[.int .i64 mi, .int .i64 ma, .int .i64 ra, .bool dn, .int .i64 id, .int .i64 nx, .slice A m c]).alloc (.cells #[.int .i64 mi, .int .i64 ma, .int .i64 ra, .bool dn, .int .i64 id, .int .i64 nx, .slice A' m c'] 26)
  have h2 := Blk.new (w.alloc (.cells #[.int .i64 mi, .int .i64 ma, .int .i64 ra, .bool dn, .int .i64 id, .int .i64 nx, .slice A m c] 26)) 26 #[.int .i64 mi, .int .i64 ma, .int .i64 ra, .bool dn, .int .i64 id, .int .i64 nx, .slice A' m c']
  rw [World.size_alloc] at h2
  have hq := neq23
  have hlen := hR.count
  have hlen' := hR'.count
  have HX := Lib.hid (And.intro (And.intro h1 h2) (And.intro hb (And.intro hR (And.intro hR' (And.intro hlen (And.intro hlen' he))))))
  clear h1 h2 hb hR hR' hlen hlen' he
  go_enter Try.func15, Try.ntmps15
  go_wp2_with fail
  generalize ((w.alloc (.cells #[.int .i64 mi, .int .i64 ma, .int .i64 ra, .bool dn, .int .i64 id, .int .i64 nx, .slice A m c] 26)).alloc (.cells #[.int .i64 mi, .int .i64 ma, .int .i64 ra, .bool dn, .int .i64 id, .int .i64 nx, .slice A' m c'] 26)) = W0 at *
  go_loopw [5] (fun i wr => ∃ k : Nat, k ≤ m ∧ i = .int .i64 k ∧ Below W0.heap.size W0 wr) (fun i _ => m - (intOf i).toNat)
  case atStart => exact ⟨0, by omega, rfl, Below.refl _ _⟩
  case round =>
    obtain ⟨k, hk, rfl, hbw⟩ := hrel
    have HB := Lib.hid hbw
    clear hbw
    have k1 : wr.cell? ⟨w.heap.size, 6, none⟩ = some (.slice A m c) := (HX.out.1.1.below HB.out HX.out.1.1.lt).cell 6
    have k2 : wr.cell? ⟨w.heap.size + 1, 6, none⟩ = some (.slice A' m c') := (HX.out.1.2.below HB.out HX.out.1.2.lt).cell 6
    by_cases hlt : k < m
    · have hbb := HX.out.2.1.trans (HB.out.mono HX.out.2.1.size)
      have hkl : k < l.length := by have := HX.out.2.2.2.2.1; omega
      have hkl' : k < l'.length := by have := HX.out.2.2.2.2.2.1; omega
      obtain ⟨b1, o1, rfl, hb1, hc1⟩ := (HX.out.2.2.1.up hbb).cells (by omega)
      obtain ⟨b2, o2, rfl, hb2, hc2⟩ := (HX.out.2.2.2.1.up hbb).cells (by omega)
      obtain ⟨d0, d1, d2⟩ := hc1 k _ (List.getElem?_eq_getElem hkl)
      obtain ⟨e0, e1, e2⟩ := hc2 k _ (List.getElem?_eq_getElem hkl')
      have hr1 := (HX.out.2.2.1.up hbb).ev _ (List.getElem_mem hkl)
      have hr2 := (HX.out.2.2.2.1.up hbb).ev _ (List.getElem_mem hkl')
      have hem := same_at HX.out.2.2.2.2.2.2 hkl hkl'
      clear hc1 hc2
      generalize l[k] = x at *
      generalize l'[k] = y at *
      obtain ⟨xt, xn, xA, xc, xp⟩ := x
      obtain ⟨yt, yn, yA, yc, yp⟩ := y
      simp only [Ev.em, Em.mk.injEq] at hem
      obtain ⟨rfl, rfl, rfl⟩ := hem
      have hr1' : Reads wr wr.heap.size 1 xA xp.length (u8s xp) := hr1
      have hr2' : Reads wr wr.heap.size 1 yA xp.length (u8s xp) := hr2
      dsimp only at d0 d1 d2 e0 e1 e2
      have HRR := Lib.hid (And.intro hr1' (And.intro hr2' hbb))
      clear hr1 hr2 hr1' hr2' hbb
      have i0 : (k : Int) < m := by omega
      have hsw := HB.out.size
      have hs0 := HX.out.1.2.lt
      have ha1 : Below wr.heap.size wr (wr.alloc (.cells #[.int .i64 0, .int .i64 0, .slice none 0 0] 69)) := (Below.refl _ _).alloc (Nat.le_refl _) _
      have ha2 : Below wr.heap.size wr ((wr.alloc (.cells #[.int .i64 0, .int .i64 0, .slice none 0 0] 69)).alloc (.cells #[.int .i64 0, .int .i64 0, .slice none 0 0] 69)) := ha1.alloc (by simp) _
      have hl1 : w.heap.size < wr.heap.size := by omega
      have hl2 : w.heap.size + 1 < wr.heap.size := by omega
      have k11 := (ha1.cell (p := ⟨w.heap.size, 6, none⟩) hl1).trans k1
      have k12 := (ha2.cell (p := ⟨w.heap.size, 6, none⟩) hl1).trans k1
      have k21 := (ha1.cell (p := ⟨w.heap.size + 1, 6, none⟩) hl2).trans k2
      have k22 := (ha2.cell (p := ⟨w.heap.size + 1, 6, none⟩) hl2).trans k2
      have d01 := (ha1.cell (p := ⟨b1, o1 + k * 3, none⟩) hb1).trans d0
      have d02 := (ha2.cell (p := ⟨b1, o1 + k * 3, none⟩) hb1).trans d0
      have d11 := (ha1.cell (p := ⟨b1, o1 + k * 3 + 1, none⟩) hb1).trans d1
      have d12 := (ha2.cell (p := ⟨b1, o1 + k * 3 + 1, none⟩) hb1).trans d1
      have d21 := (ha1.cell (p := ⟨b1, o1 + k * 3 + 2, none⟩) hb1).trans d2
      have d22 := (ha2.cell (p := ⟨b1, o1 + k * 3 + 2, none⟩) hb1).trans d2
      have e01 := (ha1.cell (p := ⟨b2, o2 + k * 3, none⟩) hb2).trans e0
      have e02 := (ha2.cell (p := ⟨b2, o2 + k * 3, none⟩) hb2).trans e0
      have e11 := (ha1.cell (p := ⟨b2, o2 + k * 3 + 1, none⟩) hb2).trans e1
      have e12 := (ha2.cell (p := ⟨b2, o2 + k * 3 + 1, none⟩) hb2).trans e1
      have e21 := (ha1.cell (p := ⟨b2, o2 + k * 3 + 2, none⟩) hb2).trans e2
      have e22 := (ha2.cell (p := ⟨b2, o2 + k * 3 + 2, none⟩) hb2).trans e2
      clear ha1 ha2
      go_upto_region 6 with fail
      go_cut [6, 7] from 50 to 59 (fun s6 s7 wx => TwoI wr xt xn xp xA xc yA yc s6 s7 wx)
      case first =>
        go_region
        · go_wp2_with fail
          go_meet
          exact twoI_a wr xt xn xp xA xc yA yc
        · go_wp2_with fail
          go_meet
          exact twoI_b wr xt xn xp xA xc yA yc
      case rest =>
        obtain ⟨g1, g2, rfl, rfl, hg1, hg2, hbc⟩ := hcut
        have HC := Lib.hid hbc
        have r1 := run_str wc xp.length xc xA xp (HRR.out.1.up hbc)
        have r2 := run_str wc xp.length yc yA xp (HRR.out.2.1.up hbc)
        have c0 : wc.cell? ⟨g1, 0, none⟩ = some (.int .i64 xt) := hg1.cell 0
        have c1 : wc.cell? ⟨g1, 1, none⟩ = some (.int .i64 xn) := hg1.cell 1
        have c2 : wc.cell? ⟨g1, 2, none⟩ = some (.slice xA xp.length xc) := hg1.cell 2
        have c3 : wc.cell? ⟨g2, 0, none⟩ = some (.int .i64 xt) := hg2.cell 0
        have c4 : wc.cell? ⟨g2, 1, none⟩ = some (.int .i64 xn) := hg2.cell 1
        have c5 : wc.cell? ⟨g2, 2, none⟩ = some (.slice yA xp.length yc) := hg2.cell 2
        clear hg1 hg2 hbc
        go_wp2_with fail
        go_roundw
        case rel => exact ⟨k + 1, by omega, by go_num, HB.out.trans (HC.out.mono HB.out.size)⟩
        case measure => simp [intOf]; omega
    · have hbb := HX.out.2.1.trans (HB.out.mono HX.out.2.1.size)
      go_wp2_with fail
      go_ret
      exact ⟨by simp, hbb⟩
set_option maxRecDepth 100000 in
set_option maxHeartbeats 1000000 in
theorem SameInts_true (A A' : Option Addr) (m c c' : Nat) (l : List Int) (w : World) (hR : Reads w w.heap.size 1 A m (i64s l)) (hR' : Reads w w.heap.size 1 A' m (i64s l)) (hm : m ≤ 10000) :
    Calls Try.prog 20 #[.slice A m c, .slice A' m c'] w fun e w' => e = .returned (.bool true) ∧ Below w.heap.size w w' := by
  have hl : l.length = m := by have := hR.1; rw [i64s_len] at this; omega
  have HX := Lib.hid (And.intro hR (And.intro hR' hl))
  clear hR hR' hl
  go_enter Try.func20, Try.ntmps20
  go_wp2_with fail
  go_loopw [5] (fun i wr => ∃ k : Nat, k ≤ m ∧ i = .int .i64 k ∧ Below w.heap.size w wr) (fun i _ => m - (intOf i).toNat)
  case atStart => exact ⟨0, by omega, rfl, Below.refl _ _⟩
  case round =>
    obtain ⟨k, hk, rfl, hbw⟩ := hrel
    by_cases hlt : k < m
    · have hkl : k < l.length := by have := HX.out.2.2; omega
      obtain ⟨b1, o1, rfl, _, hc1⟩ := (HX.out.1.up hbw).plain (by omega) (by omega)
      obtain ⟨b2, o2, rfl, _, hc2⟩ := (HX.out.2.1.up hbw).plain (by omega) (by omega)
      have d0 := hc1 k (.int .i64 l[k]) (by simp [i64s, List.getElem?_eq_getElem hkl])
      have d1 := hc2 k (.int .i64 l[k]) (by simp [i64s, List.getElem?_eq_getElem hkl])
      generalize l[k] = x at *
      clear hc1 hc2
      have HB := Lib.hid hbw
      clear hbw
      have i0 : (k : Int) < m := by omega
      go_wp2
      go_quiet (fail)
      go_wp2
      go_roundw
      case rel => exact ⟨k + 1, by omega, by go_num, below_drewN HB.out _⟩
      case measure => simp [intOf]; omega
    · go_wp2
      go_ret
      exact ⟨rfl, hbw⟩
end Go.Proofs.Ytjaoppopfeonhaa
