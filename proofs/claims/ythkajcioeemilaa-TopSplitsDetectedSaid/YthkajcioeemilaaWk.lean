/- The walk of Apply. Conditions: a site in order, the operation allowed. -/
import Derived.Test.YthkajcioeemilaaWi
namespace Go.Proofs.Ythkajcioeemilaa
open Go.RowKit
/-- how a lineage is extended -/
def ExtR (l l9 : List Sp) (e b n : Int) : Prop := (l = [] ∨ (hdS l).e ≠ e) ∧ l9 = l ++ [⟨e, b + 1, n⟩] ∨ ∃ l0 x, l = l0 ++ [x] ∧ x.e = e ∧ l9 = l0 ++ [⟨x.e, x.f, n⟩]
theorem ext_ok (w W : World) (tb : Nat) (s : Si) (l9 : List Sp) (e b n : Int) (h : TrI w tb s W) (hx : ExtR s.l l9 e b n) (hn : s.l.length ≤ 100) (hb : 0 ≤ b ∧ b ≤ 1073741824) : Calls Try.prog 24 #[.pointer (some ⟨tb, 0, none⟩), .int .i64 e, .int .i64 b, .int .i64 n] W fun y W' => y = .returned (.tuple #[]) ∧ TrI w tb { s with l := l9 } W' := by
  rcases hx with ⟨h1, rfl⟩ | ⟨l0, x, h1, h2, rfl⟩
  · exact extNew_ok w W tb s e b n h h1 hn hb
  · exact extSame_ok w W tb s l0 x e b n h h1 h2 hn
theorem TrI.put {w W : World} {tb : Nat} {s : Si} (h : TrI w tb s W) (n e : Int) : TrI w tb { s with ap := n, ep := e } ((W.setCell ⟨tb, 3, none⟩ (.int .i64 n)).setCell ⟨tb, 2, none⟩ (.int .i64 e)) := by
  obtain ⟨A, c, hB, hL⟩ := h.blk
  have hne : ∀ b, (Value.slice A s.l.length c).ownBlock = some b → b ≠ tb := tag_ne hL hB (by decide)
  exact ⟨⟨A, c, (hB.set_ 3 _).set_ 2 _, own_far (own_far hL (p := ⟨tb, 3, none⟩) (fun e9 => hne tb e9 rfl) _) (p := ⟨tb, 2, none⟩) (fun e9 => hne tb e9 rfl) _⟩, h.gw, (h.bel.setCell h.gw _).setCell h.gw _⟩
theorem max_run (a b n : Int) (h : n = max a b) : ∀ ts t w', (Builtin.max_ ts t #[.int .i64 a, .int .i64 b]).run Try.prog w' = .ok (.int .i64 n) w' := by
  intro ts t w'
  subst h
  simp [Builtin.max_, Builtin.max2]
  omega
set_option linter.unusedSimpArgs false in
set_option maxRecDepth 100000 in
set_option maxHeartbeats 8000000 in
theorem Apply_ok (s : Si) (A : Option Addr) (c : Nat) (l9 : List Sp) (n : Int) (w : World) (hR : SiR w A s) (h : SiOk s) (hr : s.role = 1 ∨ s.role = 2) (he : 1 ≤ s.ep) (hn : s.ap < n) (hn' : n ≤ 1073741824) (hx : ExtR s.l l9 s.ep s.ap n) : Calls Try.prog 11 #[.agg (siV s A c), .int .i64 s.ep, .int .i64 n] w (SiRet w { s with l := l9, ap := n }) := by
  obtain ⟨num, role, ep, ap, l, src, al, co⟩ := s
  have hlen := h.len
  have HAP := Lib.hid h.ap
  have hepm := h.ep.2
  dsimp only at hr he hn hx hlen HAP hepm ⊢
  obtain ⟨mx, hmx⟩ : ∃ m : Int, m = max ep n := ⟨_, rfl⟩
  have hmax := max_run _ _ _ hmx
  have hmx2 : mx ≤ 1073741824 := by omega
  have hez : (ep != 0) = true := by simp; omega
  clear hmx
  rcases hr with hr | hr
  · subst hr
    have g1 : Blk ((w.alloc (.cells #[.int .i64 num, .int .i64 1, .int .i64 ep, .int .i64 ap, .slice A l.length c, .int .i64 src, .bool al, .bool co] 34)).alloc (.cells #[.int .i64 0, .int .i64 0, .int .i64 0, .int .i64 0, .slice none 0 0, .int .i64 0, .bool false, .bool false] 34)) w.heap.size 34 #[.int .i64 num, .int .i64 1, .int .i64 ep, .int .i64 ap, .slice A l.length c, .int .i64 src, .bool al, .bool co] := (Blk.new w 34 #[.int .i64 num, .int .i64 1, .int .i64 ep, .int .i64 ap, .slice A l.length c, .int .i64 src, .bool al, .bool co]).alloc _
    have g2 := Blk.new (w.alloc (.cells #[.int .i64 num, .int .i64 1, .int .i64 ep, .int .i64 ap, .slice A l.length c, .int .i64 src, .bool al, .bool co] 34)) 34 #[.int .i64 0, .int .i64 0, .int .i64 0, .int .i64 0, .slice none 0 0, .int .i64 0, .bool false, .bool false]
    rw [World.size_alloc] at g2
    have hbV : Below w.heap.size w ((w.alloc (.cells #[.int .i64 num, .int .i64 1, .int .i64 ep, .int .i64 ap, .slice A l.length c, .int .i64 src, .bool al, .bool co] 34)).alloc (.cells #[.int .i64 0, .int .i64 0, .int .i64 0, .int .i64 0, .slice none 0 0, .int .i64 0, .bool false, .bool false] 34)) := ((Below.refl _ w).alloc (Nat.le_refl _) _).alloc (by simp) _
    have hsV : ((w.alloc (.cells #[.int .i64 num, .int .i64 1, .int .i64 ep, .int .i64 ap, .slice A l.length c, .int .i64 src, .bool al, .bool co] 34)).alloc (.cells #[.int .i64 0, .int .i64 0, .int .i64 0, .int .i64 0, .slice none 0 0, .int .i64 0, .bool false, .bool false] 34)).heap.size = w.heap.size + 2 := by simp
    have HX := Lib.hid (And.intro hR h)
    have HV := Lib.hid (And.intro g1 (And.intro g2 (And.intro hbV hsV)))
    clear hR h g1 g2 hbV hsV
    unfold siV
    dsimp only
    go_enter Try.func11, Try.ntmps11
    go_upto_region 1 with fail
    generalize ((w.alloc (.cells #[.int .i64 num, .int .i64 1, .int .i64 ep, .int .i64 ap, .slice A l.length c, .int .i64 src, .bool al, .bool co] 34)).alloc (.cells #[.int .i64 0, .int .i64 0, .int .i64 0, .int .i64 0, .slice none 0 0, .int .i64 0, .bool false, .bool false] 34)) = V at *
    have hB1 := HV.out.1
    have x0 : V.cell? ⟨w.heap.size, 0, none⟩ = some (.int .i64 num) := hB1.cell 0
    have x1 : V.cell? ⟨w.heap.size, 1, none⟩ = some (.int .i64 1) := hB1.cell 1
    have x2 : V.cell? ⟨w.heap.size, 2, none⟩ = some (.int .i64 ep) := hB1.cell 2
    have x3 : V.cell? ⟨w.heap.size, 3, none⟩ = some (.int .i64 ap) := hB1.cell 3
    have x4 : V.cell? ⟨w.heap.size, 4, none⟩ = some (.slice A l.length c) := hB1.cell 4
    have x5 : V.cell? ⟨w.heap.size, 5, none⟩ = some (.int .i64 src) := hB1.cell 5
    have x6 : V.cell? ⟨w.heap.size, 6, none⟩ = some (.bool al) := hB1.cell 6
    have x7 : V.cell? ⟨w.heap.size, 7, none⟩ = some (.bool co) := hB1.cell 7
    clear hB1
    have hl1 := HV.out.1.lt
    have hl2 := HV.out.2.1.lt
    go_wp2_with fail
    refine (begin_ok ⟨num, 1, ep, ap, l, src, al, co⟩ A c V (HX.out.1.up HV.out.2.2.1) HX.out.2).mono ?_
    rintro z w1 ⟨tb, rfl, hT⟩
    have hB1 := HV.out.1.below hT.bel hl1
    have HT := Lib.hid hT
    clear hT x0 x1 x2 x3 x4 x5 x6 x7
    have x0 : w1.cell? ⟨w.heap.size, 0, none⟩ = some (.int .i64 num) := hB1.cell 0
    have x1 : w1.cell? ⟨w.heap.size, 1, none⟩ = some (.int .i64 1) := hB1.cell 1
    have x2 : w1.cell? ⟨w.heap.size, 2, none⟩ = some (.int .i64 ep) := hB1.cell 2
    have x3 : w1.cell? ⟨w.heap.size, 3, none⟩ = some (.int .i64 ap) := hB1.cell 3
    have x4 : w1.cell? ⟨w.heap.size, 4, none⟩ = some (.slice A l.length c) := hB1.cell 4
    have x5 : w1.cell? ⟨w.heap.size, 5, none⟩ = some (.int .i64 src) := hB1.cell 5
    have x6 : w1.cell? ⟨w.heap.size, 6, none⟩ = some (.bool al) := hB1.cell 6
    have x7 : w1.cell? ⟨w.heap.size, 7, none⟩ = some (.bool co) := hB1.cell 7
    clear hB1
    go_wp2_with fail
    refine (demand_ok tb 18 w1).mono ?_
    rintro _ _ ⟨rfl, rfl⟩
    go_wp2_with fail
    refine (demand_ok tb 13 w1).mono ?_
    rintro _ _ ⟨rfl, rfl⟩
    go_wp2_with fail
    refine (demand_ok tb 2 w1).mono ?_
    rintro _ _ ⟨rfl, rfl⟩
    go_wp2_with fail
    refine (demand_ok tb 8 w1).mono ?_
    rintro _ _ ⟨rfl, rfl⟩
    have hE := HT.out.blk
    obtain ⟨A1, c1, hE1, hE2⟩ := hE
    have e8 : w1.cell? ⟨tb, 8, none⟩ = some (.int .i64 0) := hE1.cell 8
    clear hE1 hE2
    go_wp2_with fail
    refine (ext_ok V w1 tb _ l9 ep ap n HT.out hx hlen HAP.out).mono ?_
    rintro z w2 ⟨rfl, hT⟩
    clear HT e8
    have hB1 := HV.out.1.below hT.bel hl1
    have HT := Lib.hid hT
    clear hT x0 x1 x2 x3 x4 x5 x6 x7
    have x0 : w2.cell? ⟨w.heap.size, 0, none⟩ = some (.int .i64 num) := hB1.cell 0
    have x1 : w2.cell? ⟨w.heap.size, 1, none⟩ = some (.int .i64 1) := hB1.cell 1
    have x2 : w2.cell? ⟨w.heap.size, 2, none⟩ = some (.int .i64 ep) := hB1.cell 2
    have x3 : w2.cell? ⟨w.heap.size, 3, none⟩ = some (.int .i64 ap) := hB1.cell 3
    have x4 : w2.cell? ⟨w.heap.size, 4, none⟩ = some (.slice A l.length c) := hB1.cell 4
    have x5 : w2.cell? ⟨w.heap.size, 5, none⟩ = some (.int .i64 src) := hB1.cell 5
    have x6 : w2.cell? ⟨w.heap.size, 6, none⟩ = some (.bool al) := hB1.cell 6
    have x7 : w2.cell? ⟨w.heap.size, 7, none⟩ = some (.bool co) := hB1.cell 7
    clear hB1
    have hE := HT.out.blk
    obtain ⟨A1, c1, hE1, hE2⟩ := hE
    have e2 : w2.cell? ⟨tb, 2, none⟩ = some (.int .i64 ep) := hE1.cell 2
    have e3 : w2.cell? ⟨tb, 3, none⟩ = some (.int .i64 ap) := hE1.cell 3
    have f2 : w2.frozen? ⟨tb, 2, none⟩ = false := hE1.frozen 2
    have f3 : w2.frozen? ⟨tb, 3, none⟩ = false := hE1.frozen 3
    have hgl := hE1.lt
    clear hE1 hE2
    have hT := HT.out.put n ep
    go_upto_region 9 with fail
    generalize ((w2.setCell ⟨tb, 3, none⟩ (.int .i64 n)).setCell ⟨tb, 2, none⟩ (.int .i64 ep)) = w3 at *
    clear HT e2 e3 f2 f3 hgl
    have hB1 := HV.out.1.below hT.bel hl1
    have HT := Lib.hid hT
    clear hT x0 x1 x2 x3 x4 x5 x6 x7
    have x0 : w3.cell? ⟨w.heap.size, 0, none⟩ = some (.int .i64 num) := hB1.cell 0
    have x1 : w3.cell? ⟨w.heap.size, 1, none⟩ = some (.int .i64 1) := hB1.cell 1
    have x2 : w3.cell? ⟨w.heap.size, 2, none⟩ = some (.int .i64 ep) := hB1.cell 2
    have x3 : w3.cell? ⟨w.heap.size, 3, none⟩ = some (.int .i64 ap) := hB1.cell 3
    have x4 : w3.cell? ⟨w.heap.size, 4, none⟩ = some (.slice A l.length c) := hB1.cell 4
    have x5 : w3.cell? ⟨w.heap.size, 5, none⟩ = some (.int .i64 src) := hB1.cell 5
    have x6 : w3.cell? ⟨w.heap.size, 6, none⟩ = some (.bool al) := hB1.cell 6
    have x7 : w3.cell? ⟨w.heap.size, 7, none⟩ = some (.bool co) := hB1.cell 7
    clear hB1
    go_wp2_with fail
    refine (end_ok V w3 tb _ HT.out).mono ?_
    rintro z w9 ⟨⟨A9, c9, rfl, hR9, hN9⟩, hb9⟩
    unfold siV
    dsimp only
    have hG := HV.out.2.1.below hb9 hl2
    have HE := Lib.hid (And.intro hR9 (And.intro hN9 (And.intro hb9 hG)))
    clear hR9 hN9 hb9 hG x0 x1 x2 x3 x4 x5 x6 x7
    have y0 : w9.cell? ⟨w.heap.size + 1, 0, none⟩ = some (.int .i64 0) := HE.out.2.2.2.cell 0
    have z0 : w9.frozen? ⟨w.heap.size + 1, 0, none⟩ = false := HE.out.2.2.2.frozen 0
    have y1 : w9.cell? ⟨w.heap.size + 1, 1, none⟩ = some (.int .i64 0) := HE.out.2.2.2.cell 1
    have z1 : w9.frozen? ⟨w.heap.size + 1, 1, none⟩ = false := HE.out.2.2.2.frozen 1
    have y2 : w9.cell? ⟨w.heap.size + 1, 2, none⟩ = some (.int .i64 0) := HE.out.2.2.2.cell 2
    have z2 : w9.frozen? ⟨w.heap.size + 1, 2, none⟩ = false := HE.out.2.2.2.frozen 2
    have y3 : w9.cell? ⟨w.heap.size + 1, 3, none⟩ = some (.int .i64 0) := HE.out.2.2.2.cell 3
    have z3 : w9.frozen? ⟨w.heap.size + 1, 3, none⟩ = false := HE.out.2.2.2.frozen 3
    have y4 : w9.cell? ⟨w.heap.size + 1, 4, none⟩ = some (.slice none 0 0) := HE.out.2.2.2.cell 4
    have z4 : w9.frozen? ⟨w.heap.size + 1, 4, none⟩ = false := HE.out.2.2.2.frozen 4
    have y5 : w9.cell? ⟨w.heap.size + 1, 5, none⟩ = some (.int .i64 0) := HE.out.2.2.2.cell 5
    have z5 : w9.frozen? ⟨w.heap.size + 1, 5, none⟩ = false := HE.out.2.2.2.frozen 5
    have y6 : w9.cell? ⟨w.heap.size + 1, 6, none⟩ = some (.bool false) := HE.out.2.2.2.cell 6
    have z6 : w9.frozen? ⟨w.heap.size + 1, 6, none⟩ = false := HE.out.2.2.2.frozen 6
    have y7 : w9.cell? ⟨w.heap.size + 1, 7, none⟩ = some (.bool false) := HE.out.2.2.2.cell 7
    have z7 : w9.frozen? ⟨w.heap.size + 1, 7, none⟩ = false := HE.out.2.2.2.frozen 7
    have hfar : ∀ ad, A9 = some ad → ad.block ≠ w.heap.size + 1 := fun ad h9 => by
      have := HE.out.2.1 ad h9
      have := HV.out.2.2.2
      omega
    have hF := Lib.hid (show ∀ u0 u1 u2 u3 u4 u5 u6 u7 : Value, Below w.heap.size w ((((((((w9.setCell ⟨w.heap.size + 1, 0, none⟩ u0).setCell ⟨w.heap.size + 1, 1, none⟩ u1).setCell ⟨w.heap.size + 1, 2, none⟩ u2).setCell ⟨w.heap.size + 1, 3, none⟩ u3).setCell ⟨w.heap.size + 1, 4, none⟩ u4).setCell ⟨w.heap.size + 1, 5, none⟩ u5).setCell ⟨w.heap.size + 1, 6, none⟩ u6).setCell ⟨w.heap.size + 1, 7, none⟩ u7) from fun u0 u1 u2 u3 u4 u5 u6 u7 => (((((((((HV.out.2.2.1.trans (HE.out.2.2.1.mono HV.out.2.2.1.size)).setCell (Nat.le_succ _) _).setCell (Nat.le_succ _) _).setCell (Nat.le_succ _) _).setCell (Nat.le_succ _) _).setCell (Nat.le_succ _) _).setCell (Nat.le_succ _) _).setCell (Nat.le_succ _) _).setCell (Nat.le_succ _) _))
    have hQ := Lib.hid (show ∀ u0 u1 u2 u3 u4 u5 u6 u7 : Value, Reads ((((((((w9.setCell ⟨w.heap.size + 1, 0, none⟩ u0).setCell ⟨w.heap.size + 1, 1, none⟩ u1).setCell ⟨w.heap.size + 1, 2, none⟩ u2).setCell ⟨w.heap.size + 1, 3, none⟩ u3).setCell ⟨w.heap.size + 1, 4, none⟩ u4).setCell ⟨w.heap.size + 1, 5, none⟩ u5).setCell ⟨w.heap.size + 1, 6, none⟩ u6).setCell ⟨w.heap.size + 1, 7, none⟩ u7) w9.heap.size 3 A9 _ _ from fun u0 u1 u2 u3 u4 u5 u6 u7 => (Reads.far (Reads.far (Reads.far (Reads.far (Reads.far (Reads.far (Reads.far (Reads.far HE.out.1 (p := ⟨w.heap.size + 1, 0, none⟩) hfar u0) (p := ⟨w.heap.size + 1, 1, none⟩) hfar u1) (p := ⟨w.heap.size + 1, 2, none⟩) hfar u2) (p := ⟨w.heap.size + 1, 3, none⟩) hfar u3) (p := ⟨w.heap.size + 1, 4, none⟩) hfar u4) (p := ⟨w.heap.size + 1, 5, none⟩) hfar u5) (p := ⟨w.heap.size + 1, 6, none⟩) hfar u6) (p := ⟨w.heap.size + 1, 7, none⟩) hfar u7))
    have hl9 := HE.out.2.2.2.lt
    go_wp2_with fail
    refine bodyPost_ret (results_cell_tmp rfl _ _ _ _ _ _ rfl ((((((((HE.out.2.2.2.set_ 0 _).set_ 1 _).set_ 2 _).set_ 3 _).set_ 4 _).set_ 5 _).set_ 6 _).set_ 7 _) Try.underlying34 rfl info34) rfl ⟨⟨A9, c9, rfl, ?_, fun ad h9 => ?_⟩, hF.out _ _ _ _ _ _ _ _⟩
    · exact Reads.more (hQ.out _ _ _ _ _ _ _ _) (by simp)
    · have := HE.out.2.1 ad h9
      have := HV.out.2.2.2
      omega
  · subst hr
    have g1 : Blk ((w.alloc (.cells #[.int .i64 num, .int .i64 2, .int .i64 ep, .int .i64 ap, .slice A l.length c, .int .i64 src, .bool al, .bool co] 34)).alloc (.cells #[.int .i64 0, .int .i64 0, .int .i64 0, .int .i64 0, .slice none 0 0, .int .i64 0, .bool false, .bool false] 34)) w.heap.size 34 #[.int .i64 num, .int .i64 2, .int .i64 ep, .int .i64 ap, .slice A l.length c, .int .i64 src, .bool al, .bool co] := (Blk.new w 34 #[.int .i64 num, .int .i64 2, .int .i64 ep, .int .i64 ap, .slice A l.length c, .int .i64 src, .bool al, .bool co]).alloc _
    have g2 := Blk.new (w.alloc (.cells #[.int .i64 num, .int .i64 2, .int .i64 ep, .int .i64 ap, .slice A l.length c, .int .i64 src, .bool al, .bool co] 34)) 34 #[.int .i64 0, .int .i64 0, .int .i64 0, .int .i64 0, .slice none 0 0, .int .i64 0, .bool false, .bool false]
    rw [World.size_alloc] at g2
    have hbV : Below w.heap.size w ((w.alloc (.cells #[.int .i64 num, .int .i64 2, .int .i64 ep, .int .i64 ap, .slice A l.length c, .int .i64 src, .bool al, .bool co] 34)).alloc (.cells #[.int .i64 0, .int .i64 0, .int .i64 0, .int .i64 0, .slice none 0 0, .int .i64 0, .bool false, .bool false] 34)) := ((Below.refl _ w).alloc (Nat.le_refl _) _).alloc (by simp) _
    have hsV : ((w.alloc (.cells #[.int .i64 num, .int .i64 2, .int .i64 ep, .int .i64 ap, .slice A l.length c, .int .i64 src, .bool al, .bool co] 34)).alloc (.cells #[.int .i64 0, .int .i64 0, .int .i64 0, .int .i64 0, .slice none 0 0, .int .i64 0, .bool false, .bool false] 34)).heap.size = w.heap.size + 2 := by simp
    have HX := Lib.hid (And.intro hR h)
    have HV := Lib.hid (And.intro g1 (And.intro g2 (And.intro hbV hsV)))
    clear hR h g1 g2 hbV hsV
    unfold siV
    dsimp only
    go_enter Try.func11, Try.ntmps11
    go_upto_region 1 with fail
    generalize ((w.alloc (.cells #[.int .i64 num, .int .i64 2, .int .i64 ep, .int .i64 ap, .slice A l.length c, .int .i64 src, .bool al, .bool co] 34)).alloc (.cells #[.int .i64 0, .int .i64 0, .int .i64 0, .int .i64 0, .slice none 0 0, .int .i64 0, .bool false, .bool false] 34)) = V at *
    have hB1 := HV.out.1
    have x0 : V.cell? ⟨w.heap.size, 0, none⟩ = some (.int .i64 num) := hB1.cell 0
    have x1 : V.cell? ⟨w.heap.size, 1, none⟩ = some (.int .i64 2) := hB1.cell 1
    have x2 : V.cell? ⟨w.heap.size, 2, none⟩ = some (.int .i64 ep) := hB1.cell 2
    have x3 : V.cell? ⟨w.heap.size, 3, none⟩ = some (.int .i64 ap) := hB1.cell 3
    have x4 : V.cell? ⟨w.heap.size, 4, none⟩ = some (.slice A l.length c) := hB1.cell 4
    have x5 : V.cell? ⟨w.heap.size, 5, none⟩ = some (.int .i64 src) := hB1.cell 5
    have x6 : V.cell? ⟨w.heap.size, 6, none⟩ = some (.bool al) := hB1.cell 6
    have x7 : V.cell? ⟨w.heap.size, 7, none⟩ = some (.bool co) := hB1.cell 7
    clear hB1
    have hl1 := HV.out.1.lt
    have hl2 := HV.out.2.1.lt
    go_wp2_with fail
    refine (begin_ok ⟨num, 2, ep, ap, l, src, al, co⟩ A c V (HX.out.1.up HV.out.2.2.1) HX.out.2).mono ?_
    rintro z w1 ⟨tb, rfl, hT⟩
    have hB1 := HV.out.1.below hT.bel hl1
    have HT := Lib.hid hT
    clear hT x0 x1 x2 x3 x4 x5 x6 x7
    have x0 : w1.cell? ⟨w.heap.size, 0, none⟩ = some (.int .i64 num) := hB1.cell 0
    have x1 : w1.cell? ⟨w.heap.size, 1, none⟩ = some (.int .i64 2) := hB1.cell 1
    have x2 : w1.cell? ⟨w.heap.size, 2, none⟩ = some (.int .i64 ep) := hB1.cell 2
    have x3 : w1.cell? ⟨w.heap.size, 3, none⟩ = some (.int .i64 ap) := hB1.cell 3
    have x4 : w1.cell? ⟨w.heap.size, 4, none⟩ = some (.slice A l.length c) := hB1.cell 4
    have x5 : w1.cell? ⟨w.heap.size, 5, none⟩ = some (.int .i64 src) := hB1.cell 5
    have x6 : w1.cell? ⟨w.heap.size, 6, none⟩ = some (.bool al) := hB1.cell 6
    have x7 : w1.cell? ⟨w.heap.size, 7, none⟩ = some (.bool co) := hB1.cell 7
    clear hB1
    go_wp2_with fail
    refine (demand_ok tb 18 w1).mono ?_
    rintro _ _ ⟨rfl, rfl⟩
    go_wp2_with fail
    refine (demand_ok tb 13 w1).mono ?_
    rintro _ _ ⟨rfl, rfl⟩
    go_wp2_with fail
    refine (demand_ok tb 2 w1).mono ?_
    rintro _ _ ⟨rfl, rfl⟩
    go_wp2_with fail
    refine (demand_ok tb 8 w1).mono ?_
    rintro _ _ ⟨rfl, rfl⟩
    have hE := HT.out.blk
    obtain ⟨A1, c1, hE1, hE2⟩ := hE
    have e8 : w1.cell? ⟨tb, 8, none⟩ = some (.int .i64 0) := hE1.cell 8
    clear hE1 hE2
    go_wp2_with fail
    refine (ext_ok V w1 tb _ l9 ep ap n HT.out hx hlen HAP.out).mono ?_
    rintro z w2 ⟨rfl, hT⟩
    clear HT e8
    have hB1 := HV.out.1.below hT.bel hl1
    have HT := Lib.hid hT
    clear hT x0 x1 x2 x3 x4 x5 x6 x7
    have x0 : w2.cell? ⟨w.heap.size, 0, none⟩ = some (.int .i64 num) := hB1.cell 0
    have x1 : w2.cell? ⟨w.heap.size, 1, none⟩ = some (.int .i64 2) := hB1.cell 1
    have x2 : w2.cell? ⟨w.heap.size, 2, none⟩ = some (.int .i64 ep) := hB1.cell 2
    have x3 : w2.cell? ⟨w.heap.size, 3, none⟩ = some (.int .i64 ap) := hB1.cell 3
    have x4 : w2.cell? ⟨w.heap.size, 4, none⟩ = some (.slice A l.length c) := hB1.cell 4
    have x5 : w2.cell? ⟨w.heap.size, 5, none⟩ = some (.int .i64 src) := hB1.cell 5
    have x6 : w2.cell? ⟨w.heap.size, 6, none⟩ = some (.bool al) := hB1.cell 6
    have x7 : w2.cell? ⟨w.heap.size, 7, none⟩ = some (.bool co) := hB1.cell 7
    clear hB1
    have hE := HT.out.blk
    obtain ⟨A1, c1, hE1, hE2⟩ := hE
    have e2 : w2.cell? ⟨tb, 2, none⟩ = some (.int .i64 ep) := hE1.cell 2
    have e3 : w2.cell? ⟨tb, 3, none⟩ = some (.int .i64 ap) := hE1.cell 3
    have f2 : w2.frozen? ⟨tb, 2, none⟩ = false := hE1.frozen 2
    have f3 : w2.frozen? ⟨tb, 3, none⟩ = false := hE1.frozen 3
    have hgl := hE1.lt
    clear hE1 hE2
    have hT := HT.out.put n ep
    go_upto_region 9 with fail
    generalize ((w2.setCell ⟨tb, 3, none⟩ (.int .i64 n)).setCell ⟨tb, 2, none⟩ (.int .i64 ep)) = w3 at *
    clear HT e2 e3 f2 f3 hgl
    have hB1 := HV.out.1.below hT.bel hl1
    have HT := Lib.hid hT
    clear hT x0 x1 x2 x3 x4 x5 x6 x7
    have x0 : w3.cell? ⟨w.heap.size, 0, none⟩ = some (.int .i64 num) := hB1.cell 0
    have x1 : w3.cell? ⟨w.heap.size, 1, none⟩ = some (.int .i64 2) := hB1.cell 1
    have x2 : w3.cell? ⟨w.heap.size, 2, none⟩ = some (.int .i64 ep) := hB1.cell 2
    have x3 : w3.cell? ⟨w.heap.size, 3, none⟩ = some (.int .i64 ap) := hB1.cell 3
    have x4 : w3.cell? ⟨w.heap.size, 4, none⟩ = some (.slice A l.length c) := hB1.cell 4
    have x5 : w3.cell? ⟨w.heap.size, 5, none⟩ = some (.int .i64 src) := hB1.cell 5
    have x6 : w3.cell? ⟨w.heap.size, 6, none⟩ = some (.bool al) := hB1.cell 6
    have x7 : w3.cell? ⟨w.heap.size, 7, none⟩ = some (.bool co) := hB1.cell 7
    clear hB1
    go_wp2_with fail
    refine (end_ok V w3 tb _ HT.out).mono ?_
    rintro z w9 ⟨⟨A9, c9, rfl, hR9, hN9⟩, hb9⟩
    unfold siV
    dsimp only
    have hG := HV.out.2.1.below hb9 hl2
    have HE := Lib.hid (And.intro hR9 (And.intro hN9 (And.intro hb9 hG)))
    clear hR9 hN9 hb9 hG x0 x1 x2 x3 x4 x5 x6 x7
    have y0 : w9.cell? ⟨w.heap.size + 1, 0, none⟩ = some (.int .i64 0) := HE.out.2.2.2.cell 0
    have z0 : w9.frozen? ⟨w.heap.size + 1, 0, none⟩ = false := HE.out.2.2.2.frozen 0
    have y1 : w9.cell? ⟨w.heap.size + 1, 1, none⟩ = some (.int .i64 0) := HE.out.2.2.2.cell 1
    have z1 : w9.frozen? ⟨w.heap.size + 1, 1, none⟩ = false := HE.out.2.2.2.frozen 1
    have y2 : w9.cell? ⟨w.heap.size + 1, 2, none⟩ = some (.int .i64 0) := HE.out.2.2.2.cell 2
    have z2 : w9.frozen? ⟨w.heap.size + 1, 2, none⟩ = false := HE.out.2.2.2.frozen 2
    have y3 : w9.cell? ⟨w.heap.size + 1, 3, none⟩ = some (.int .i64 0) := HE.out.2.2.2.cell 3
    have z3 : w9.frozen? ⟨w.heap.size + 1, 3, none⟩ = false := HE.out.2.2.2.frozen 3
    have y4 : w9.cell? ⟨w.heap.size + 1, 4, none⟩ = some (.slice none 0 0) := HE.out.2.2.2.cell 4
    have z4 : w9.frozen? ⟨w.heap.size + 1, 4, none⟩ = false := HE.out.2.2.2.frozen 4
    have y5 : w9.cell? ⟨w.heap.size + 1, 5, none⟩ = some (.int .i64 0) := HE.out.2.2.2.cell 5
    have z5 : w9.frozen? ⟨w.heap.size + 1, 5, none⟩ = false := HE.out.2.2.2.frozen 5
    have y6 : w9.cell? ⟨w.heap.size + 1, 6, none⟩ = some (.bool false) := HE.out.2.2.2.cell 6
    have z6 : w9.frozen? ⟨w.heap.size + 1, 6, none⟩ = false := HE.out.2.2.2.frozen 6
    have y7 : w9.cell? ⟨w.heap.size + 1, 7, none⟩ = some (.bool false) := HE.out.2.2.2.cell 7
    have z7 : w9.frozen? ⟨w.heap.size + 1, 7, none⟩ = false := HE.out.2.2.2.frozen 7
    have hfar : ∀ ad, A9 = some ad → ad.block ≠ w.heap.size + 1 := fun ad h9 => by
      have := HE.out.2.1 ad h9
      have := HV.out.2.2.2
      omega
    have hF := Lib.hid (show ∀ u0 u1 u2 u3 u4 u5 u6 u7 : Value, Below w.heap.size w ((((((((w9.setCell ⟨w.heap.size + 1, 0, none⟩ u0).setCell ⟨w.heap.size + 1, 1, none⟩ u1).setCell ⟨w.heap.size + 1, 2, none⟩ u2).setCell ⟨w.heap.size + 1, 3, none⟩ u3).setCell ⟨w.heap.size + 1, 4, none⟩ u4).setCell ⟨w.heap.size + 1, 5, none⟩ u5).setCell ⟨w.heap.size + 1, 6, none⟩ u6).setCell ⟨w.heap.size + 1, 7, none⟩ u7) from fun u0 u1 u2 u3 u4 u5 u6 u7 => (((((((((HV.out.2.2.1.trans (HE.out.2.2.1.mono HV.out.2.2.1.size)).setCell (Nat.le_succ _) _).setCell (Nat.le_succ _) _).setCell (Nat.le_succ _) _).setCell (Nat.le_succ _) _).setCell (Nat.le_succ _) _).setCell (Nat.le_succ _) _).setCell (Nat.le_succ _) _).setCell (Nat.le_succ _) _))
    have hQ := Lib.hid (show ∀ u0 u1 u2 u3 u4 u5 u6 u7 : Value, Reads ((((((((w9.setCell ⟨w.heap.size + 1, 0, none⟩ u0).setCell ⟨w.heap.size + 1, 1, none⟩ u1).setCell ⟨w.heap.size + 1, 2, none⟩ u2).setCell ⟨w.heap.size + 1, 3, none⟩ u3).setCell ⟨w.heap.size + 1, 4, none⟩ u4).setCell ⟨w.heap.size + 1, 5, none⟩ u5).setCell ⟨w.heap.size + 1, 6, none⟩ u6).setCell ⟨w.heap.size + 1, 7, none⟩ u7) w9.heap.size 3 A9 _ _ from fun u0 u1 u2 u3 u4 u5 u6 u7 => (Reads.far (Reads.far (Reads.far (Reads.far (Reads.far (Reads.far (Reads.far (Reads.far HE.out.1 (p := ⟨w.heap.size + 1, 0, none⟩) hfar u0) (p := ⟨w.heap.size + 1, 1, none⟩) hfar u1) (p := ⟨w.heap.size + 1, 2, none⟩) hfar u2) (p := ⟨w.heap.size + 1, 3, none⟩) hfar u3) (p := ⟨w.heap.size + 1, 4, none⟩) hfar u4) (p := ⟨w.heap.size + 1, 5, none⟩) hfar u5) (p := ⟨w.heap.size + 1, 6, none⟩) hfar u6) (p := ⟨w.heap.size + 1, 7, none⟩) hfar u7))
    have hl9 := HE.out.2.2.2.lt
    go_wp2_with fail
    refine bodyPost_ret (results_cell_tmp rfl _ _ _ _ _ _ rfl ((((((((HE.out.2.2.2.set_ 0 _).set_ 1 _).set_ 2 _).set_ 3 _).set_ 4 _).set_ 5 _).set_ 6 _).set_ 7 _) Try.underlying34 rfl info34) rfl ⟨⟨A9, c9, rfl, ?_, fun ad h9 => ?_⟩, hF.out _ _ _ _ _ _ _ _⟩
    · exact Reads.more (hQ.out _ _ _ _ _ _ _ _) (by simp)
    · have := HE.out.2.1 ad h9
      have := HV.out.2.2.2
      omega
end Go.Proofs.Ythkajcioeemilaa
