/- The walk of the law RecordFinds. No condition. -/
import Derived.Test.YtbiiahbhgjjhgaaArgsC
import Derived.Test.YtbiiahbhgjjhgaaMathV
import Derived.Test.YtbiiahbhgjjhgaaWu
import Derived.Test.YtbiiahbhgjjhgaaWp
import Derived.Test.YtbiiahbhgjjhgaaLc
namespace Go.Proofs.Ytbiiahbhgjjhgaa
open Go.RowKit
theorem own_grown {w w' : World} {base : Nat} {e : TypeId} {size : Nat} {v : Value} {n : Nat} {xs : List Value} {row : Option Nat} (h : w.ownsRow base e size v n xs) (hg : w.grownBy w' row) (hne : ∀ b, v.ownBlock = some b → row ≠ some b) : w'.ownsRow base e size v n xs :=
  own_keep h fun b hb => hg.block b (own_lt h b hb) (fun e => hne b hb e.symm)
def fitR (r : Ra) : Nat × List Nat := (fitN r.k 255, r.p)
def wantM (g s : Nat) : Nat → List Ra → List Rc
  | _, [] => []
  | i, r :: l => ⟨fitN r.k 255, seqM g s i, r.A, r.c, r.p⟩ :: wantM g s (i + 1) l
theorem wantM_snoc (g s i : Nat) (l : List Ra) (r : Ra) : wantM g s i (l ++ [r]) = wantM g s i l ++ [⟨fitN r.k 255, seqM g s (i + l.length), r.A, r.c, r.p⟩] := by
  induction l generalizing i with
  | nil => simp [wantM]
  | cons x l ih => rw [List.cons_append, wantM, ih, wantM, List.cons_append, List.length_cons, show i + 1 + l.length = i + (l.length + 1) by omega]
theorem wantM_trip (g s i : Nat) (l : List Ra) : (wantM g s i l).map Rc.trip = tripM g s i (l.map fitR) := by
  induction l generalizing i with
  | nil => rfl
  | cons r l ih => rw [wantM, List.map_cons, ih, List.map_cons, tripM]; rfl
theorem wantM_len (g s i : Nat) (l : List Ra) : (wantM g s i l).length = l.length := by
  induction l generalizing i with
  | nil => rfl
  | cons r l ih => rw [wantM, List.length_cons, ih, List.length_cons]
theorem wantM_mem {g s i : Nat} {l : List Ra} {x : Rc} (h : x ∈ wantM g s i l) : ∃ r ∈ l, x.A = r.A ∧ x.p = r.p := by
  induction l generalizing i with
  | nil => simp [wantM] at h
  | cons r l ih =>
    rcases List.mem_cons.1 h with rfl | h
    · exact ⟨r, by simp, rfl, rfl⟩
    · obtain ⟨r', h1, h2⟩ := ih h
      exact ⟨r', by simp [h1], h2⟩
theorem fitR_ok {w : World} {l : List Ra} (h : ∀ r ∈ l, RaQ w r) (hs : ∀ r ∈ l, r.p.length ≤ 60) : ∀ r ∈ l.map fitR, RecOk r := by
  intro r hr
  obtain ⟨x, hx, rfl⟩ := List.mem_map.1 hr
  have h1 := (fit_one x.k 255 (by omega)).2
  exact ⟨fitN_pos _ _, by show fitN x.k 255 < 256; omega, (h x hx).2.2.2, hs x hx⟩
theorem take_next {α : Type} {l : List α} {i : Nat} {r : α} (h : l[i]? = some r) : l.take (i + 1) = l.take i ++ [r] := by
  rw [List.take_add_one, h]
  rfl
theorem take_len {α : Type} {l : List α} {i : Nat} {r : α} (h : l[i]? = some r) : (l.take i).length = i := by
  have := (List.getElem?_eq_some_iff.1 h).1
  rw [List.length_take]
  omega
/-- what the loop has made -/
structure FindI (w : World) (l : List Ra) (g s i N U : Nat) (u7 u8 : Value) (W : World) : Prop where
  le : i ≤ l.length
  num : N = 5 + i + if g < i then 1 + s else 0
  used : U = (allM g s 0 ((l.take (min i g)).map fitR)).length
  all : W.ownsRow w.heap.size 47 8 u7 (allM g s 0 ((l.take i).map fitR)).length ((allM g s 0 ((l.take i).map fitR)).flatMap encS)
  want : W.ownsRow w.heap.size 27 3 u8 (wantM g s 0 (l.take (min i g))).length ((wantM g s 0 (l.take (min i g))).flatMap encRc)
  bel : Below w.heap.size w W
  sep : ∀ b, u7.ownBlock = some b → u8.ownBlock ≠ some b
  small : ∀ r ∈ l.take i, r.p.length ≤ 60
theorem FindI.lens {w W : World} {l : List Ra} {g s i N U : Nat} {u7 u8 : Value} (h : FindI w l g s i N U u7 u8 W) (hl : ∀ r ∈ l, RaQ w r) : (allM g s 0 ((l.take i).map fitR)).length ≤ 20 * i ∧ (wantM g s 0 (l.take (min i g))).length ≤ i := by
  have h1 := (allM_len (g := g) (s := s) (fitR_ok (fun r hr => hl r (List.mem_of_mem_take hr)) h.small) 0).2
  have h2 := h.le
  rw [List.length_map, List.length_take] at h1
  rw [wantM_len, List.length_take]
  omega
theorem badK_ok {k q : Nat} (h0 : 0 < k) (h1 : k ≤ 255) (h2 : 0 < q) (h3 : q < 4294967296) : badK (k : Nat) (q : Nat) = false := by
  unfold badK
  rw [decide_eq_false]
  omega
theorem FindI.next_no {w W W3 w5 : World} {l : List Ra} {g s i N U : Nat} {u7 u8 v5 : Value} (h : FindI w l g s i N U u7 u8 W) {r : Ra} (hr : l[i]? = some r) {kk Q n5 : Nat} (hk : fitN r.k 255 = kk) (hsm : r.p.length ≤ 60) (hg : g ≤ i) (hQ : Q = seqM g s i) (hb : Below W.heap.size W W3)
    (ho : w5.ownsRow w.heap.size 47 8 v5 n5 ((allM g s 0 ((l.take i).map fitR)).flatMap encS ++ (encR kk Q r.p).flatMap encS)) (hn : n5 = (allM g s 0 ((l.take i).map fitR)).length + (encR kk Q r.p).length) (hg5 : W3.grownBy w5 u7.ownBlock) (hv : v5.ownBlock = u7.ownBlock ∨ v5.ownBlock = some W3.heap.size) : FindI w l g s (i + 1) (Q + 1) U v5 u8 w5 := by
  have hil := (List.getElem?_eq_some_iff.1 hr).1
  have e1 : allM g s 0 ((l.take (i + 1)).map fitR) = allM g s 0 ((l.take i).map fitR) ++ encR kk Q r.p := by
    rw [take_next hr, List.map_append, List.map_singleton, allM_snoc, List.length_map, take_len hr, Nat.zero_add, ← hQ]
    show _ ++ encR (fitN r.k 255) Q r.p = _
    rw [hk]
  have hbW := h.bel.trans (hb.mono h.bel.size)
  refine ⟨by omega, ?_, ?_, ?_, ?_, hbW.grown hg5 hbW.size (own_block_ge h.all), ?_, ?_⟩
  · rw [hQ]; unfold seqM; rw [if_pos (by omega)]; omega
  · rw [h.used, show min (i + 1) g = min i g by omega]
  · rw [e1, List.length_append, List.flatMap_append, ← hn]; exact ho
  · rw [show min (i + 1) g = min i g by omega]
    exact own_grown (own_below h.want hb) hg5 (fun b hb' e => h.sep b e hb')
  · intro b hb5 hb8
    rcases hv with e | e
    · exact h.sep b (by rw [← e]; exact hb5) hb8
    · rw [hb5] at e
      injection e with e
      have h1 := own_lt h.want b hb8
      have h2 := hb.size
      omega
  · intro x hx
    rw [take_next hr] at hx
    rcases List.mem_append.1 hx with hx | hx
    · exact h.small x hx
    · rw [List.mem_singleton] at hx
      rw [hx]; exact hsm
theorem FindI.next_yes {w W W3 w5 w6 : World} {l : List Ra} {g s i N U : Nat} {u7 u8 v5 v6 : Value} {o : Obj} (h : FindI w l g s i N U u7 u8 W) {r : Ra} (hr : l[i]? = some r) {kk Q n5 n6 : Nat} (hk : fitN r.k 255 = kk) (hsm : r.p.length ≤ 60) (hg : i < g) (hQ : Q = seqM g s i) (hb : Below W.heap.size W W3)
    (ho : w5.ownsRow w.heap.size 47 8 v5 n5 ((allM g s 0 ((l.take i).map fitR)).flatMap encS ++ (encR kk Q r.p).flatMap encS)) (hn : n5 = (allM g s 0 ((l.take i).map fitR)).length + (encR kk Q r.p).length) (hg5 : W3.grownBy w5 u7.ownBlock) (hv : v5.ownBlock = u7.ownBlock ∨ v5.ownBlock = some W3.heap.size)
    (ho6 : w6.ownsRow w.heap.size 27 3 v6 n6 ((wantM g s 0 (l.take (min i g))).flatMap encRc ++ [.int .i64 (kk : Nat), .int .i64 (Q : Nat), .slice r.A r.p.length r.c])) (hn6 : n6 = (wantM g s 0 (l.take (min i g))).length + 1) (hg6 : (w5.alloc o).grownBy w6 u8.ownBlock) (hv6 : v6.ownBlock = u8.ownBlock ∨ v6.ownBlock = some (w5.alloc o).heap.size) : FindI w l g s (i + 1) (Q + 1) n5 v5 v6 w6 := by
  have hil := (List.getElem?_eq_some_iff.1 hr).1
  have e1 : allM g s 0 ((l.take (i + 1)).map fitR) = allM g s 0 ((l.take i).map fitR) ++ encR kk Q r.p := by
    rw [take_next hr, List.map_append, List.map_singleton, allM_snoc, List.length_map, take_len hr, Nat.zero_add, ← hQ]
    show _ ++ encR (fitN r.k 255) Q r.p = _
    rw [hk]
  have e2 : wantM g s 0 (l.take (i + 1)) = wantM g s 0 (l.take i) ++ [⟨kk, Q, r.A, r.c, r.p⟩] := by
    rw [take_next hr, wantM_snoc, take_len hr, Nat.zero_add, ← hQ, hk]
  have m1 : min i g = i := by omega
  have m2 : min (i + 1) g = i + 1 := by omega
  rw [m1] at ho6 hn6
  have hbW := h.bel.trans (hb.mono h.bel.size)
  have hb5 := hbW.grown hg5 hbW.size (own_block_ge h.all)
  have hb5a := hb5.alloc hb5.size o
  have hlt5 := own_lt ho
  have hs3 := hb.size
  have hs5 := hg5.size
  refine ⟨by omega, ?_, ?_, ?_, ?_, hb5a.grown hg6 hb5a.size (own_block_ge h.want), ?_, ?_⟩
  · rw [hQ]; unfold seqM; rw [if_neg (by omega)]; omega
  · rw [m2, e1, List.length_append, hn]
  · rw [e1, List.length_append, List.flatMap_append, ← hn]
    refine own_grown (own_alloc ho o) hg6 (fun b hb' e => ?_)
    rcases hv with e' | e'
    · exact h.sep b (by rw [← e']; exact hb') e
    · rw [hb'] at e'
      injection e' with e'
      have h1 := own_lt h.want b e
      omega
  · rw [m2, e2, List.length_append, List.flatMap_append, List.length_singleton, ← hn6]; exact ho6
  · intro b hb5' hb6
    have hl5 := hlt5 b hb5'
    rcases hv6 with e6 | e6
    · rw [hb6] at e6
      rcases hv with e | e
      · exact h.sep b (by rw [← e]; exact hb5') e6.symm
      · rw [hb5'] at e
        injection e with e
        have h1 := own_lt h.want b e6.symm
        omega
    · rw [hb6] at e6
      injection e6 with e6
      rw [World.size_alloc] at e6
      omega
  · intro x hx
    rw [take_next hr] at hx
    rcases List.mem_append.1 hx with hx | hx
    · exact h.small x hx
    · rw [List.mem_singleton] at hx
      rw [hx]; exact hsm
set_option maxRecDepth 100000 in
set_option maxHeartbeats 20000000 in
theorem walkRecordFinds (w : World) (v0 v1 v2 : Value) (h0 : Arg50 w v0) (h1 : Arg5 w v1) (h2 : Arg5 w v2) : Calls Try.prog 10 #[v0, v1, v2] w fun e w' => e = .returned (.bool true) ∧ Below w.heap.size w w' := by
  obtain ⟨A, n, c, l, rfl, hR, hnc, hcm, hl⟩ := h0
  obtain ⟨g, rfl, hg⟩ := h1
  obtain ⟨s, rfl, hs⟩ := h2
  have hlen := hR.count encRa_len (by omega)
  by_cases c1 : 8 < n
  · have c1' : (8 : Int) < n := by omega
    go_enter Try.func10, Try.ntmps10
    go_wp2_with fail
    refine (awake_any _).mono ?_
    rintro e w1 ⟨rfl, hb1⟩
    go_wp2_with fail
    go_ret
    exact ⟨rfl, hb1⟩
  have c1' : ¬ (8 : Int) < n := by omega
  obtain ⟨i2, hi2, hy0, hy1, hy2⟩ := info_parts info27b
  have HI := Lib.hid (And.intro hi2 (And.intro hy0 (And.intro hy1 hy2)))
  clear hi2 hy0 hy1 hy2
  obtain ⟨i7, hi7, hy0, hy1, hy2⟩ := info_parts info47b
  have HJ := Lib.hid (And.intro hi7 (And.intro hy0 (And.intro hy1 hy2)))
  clear hi7 hy0 hy1 hy2
  have HX := Lib.hid (And.intro hR (And.intro hlen hl))
  clear hR hlen hl
  go_enter Try.func10, Try.ntmps10
  go_wp2_with fail
  go_loopw [7, 8, 9, 10, 11, 12, 13, 14] (fun u7 u8 u9 u10 u11 _ _ _ W => ∃ (i N U : Nat), u9 = .int .i64 (N : Nat) ∧ u10 = .int .i64 (U : Nat) ∧ u11 = .int .i64 (i : Nat) ∧ FindI w l g s i N U u7 u8 W) (fun _ _ _ _ u11 _ _ _ _ => n + 2 - (intOf u11).toNat)
  case atStart => exact ⟨0, 5, 0, rfl, rfl, rfl, by omega, by rw [if_neg (by omega)], by simp [allM], by simpa [allM] using World.ownsRow_nil w w.heap.size 47 8, by simpa [wantM] using World.ownsRow_nil w w.heap.size 27 3, Below.refl _ _, by intro b hb; simp [Value.ownBlock] at hb, by simp⟩
  case round =>
    obtain ⟨i, N, U, rfl, rfl, rfl, hI⟩ := hrel
    have hin : i ≤ n := by have := hI.le; have := HX.out.2.1; omega
    obtain ⟨L1, L2⟩ := hI.lens HX.out.2.2
    obtain ⟨A7, c7, rfl, _, _, _⟩ := own_slice hI.all
    obtain ⟨A8, c8, rfl, _, _, _⟩ := own_slice hI.want
    have HI1 := Lib.hid hI
    obtain ⟨la, hla⟩ : ∃ la, (allM g s 0 ((l.take i).map fitR)).length = la := ⟨_, rfl⟩
    obtain ⟨lw, hlw⟩ : ∃ lw, (wantM g s 0 (l.take (min i g))).length = lw := ⟨_, rfl⟩
    rw [hla] at L1 HI1 ⊢
    rw [hlw] at L2 HI1 ⊢
    have HL := Lib.hid (And.intro hla hlw)
    have ha7 := HI1.out.all
    rw [hla] at ha7
    have ha8 := HI1.out.want
    rw [hlw] at ha8
    have HA := Lib.hid (And.intro ha7 ha8)
    clear ha7 ha8
    clear hI hla hlw
    have hN3 : N ≤ 1000 := by have := HI1.out.num; split at this <;> omega
    by_cases hlt : i < n
    · have hil : i < l.length := by have := HX.out.2.1; omega
      have hri : l[i]? = some l[i] := List.getElem?_eq_getElem hil
      obtain ⟨b, off, rfl, hbb, hc⟩ := HX.out.1.elems3 encRa_len (by omega)
      have hcx := hc i hil _ _ _ rfl
      have hq := HX.out.2.2 _ (List.getElem_mem hil)
      generalize l[i] = x at *
      obtain ⟨xk, xq, xA, xc, xp⟩ := x
      dsimp only at hcx hq
      have d0 := (HI1.out.bel.cell (p := ⟨b, off + i * 3, none⟩) hbb).trans hcx.1
      have d1 := (HI1.out.bel.cell (p := ⟨b, off + i * 3 + 1, none⟩) hbb).trans hcx.2.1
      have d2 := (HI1.out.bel.cell (p := ⟨b, off + i * 3 + 2, none⟩) hbb).trans hcx.2.2
      have HQ := Lib.hid hq
      have HRI := Lib.hid hri
      clear hc hcx hq hri hil
      have hlt' : (i : Int) < n := by omega
      by_cases hp : 60 < xp.length
      · have hp' : (60 : Int) < xp.length := by omega
        go_wp2_with fail
        refine (awake_any _).mono ?_
        rintro e w1 ⟨rfl, hb1⟩
        go_wp2_with fail
        go_ret
        exact ⟨rfl, HI1.out.bel.trans (hb1.mono HI1.out.bel.size)⟩
      have hp' : ¬ (60 : Int) < xp.length := by omega
      have hk0 := fitN_pos xk 255
      have hk1 := (fit_one xk 255 (by omega)).2
      have hbel : Below w.heap.size w wr := HI1.out.bel
      have HB := Lib.hid hbel
      clear hbel
      rcases Nat.lt_trichotomy i g with hig | hig | hig
      · have t1 : ¬ (i : Int) = g := by omega
        have t2 : (i : Int) < g := by omega
        have t1b : ((i : Int) == (g : Int)) = false := by rw [beq_eq_false_iff_ne]; omega
        go_wp2_with fail
        refine (fit_any xk xq xp.length xc xA _).mono ?_
        rintro e w1 ⟨rfl, hb1⟩
        unfold recV
        obtain ⟨kk, hkk⟩ : ∃ kk, fitN xk 255 = kk := ⟨_, rfl⟩
        rw [hkk] at hk0 hk1 ⊢
        generalize fitN xq 1000000 = qq at *
        have HK := Lib.hid hkk
        clear hkk
        have hsz1 := hb1.size
        have HB1 := Lib.hid (HB.out.trans (hb1.mono HB.out.size))
        have HBr := Lib.hid hb1
        clear hb1
        go_upto_region 14 with fail
        obtain ⟨Q, hQ⟩ : ∃ Q : Nat, N = Q := ⟨_, rfl⟩
        rw [hQ]
        have hQe : Q = seqM g s i := by rw [← hQ, HI1.out.num]; unfold seqM; rw [if_neg (by omega), if_neg (by omega)]
        have hQ01 := seqM_lt (g := g) (i := i) hs (by omega)
        rw [← hQe] at hQ01
        obtain ⟨hQ0, hQ1⟩ := hQ01
        have hQ3 : Q ≤ 1000 := by rw [hQe]; unfold seqM; split <;> omega
        have HQe := Lib.hid hQe
        clear hQ hQe
        have g1 := Blk.new w1 27 #[.int .i64 (kk : Nat), .int .i64 (qq : Nat), .slice xA xp.length xc]
        have hbx : Below w1.heap.size w1 (w1.alloc (.cells #[.int .i64 (kk : Nat), .int .i64 (qq : Nat), .slice xA xp.length xc] 27)) := (Below.refl _ _).alloc (Nat.le_refl _) _
        have hz1 : w1.heap.size < (w1.alloc (.cells #[.int .i64 (kk : Nat), .int .i64 (qq : Nat), .slice xA xp.length xc] 27)).heap.size := by simp
        generalize (w1.alloc (.cells #[.int .i64 (kk : Nat), .int .i64 (qq : Nat), .slice xA xp.length xc] 27)) = W1 at *
        have x1 : W1.cell? ⟨w1.heap.size, 1, none⟩ = some (.int .i64 (qq : Nat)) := g1.cell 1
        have f1 : W1.frozen? ⟨w1.heap.size, 1, none⟩ = false := g1.frozen 1
        have HG1 := Lib.hid (And.intro g1 hbx)
        clear g1 hbx
        go_upto_region 16 with fail
        have g2 : Blk (W1.setCell ⟨w1.heap.size, 1, none⟩ (.int .i64 (Q : Nat))) w1.heap.size 27 #[.int .i64 (kk : Nat), .int .i64 (Q : Nat), .slice xA xp.length xc] := HG1.out.1.set_ 1 (.int .i64 (Q : Nat))
        have hb2 : Below w1.heap.size w1 (W1.setCell ⟨w1.heap.size, 1, none⟩ (.int .i64 (Q : Nat))) := HG1.out.2.setCell (Nat.le_refl _) _
        generalize (W1.setCell ⟨w1.heap.size, 1, none⟩ (.int .i64 (Q : Nat))) = W2 at *
        clear x1 f1 HG1
        have y0 : W2.cell? ⟨w1.heap.size, 0, none⟩ = some (.int .i64 (kk : Nat)) := g2.cell 0
        have y1 : W2.cell? ⟨w1.heap.size, 1, none⟩ = some (.int .i64 (Q : Nat)) := g2.cell 1
        have y2 : W2.cell? ⟨w1.heap.size, 2, none⟩ = some (.slice xA xp.length xc) := g2.cell 2
        have HB2 := Lib.hid (HBr.out.trans (hb2.mono HBr.out.size))
        have HG2 := Lib.hid g2
        clear g2 hb2
        go_wp2_with fail
        refine (Encode_any (kk : Nat) (Q : Nat) xp.length xc xA xp W2 (HQ.out.1.up (HB.out.trans (HB2.out.mono HB.out.size))) HQ.out.2.2.2).mono ?_
        rintro e w3 ⟨hb3, A3, c3, he, hR3, hc3, hm3⟩
        rw [encE_fit (k := kk) (q := Q) (p := xp) (badK_ok hk0 (by omega) hQ0 hQ1) (by omega)] at he hR3 hc3
        dsimp only at he hR3 hc3
        have hel := enc_len kk Q xp
        obtain ⟨m, hm⟩ : ∃ m, szN xp.length = m := ⟨_, rfl⟩
        have hm20 : m ≤ 20 := by rw [← hm]; unfold szN; omega
        rw [hm] at hel
        rw [hel] at he hR3 hc3
        subst he
        have hb3r := HB2.out.trans (hb3.mono HB2.out.size)
        have hs3 := hb3.size
        have H3 := Lib.hid (And.intro hR3 (And.intro hb3r (And.intro (own_below HA.out.1 hb3r) (And.intro (own_below HA.out.2 hb3r) (HG2.out.below hb3 HG2.out.lt)))))
        have HM := Lib.hid (And.intro hm hel)
        clear hR3 hc3 hm3 hb3 hb3r hm hel y0 y1 y2
        go_upto_region 20 with (at_builtin; go_must (refine wpList_append_any w3 rfl (.tmp 62) (.tmp 63) _ rfl w.heap.size 47 i7 _ 8 8 Try.underlying28 HJ.out.1 HJ.out.2.1 HJ.out.2.2.1 HJ.out.2.2.2 rfl (by omega) (.slice A7 la c7) la _ rfl H3.out.2.2.1 w3.heap.size A3 m c3 ((encR kk Q xp).flatMap encS) rfl H3.out.1 (encS_one _) (by simp only [maxLen]; omega) (by omega) (by have := HB.out.size; have := H3.out.2.1.size; omega) ?_; intro v5 w5 ho5 hg5 hv5))
        obtain ⟨A5, c5, rfl, hc5, hm5, _⟩ := own_slice ho5
        have g5 := H3.out.2.2.2.2.grown hg5 (fun e => by have := own_lt HI1.out.all _ e.symm; have := HBr.out.size; omega)
        have hs5 := hg5.size
        have z0 : w5.cell? ⟨w1.heap.size, 0, none⟩ = some (.int .i64 (kk : Nat)) := g5.cell 0
        have z1 : w5.cell? ⟨w1.heap.size, 1, none⟩ = some (.int .i64 (Q : Nat)) := g5.cell 1
        have z2 : w5.cell? ⟨w1.heap.size, 2, none⟩ = some (.slice xA xp.length xc) := g5.cell 2
        have ho8 := own_alloc (own_grown H3.out.2.2.2.1 hg5 (fun b hb e => HI1.out.sep b e hb)) (.cells #[.int .i64 (kk : Nat), .int .i64 (Q : Nat), .slice xA xp.length xc] 27)
        have HG5 := Lib.hid (And.intro ho5 (And.intro hg5 (And.intro hv5 ho8)))
        clear ho5 hg5 hv5 g5 ho8
        go_wp2_with (at_builtin; go_must (refine wpList_append_any (w5.alloc (.cells #[.int .i64 (kk : Nat), .int .i64 (Q : Nat), .slice xA xp.length xc] 27)) rfl (.tmp 69) (.tmp 71) _ rfl w.heap.size 27 i2 _ 3 40 Try.underlying50 HI.out.1 HI.out.2.1 HI.out.2.2.1 HI.out.2.2.2 rfl (by omega) (.slice A8 lw c8) lw _ rfl HG5.out.2.2.2 (w5.heap.size + 1) (some ⟨w5.heap.size, 0, none⟩) 1 1 [.int .i64 (kk : Nat), .int .i64 (Q : Nat), .slice xA xp.length xc] rfl (elem_reads w5 #[.int .i64 (kk : Nat), .int .i64 (Q : Nat), .slice xA xp.length xc] 27) (by simp [Value.oneCell']) (by simp only [maxLen]; omega) (by omega) (by rw [World.size_alloc]; have := HB.out.size; have := H3.out.2.1.size; omega) ?_; intro v6 w6 ho6 hg6 hv6))
        have HG6 := Lib.hid (And.intro ho6 (And.intro hg6 hv6))
        clear ho6 hg6 hv6
        go_roundw
        case rel => exact ⟨i + 1, Q + 1, la + m, by go_num, by go_num, by go_num, HI1.out.next_yes HRI.out HK.out (by show xp.length ≤ 60; omega) (by omega) HQe.out H3.out.2.1 HG5.out.1 (by rw [HL.out.1, HM.out.2]) HG5.out.2.1 HG5.out.2.2.1 HG6.out.1 (by rw [HL.out.2]) HG6.out.2.1 HG6.out.2.2⟩
        case measure => simp [intOf]; omega
      · subst hig
        go_wp2_with fail
        refine (fit_any xk xq xp.length xc xA _).mono ?_
        rintro e w1 ⟨rfl, hb1⟩
        unfold recV
        obtain ⟨kk, hkk⟩ : ∃ kk, fitN xk 255 = kk := ⟨_, rfl⟩
        rw [hkk] at hk0 hk1 ⊢
        generalize fitN xq 1000000 = qq at *
        have HK := Lib.hid hkk
        clear hkk
        have hsz1 := hb1.size
        have HB1 := Lib.hid (HB.out.trans (hb1.mono HB.out.size))
        have HBr := Lib.hid hb1
        clear hb1
        go_upto_region 14 with fail
        obtain ⟨Q, hQ⟩ : ∃ Q : Nat, N + (1 + s) = Q := ⟨_, rfl⟩
        have hQi : (N : Int) + (1 + (s : Int)) = (Q : Int) := by omega
        rw [hQi]
        have hQe : Q = seqM i s i := by rw [← hQ, HI1.out.num]; unfold seqM; rw [if_neg (by omega), if_pos (by omega), Nat.add_zero]
        have hQ01 := seqM_lt (g := i) (i := i) hs (by omega)
        rw [← hQe] at hQ01
        obtain ⟨hQ0, hQ1⟩ := hQ01
        have hQ3 : Q ≤ 1000 := by rw [hQe]; unfold seqM; split <;> omega
        have HQe := Lib.hid hQe
        clear hQ hQi hQe
        have g1 := Blk.new w1 27 #[.int .i64 (kk : Nat), .int .i64 (qq : Nat), .slice xA xp.length xc]
        have hbx : Below w1.heap.size w1 (w1.alloc (.cells #[.int .i64 (kk : Nat), .int .i64 (qq : Nat), .slice xA xp.length xc] 27)) := (Below.refl _ _).alloc (Nat.le_refl _) _
        have hz1 : w1.heap.size < (w1.alloc (.cells #[.int .i64 (kk : Nat), .int .i64 (qq : Nat), .slice xA xp.length xc] 27)).heap.size := by simp
        generalize (w1.alloc (.cells #[.int .i64 (kk : Nat), .int .i64 (qq : Nat), .slice xA xp.length xc] 27)) = W1 at *
        have x1 : W1.cell? ⟨w1.heap.size, 1, none⟩ = some (.int .i64 (qq : Nat)) := g1.cell 1
        have f1 : W1.frozen? ⟨w1.heap.size, 1, none⟩ = false := g1.frozen 1
        have HG1 := Lib.hid (And.intro g1 hbx)
        clear g1 hbx
        go_upto_region 16 with fail
        have g2 : Blk (W1.setCell ⟨w1.heap.size, 1, none⟩ (.int .i64 (Q : Nat))) w1.heap.size 27 #[.int .i64 (kk : Nat), .int .i64 (Q : Nat), .slice xA xp.length xc] := HG1.out.1.set_ 1 (.int .i64 (Q : Nat))
        have hb2 : Below w1.heap.size w1 (W1.setCell ⟨w1.heap.size, 1, none⟩ (.int .i64 (Q : Nat))) := HG1.out.2.setCell (Nat.le_refl _) _
        generalize (W1.setCell ⟨w1.heap.size, 1, none⟩ (.int .i64 (Q : Nat))) = W2 at *
        clear x1 f1 HG1
        have y0 : W2.cell? ⟨w1.heap.size, 0, none⟩ = some (.int .i64 (kk : Nat)) := g2.cell 0
        have y1 : W2.cell? ⟨w1.heap.size, 1, none⟩ = some (.int .i64 (Q : Nat)) := g2.cell 1
        have y2 : W2.cell? ⟨w1.heap.size, 2, none⟩ = some (.slice xA xp.length xc) := g2.cell 2
        have HB2 := Lib.hid (HBr.out.trans (hb2.mono HBr.out.size))
        have HG2 := Lib.hid g2
        clear g2 hb2
        go_wp2_with fail
        refine (Encode_any (kk : Nat) (Q : Nat) xp.length xc xA xp W2 (HQ.out.1.up (HB.out.trans (HB2.out.mono HB.out.size))) HQ.out.2.2.2).mono ?_
        rintro e w3 ⟨hb3, A3, c3, he, hR3, hc3, hm3⟩
        rw [encE_fit (k := kk) (q := Q) (p := xp) (badK_ok hk0 (by omega) hQ0 hQ1) (by omega)] at he hR3 hc3
        dsimp only at he hR3 hc3
        have hel := enc_len kk Q xp
        obtain ⟨m, hm⟩ : ∃ m, szN xp.length = m := ⟨_, rfl⟩
        have hm20 : m ≤ 20 := by rw [← hm]; unfold szN; omega
        rw [hm] at hel
        rw [hel] at he hR3 hc3
        subst he
        have hb3r := HB2.out.trans (hb3.mono HB2.out.size)
        have hs3 := hb3.size
        have H3 := Lib.hid (And.intro hR3 (And.intro hb3r (And.intro (own_below HA.out.1 hb3r) (And.intro (own_below HA.out.2 hb3r) (HG2.out.below hb3 HG2.out.lt)))))
        have HM := Lib.hid (And.intro hm hel)
        clear hR3 hc3 hm3 hb3 hb3r hm hel y0 y1 y2
        go_upto_region 20 with (at_builtin; go_must (refine wpList_append_any w3 rfl (.tmp 62) (.tmp 63) _ rfl w.heap.size 47 i7 _ 8 8 Try.underlying28 HJ.out.1 HJ.out.2.1 HJ.out.2.2.1 HJ.out.2.2.2 rfl (by omega) (.slice A7 la c7) la _ rfl H3.out.2.2.1 w3.heap.size A3 m c3 ((encR kk Q xp).flatMap encS) rfl H3.out.1 (encS_one _) (by simp only [maxLen]; omega) (by omega) (by have := HB.out.size; have := H3.out.2.1.size; omega) ?_; intro v5 w5 ho5 hg5 hv5))
        obtain ⟨A5, c5, rfl, hc5, hm5, _⟩ := own_slice ho5
        have g5 := H3.out.2.2.2.2.grown hg5 (fun e => by have := own_lt HI1.out.all _ e.symm; have := HBr.out.size; omega)
        have hs5 := hg5.size
        have HG5 := Lib.hid (And.intro ho5 (And.intro hg5 hv5))
        clear ho5 hg5 hv5 g5
        go_wp2_with fail
        go_roundw
        case rel => exact ⟨i + 1, Q + 1, U, by go_num, by go_num, by go_num, HI1.out.next_no HRI.out HK.out (by show xp.length ≤ 60; omega) (by omega) HQe.out H3.out.2.1 HG5.out.1 (by rw [HL.out.1, HM.out.2]) HG5.out.2.1 HG5.out.2.2⟩
        case measure => simp [intOf]; omega
      · have t1 : ¬ (i : Int) = g := by omega
        have t2 : ¬ (i : Int) < g := by omega
        have t1b : ((i : Int) == (g : Int)) = false := by rw [beq_eq_false_iff_ne]; omega
        go_wp2_with fail
        refine (fit_any xk xq xp.length xc xA _).mono ?_
        rintro e w1 ⟨rfl, hb1⟩
        unfold recV
        obtain ⟨kk, hkk⟩ : ∃ kk, fitN xk 255 = kk := ⟨_, rfl⟩
        rw [hkk] at hk0 hk1 ⊢
        generalize fitN xq 1000000 = qq at *
        have HK := Lib.hid hkk
        clear hkk
        have hsz1 := hb1.size
        have HB1 := Lib.hid (HB.out.trans (hb1.mono HB.out.size))
        have HBr := Lib.hid hb1
        clear hb1
        go_upto_region 14 with fail
        obtain ⟨Q, hQ⟩ : ∃ Q : Nat, N = Q := ⟨_, rfl⟩
        rw [hQ]
        have hQe : Q = seqM g s i := by rw [← hQ, HI1.out.num]; unfold seqM; rw [if_pos (by omega), if_pos (by omega)]
        have hQ01 := seqM_lt (g := g) (i := i) hs (by omega)
        rw [← hQe] at hQ01
        obtain ⟨hQ0, hQ1⟩ := hQ01
        have hQ3 : Q ≤ 1000 := by rw [hQe]; unfold seqM; split <;> omega
        have HQe := Lib.hid hQe
        clear hQ hQe
        have g1 := Blk.new w1 27 #[.int .i64 (kk : Nat), .int .i64 (qq : Nat), .slice xA xp.length xc]
        have hbx : Below w1.heap.size w1 (w1.alloc (.cells #[.int .i64 (kk : Nat), .int .i64 (qq : Nat), .slice xA xp.length xc] 27)) := (Below.refl _ _).alloc (Nat.le_refl _) _
        have hz1 : w1.heap.size < (w1.alloc (.cells #[.int .i64 (kk : Nat), .int .i64 (qq : Nat), .slice xA xp.length xc] 27)).heap.size := by simp
        generalize (w1.alloc (.cells #[.int .i64 (kk : Nat), .int .i64 (qq : Nat), .slice xA xp.length xc] 27)) = W1 at *
        have x1 : W1.cell? ⟨w1.heap.size, 1, none⟩ = some (.int .i64 (qq : Nat)) := g1.cell 1
        have f1 : W1.frozen? ⟨w1.heap.size, 1, none⟩ = false := g1.frozen 1
        have HG1 := Lib.hid (And.intro g1 hbx)
        clear g1 hbx
        go_upto_region 16 with fail
        have g2 : Blk (W1.setCell ⟨w1.heap.size, 1, none⟩ (.int .i64 (Q : Nat))) w1.heap.size 27 #[.int .i64 (kk : Nat), .int .i64 (Q : Nat), .slice xA xp.length xc] := HG1.out.1.set_ 1 (.int .i64 (Q : Nat))
        have hb2 : Below w1.heap.size w1 (W1.setCell ⟨w1.heap.size, 1, none⟩ (.int .i64 (Q : Nat))) := HG1.out.2.setCell (Nat.le_refl _) _
        generalize (W1.setCell ⟨w1.heap.size, 1, none⟩ (.int .i64 (Q : Nat))) = W2 at *
        clear x1 f1 HG1
        have y0 : W2.cell? ⟨w1.heap.size, 0, none⟩ = some (.int .i64 (kk : Nat)) := g2.cell 0
        have y1 : W2.cell? ⟨w1.heap.size, 1, none⟩ = some (.int .i64 (Q : Nat)) := g2.cell 1
        have y2 : W2.cell? ⟨w1.heap.size, 2, none⟩ = some (.slice xA xp.length xc) := g2.cell 2
        have HB2 := Lib.hid (HBr.out.trans (hb2.mono HBr.out.size))
        have HG2 := Lib.hid g2
        clear g2 hb2
        go_wp2_with fail
        refine (Encode_any (kk : Nat) (Q : Nat) xp.length xc xA xp W2 (HQ.out.1.up (HB.out.trans (HB2.out.mono HB.out.size))) HQ.out.2.2.2).mono ?_
        rintro e w3 ⟨hb3, A3, c3, he, hR3, hc3, hm3⟩
        rw [encE_fit (k := kk) (q := Q) (p := xp) (badK_ok hk0 (by omega) hQ0 hQ1) (by omega)] at he hR3 hc3
        dsimp only at he hR3 hc3
        have hel := enc_len kk Q xp
        obtain ⟨m, hm⟩ : ∃ m, szN xp.length = m := ⟨_, rfl⟩
        have hm20 : m ≤ 20 := by rw [← hm]; unfold szN; omega
        rw [hm] at hel
        rw [hel] at he hR3 hc3
        subst he
        have hb3r := HB2.out.trans (hb3.mono HB2.out.size)
        have hs3 := hb3.size
        have H3 := Lib.hid (And.intro hR3 (And.intro hb3r (And.intro (own_below HA.out.1 hb3r) (And.intro (own_below HA.out.2 hb3r) (HG2.out.below hb3 HG2.out.lt)))))
        have HM := Lib.hid (And.intro hm hel)
        clear hR3 hc3 hm3 hb3 hb3r hm hel y0 y1 y2
        go_upto_region 20 with (at_builtin; go_must (refine wpList_append_any w3 rfl (.tmp 62) (.tmp 63) _ rfl w.heap.size 47 i7 _ 8 8 Try.underlying28 HJ.out.1 HJ.out.2.1 HJ.out.2.2.1 HJ.out.2.2.2 rfl (by omega) (.slice A7 la c7) la _ rfl H3.out.2.2.1 w3.heap.size A3 m c3 ((encR kk Q xp).flatMap encS) rfl H3.out.1 (encS_one _) (by simp only [maxLen]; omega) (by omega) (by have := HB.out.size; have := H3.out.2.1.size; omega) ?_; intro v5 w5 ho5 hg5 hv5))
        obtain ⟨A5, c5, rfl, hc5, hm5, _⟩ := own_slice ho5
        have g5 := H3.out.2.2.2.2.grown hg5 (fun e => by have := own_lt HI1.out.all _ e.symm; have := HBr.out.size; omega)
        have hs5 := hg5.size
        have HG5 := Lib.hid (And.intro ho5 (And.intro hg5 hv5))
        clear ho5 hg5 hv5 g5
        go_wp2_with fail
        go_roundw
        case rel => exact ⟨i + 1, Q + 1, U, by go_num, by go_num, by go_num, HI1.out.next_no HRI.out HK.out (by show xp.length ≤ 60; omega) (by omega) HQe.out H3.out.2.1 HG5.out.1 (by rw [HL.out.1, HM.out.2]) HG5.out.2.1 HG5.out.2.2⟩
        case measure => simp [intOf]; omega
    · have hie : i = n := by omega
      subst hie
      have hsm := HI1.out.small
      have ha7 := HA.out.1
      have ha8 := HA.out.2
      have hu := HI1.out.used
      have hll := HX.out.2.1
      have et : l.take i = l := List.take_of_length_le (by omega)
      have em : l.take (min i g) = l.take g := by
        rcases Nat.le_total i g with h | h
        · rw [Nat.min_eq_left h, et, List.take_of_length_le (by omega)]
        · rw [Nat.min_eq_right h]
      rw [et] at ha7 hsm
      rw [em] at ha8 hu
      have hok := fitR_ok HX.out.2.2 hsm
      obtain ⟨s5, t5⟩ := scan_five (g := g) hs hok (by rw [List.length_map]; omega)
      have s4 := scan_four (g := g) hs hok
      have haok := allM_ok (g := g) (s := s) hok 0
      have hwt := wantM_trip g s 0 (l.take g)
      rw [List.map_take, ← s5] at hwt
      rw [List.map_take, ← t5] at hu
      have hwp : ∀ r ∈ wantM g s 0 (l.take g), Reads wr wr.heap.size 1 r.A r.p.length (u8s r.p) := by
        intro r hr
        obtain ⟨x, hx, e1, e2⟩ := wantM_mem hr
        rw [e1, e2]
        exact (HX.out.2.2 x (List.mem_of_mem_take hx)).1.up HI1.out.bel
      have hal : (allM g s 0 (l.map fitR)).length = la := by rw [← HL.out.1, et]
      have hwl : (wantM g s 0 (l.take g)).length = lw := by rw [← HL.out.2, em]
      generalize allM g s 0 (l.map fitR) = al at *
      generalize wantM g s 0 (l.take g) = wl at *
      obtain ⟨_, _, e7, hc7, _, hR7⟩ := own_slice ha7
      injection e7 with e7 _ e7'
      subst e7 e7'
      obtain ⟨_, _, e8, hc8, _, hR8⟩ := own_slice ha8
      injection e8 with e8 _ e8'
      subst e8 e8'
      have HE := Lib.hid (And.intro hR7 (And.intro hR8 (And.intro haok (And.intro hwt (And.intro hwp (And.intro s4 (And.intro hwl hu)))))))
      have hbel : Below w.heap.size w wr := HI1.out.bel
      have HB := Lib.hid hbel
      have HS5 : Hid (Calls Try.prog 21 #[.slice A7 la c7, .int .i64 5] wr (ScanR wr (scanI al 5))) := Scan_any la c7 A7 al 5 wr HE.out.1 (by omega) hc7 HE.out.2.2.1
      have HS4 : Hid (∀ w1, Below wr.heap.size wr w1 → Calls Try.prog 21 #[.slice A7 la c7, .int .i64 4] w1 (ScanR w1 (scanI al 4))) := fun w1 hb => Scan_any la c7 A7 al 4 w1 (HE.out.1.up hb) (by omega) hc7 HE.out.2.2.1
      clear ha7 ha8 hsm hu hll et em hok s5 t5 s4 haok hwt hwp hal hwl hR7 hR8 hbel
      clear HI1 HL HA
      generalize scanI al 5 = ds at *
      generalize scanI al 4 = d4 at *
      go_wp2_with fail
      refine HS5.out.mono ?_
      rintro e w1 ⟨hb1, A1, e1, rs, rfl, hR1, _, hp1, ht1⟩
      obtain ⟨R, hRl⟩ : ∃ R, rs.length = R := ⟨_, rfl⟩
      obtain ⟨T, hT⟩ : ∃ T, totM ds = T := ⟨_, rfl⟩
      rw [hRl] at hR1 ⊢
      rw [hT]
      have H1 := Lib.hid (And.intro hb1 (And.intro hR1 (And.intro hp1 (And.intro ht1 (And.intro hRl hT)))))
      clear hb1 hR1 hp1 ht1 hRl hT
      go_wp2_with fail
      refine (HS4.out w1 H1.out.1).mono ?_
      rintro e w2 ⟨hb2, A2, e2, rs2, rfl, _, _, _, ht2⟩
      rw [HE.out.2.2.2.2.2.1] at ht2 ⊢
      have hr2 : rs2 = [] := by simpa using ht2
      subst hr2
      have hb2w := H1.out.1.trans (hb2.mono H1.out.1.size)
      have H2 := Lib.hid (And.intro hb2 hb2w)
      clear hb2 hb2w ht2
      have hUT : U = T := by rw [← H1.out.2.2.2.2.2]; exact HE.out.2.2.2.2.2.2.2
      subst hUT
      simp only [totM, List.length_nil]
      go_wp2_with fail
      refine (awake_any _).mono ?_
      rintro e w3 ⟨rfl, hb3⟩
      have hb3w := H2.out.2.trans (hb3.mono H2.out.2.size)
      have H3 := Lib.hid (And.intro hb3 hb3w)
      clear hb3 hb3w
      have hRw : R = lw := by
        have h := congrArg List.length (H1.out.2.2.2.1.trans HE.out.2.2.2.1.symm)
        rw [List.length_map, List.length_map, H1.out.2.2.2.2.1, HE.out.2.2.2.2.2.2.1] at h
        exact h
      subst hRw
      have hb13 := H2.out.1.trans (H3.out.1.mono H2.out.1.size)
      have HC : Hid (Calls Try.prog 23 #[.slice A1 R e1, .slice A8 R c8] w3 fun e w' => e = .returned (.bool true) ∧ Below w3.heap.size w3 w') := SameList_any R e1 c8 A1 A8 rs wl w3 (H1.out.2.1.up hb13) (HE.out.2.1.up H3.out.2) (by omega) (fun r hr => (H1.out.2.2.1 r hr).up hb13) (fun r hr => (HE.out.2.2.2.2.1 r hr).up H3.out.2) (H1.out.2.2.2.1.trans HE.out.2.2.2.1.symm)
      clear hb13
      go_wp2_with fail
      refine HC.out.mono ?_
      rintro e w4 ⟨rfl, hb4⟩
      go_wp2_with fail
      go_ret
      exact ⟨by simp, HB.out.trans ((H3.out.2.trans (hb4.mono H3.out.2.size)).mono HB.out.size)⟩

end Go.Proofs.Ytbiiahbhgjjhgaa
