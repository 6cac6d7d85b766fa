/- The walk of begin. Condition: at most 2000 sectors. -/
import Derived.Test.YtbiiahbhgjjhgaaWh
import Derived.Test.YtbiiahbhgjjhgaaLibX
import Derived.Test.YtbiiahbhgjjhgaaLibE
namespace Go.Proofs.Ytbiiahbhgjjhgaa
open Go.RowKit
theorem encS_one (l : List Sec) : ∀ u ∈ l.flatMap encS, u.oneCell' = true := by
  intro u hu
  obtain ⟨s, _, hs⟩ := List.mem_flatMap.1 hu
  simp [encS] at hs
  rcases hs with rfl | rfl | rfl | rfl | rfl | rfl | rfl | rfl <;> rfl
def failV (e : Nat) : List PanicEntry := [{ v := .iface 65 (.agg #[.int .i64 (e : Int)]), recovered := false }]
/-- what begin leaves -/
structure BegR (w : World) (B : Nat) (l : List Sec) (e : Ending) (w' : World) : Prop where
  bel : Below B w w'
  bad : begE l ≠ 0 → e = .panicked (failV (begE l))
  good : ∀ s l', l = s :: l' → begE l = 0 → e = .returned (.tuple #[]) ∧ ∃ b C, b ≠ B ∧ B ≤ b ∧ 4 * szN (s.f + 256 * s.g) ≤ C ∧ Left w' B b (4 * szN (s.f + 256 * s.g)) C 0 (.int .i64 (s.num : Nat)) (.int .i64 (szN (s.f + 256 * s.g) : Nat)) ∧ Row w' b (stOf (l.take (szN (s.f + 256 * s.g))))
theorem Reads.sec {w : World} {B n : Nat} {A : Option Addr} {l : List Sec} (h : Reads w B 8 A n (l.flatMap encS)) (hn : 0 < n) : ∃ b off, A = some ⟨b, off, none⟩ ∧ b < B ∧ ∀ i (hi : i < l.length), ∀ j u, (encS l[i])[j]? = some u → w.cell? ⟨b, off + (8 * i + j), none⟩ = some u := by
  obtain ⟨b, off, e, hb, hc⟩ := h.plain hn (by omega)
  refine ⟨b, off, e, hb, fun i hi j u hu => ?_⟩
  have hj : j < 8 := by have := (List.getElem?_eq_some_iff.1 hu).1; rw [encS_len] at this; exact this
  have := flatMap_at (E := encS) (sz := 8) encS_len l i j hi hj
  rw [Nat.mul_comm 8 i]
  exact hc _ u (this.trans hu)
theorem sec_count {l : List Sec} {w : World} {B n : Nat} {A : Option Addr} (h : Reads w B 8 A n (l.flatMap encS)) : l.length = n := by
  have := h.1
  rw [flatMap_len encS_len] at this
  omega
theorem BegR.bad_end {w w' : World} {B k : Nat} {l : List Sec} (hb : Below B w w') (hE : begE l = k) (hk : k ≠ 0) : BegR w B l (.panicked (failV k)) w' :=
  ⟨hb, fun _ => by rw [hE], fun s9 l9 h9 h0 => absurd (hE.symm.trans h0) hk⟩
theorem or_two {f g : Nat} (hf : f < 256) (hg : g < 256) : bits .or .i64 (f : Int) ((g : Int) * 256) = ((f + 256 * g : Nat) : Int) := by
  have h := or_i (Y := f) (X := g) 1 (by omega) (by omega) hg
  simpa using h
theorem below_step {X W w' : World} (h : Below X.heap.size X W) (hb : Below W.heap.size W w') : Below X.heap.size X w' := h.trans (hb.mono h.size)
/-- a sector's cells, those of a cell of the reader, and what lies below -/
theorem sec_cells {B Bs b o : Nat} {X w' : World} {x : Sec} {u : Value} (hB : Below B X w') (hk : Blk X Bs 47 (encS x).toArray) (h0 : X.cell? ⟨b, o, none⟩ = some u) (lb : b < B) (ls : Bs < B) :
    w'.cell? ⟨Bs, 0, none⟩ = some (.int .u8 (x.a : Int)) ∧ w'.cell? ⟨Bs, 1, none⟩ = some (.int .u8 (x.b : Int)) ∧ w'.cell? ⟨Bs, 2, none⟩ = some (.int .u8 (x.c : Int)) ∧ w'.cell? ⟨Bs, 3, none⟩ = some (.int .u8 (x.d : Int)) ∧ w'.cell? ⟨Bs, 4, none⟩ = some (.int .u8 (x.e : Int)) ∧ w'.cell? ⟨Bs, 5, none⟩ = some (.int .u8 (x.f : Int)) ∧ w'.cell? ⟨Bs, 6, none⟩ = some (.int .u8 (x.g : Int)) ∧ w'.cell? ⟨Bs, 7, none⟩ = some (.int .u8 (x.h : Int)) ∧ w'.cell? ⟨b, o, none⟩ = some u ∧ Below B X w' := by
  have hk' := hk.below hB ls
  exact ⟨hk'.cell 0, hk'.cell 1, hk'.cell 2, hk'.cell 3, hk'.cell 4, hk'.cell 5, hk'.cell 6, hk'.cell 7, (hB.cell (p := ⟨b, o, none⟩) lb).trans h0, hB⟩
set_option linter.unusedSimpArgs false in
set_option maxHeartbeats 2000000 in
theorem begin_any (B n c : Nat) (A : Option Addr) (l : List Sec) (w : World) (hB : Blk w B 71 #[.slice none 0 0, .int .i64 0, .int .i64 0]) (hR : Reads w B 8 A n (l.flatMap encS)) (hn : n ≤ 2000) (hc : n ≤ c) (hl : ∀ s ∈ l, s.Ok) :
    Calls Try.prog 30 #[.pointer (some ⟨B, 0, none⟩), .slice A n c] w (BegR w B l) := by
  have hlen := sec_count hR
  cases l with
  | nil =>
    obtain rfl : n = 0 := by simpa using hlen.symm
    go_enter Try.func30, Try.ntmps30
    go_wp2_with fail
    refine (demand_false (by simp) 10 w).mono ?_
    rintro e w1 ⟨rfl, rfl⟩
    go_wp2_with fail
    exact ⟨rfl, Below.refl _ _, fun _ => rfl, fun s l' h => by cases h⟩
  | cons s l =>
    obtain ⟨b, off, rfl, hb, hcells⟩ := hR.sec (by rw [← hlen]; simp)
    have hn0 : (0 : Int) < n := by rw [← hlen]; simp
    have hs := hl s (by simp)
    have c0 := hcells 0 (by simp) 0 _ rfl
    have c1 := hcells 0 (by simp) 1 _ rfl
    have c2 := hcells 0 (by simp) 2 _ rfl
    have c3 := hcells 0 (by simp) 3 _ rfl
    have c4 := hcells 0 (by simp) 4 _ rfl
    have c5 := hcells 0 (by simp) 5 _ rfl
    have c6 := hcells 0 (by simp) 6 _ rfl
    have c7 := hcells 0 (by simp) 7 _ rfl
    simp only [List.getElem_cons_zero, Nat.mul_zero, Nat.zero_add, Nat.add_zero] at c0 c1 c2 c3 c4 c5 c6 c7
    have hlt := hB.lt
    have hBw : B ≤ w.heap.size := by omega
    have HX := Lib.hid (And.intro hR (And.intro hl (And.intro hcells (And.intro hB hlen))))
    clear hR hl hcells hB hlen
    go_enter Try.func30, Try.ntmps30
    go_wp2_with fail
    refine (demand_true ?hb 10 w).mono ?_
    case hb => exact decide_eq_true (by omega)
    rintro e w1 ⟨rfl, rfl⟩
    go_wp2_with fail
    refine (number_any s w hs).mono ?_
    rintro e w1 ⟨rfl, hb1⟩
    have hB1 := HX.out.2.2.2.1.below hb1 hlt
    have b1 : w1.cell? ⟨B, 1, none⟩ = some (.int .i64 0) := hB1.cell 1
    have z1 := hB1.frozen 1
    have hlt1 := hB1.lt
    have HB1 := Lib.hid hB1
    have d5 := (hb1.cell (p := ⟨b, off + 5, none⟩) (by dsimp only; omega)).trans c5
    have d6 := (hb1.cell (p := ⟨b, off + 6, none⟩) (by dsimp only; omega)).trans c6
    have hbb1 := hb1.mono hBw
    clear c0 c1 c2 c3 c4 c5 c6 c7 hB1
    go_wp2_with fail
    have hB2 := HB1.out.set_ 1 (.int .i64 (s.num : Nat))
    have hbb2 : Below B w (w1.setCell ⟨B, 1, none⟩ (.int .i64 (s.num : Nat))) := hbb1.setCell (by simp) _
    by_cases h7 : s.num = 0
    · have hE : begE (s :: l) = 7 := by simp only [begE]; rw [if_pos h7]
      refine (demand_false ?hb 7 _).mono ?_
      case hb => exact decide_eq_false (by omega)
      clear h7
      rintro e w3 ⟨rfl, rfl⟩
      go_wp2_with fail
      exact ⟨rfl, BegR.bad_end (k := 7) hbb2 hE (by decide)⟩
    refine (demand_true ?hb 7 _).mono ?_
    case hb => exact decide_eq_true (by omega)
    rintro e w3 ⟨rfl, rfl⟩
    obtain ⟨hf, hg⟩ : s.f < 256 ∧ s.g < 256 := by obtain ⟨_, _, _, _, _, h6, h7, _⟩ := hs; exact ⟨h6, h7⟩
    have ew := or_two hf hg
    have EW := Lib.hid ew
    clear ew
    go_wp2_with fail
    go_region
    rw [EW.out]
    have HLen : Hid (s.f + 256 * s.g = s.f + 256 * s.g) := rfl
    obtain ⟨m, hm⟩ : ∃ m, s.f + 256 * s.g = m := ⟨_, rfl⟩
    rw [hm]
    have hm16 : m < 65536 := by omega
    clear EW hf hg d5 d6 HLen
    have HM := Lib.hid hm
    clear hm
    have hB3 := hB2.drew
    have hbb3 := hbb2.drew
    have B3 := Lib.hid (And.intro hB3 hbb3)
    have hs3 : (w1.setCell ⟨B, 1, none⟩ (.int .i64 (s.num : Nat))).drew.heap.size = w1.heap.size := by simp
    clear hB3 hbb3 hB2 hbb2 HB1 b1 z1
    generalize (w1.setCell ⟨B, 1, none⟩ (.int .i64 (s.num : Nat))).drew = w3 at *
    go_wp2_with fail
    by_cases h5 : 4096 < m
    · have hE : begE (s :: l) = 5 := by simp only [begE]; rw [if_neg h7, HM.out, if_pos h5]
      refine (demand_false ?hb 5 _).mono ?_
      case hb => exact decide_eq_false (by omega)
      rintro e w4 ⟨rfl, rfl⟩
      go_wp2_with fail
      exact ⟨rfl, BegR.bad_end (k := 5) B3.out.2 hE (by decide)⟩
    refine (demand_true ?hb 5 _).mono ?_
    case hb => exact decide_eq_true (by omega)
    rintro e w4 ⟨rfl, rfl⟩
    go_wp2_with fail
    refine (Size_in m _ (by omega)).mono ?_
    rintro e w4 ⟨rfl, rfl⟩
    have hB3 := B3.out.1
    have b2 : w3.cell? ⟨B, 2, none⟩ = some (.int .i64 0) := hB3.cell 2
    have z2 := hB3.frozen 2
    go_wp2_with fail
    have hB4 := B3.out.1.set_ 2 (.int .i64 (szN m : Nat))
    have hbb4 : Below B w (w3.setCell ⟨B, 2, none⟩ (.int .i64 (szN m : Nat))) := B3.out.2.setCell (by simp) _
    have B4 := Lib.hid (And.intro hB4 hbb4)
    have hs4 : (w3.setCell ⟨B, 2, none⟩ (.int .i64 (szN m : Nat))).heap.size = w3.heap.size := by simp
    have hlen := HX.out.2.2.2.2
    clear hB4 hbb4 b2 z2 hB3 B3
    generalize (w3.setCell ⟨B, 2, none⟩ (.int .i64 (szN m : Nat))) = w4 at *
    by_cases h10 : n < szN m
    · have hE : begE (s :: l) = 10 := by simp only [begE]; rw [if_neg h7, HM.out, if_neg h5, if_pos (by rw [hlen]; exact h10)]
      refine (demand_false ?hb 10 _).mono ?_
      case hb => exact decide_eq_false (by omega)
      rintro e w5 ⟨rfl, rfl⟩
      go_wp2_with fail
      exact ⟨rfl, BegR.bad_end (k := 10) B4.out.2 hE (by decide)⟩
    refine (demand_true ?hb 10 _).mono ?_
    case hb => exact decide_eq_true (by omega)
    rintro e w5 ⟨rfl, rfl⟩
    have hB4 := B4.out.1
    have b2 : w4.cell? ⟨B, 2, none⟩ = some (.int .i64 (szN m : Nat)) := hB4.cell 2
    have hN2 := szN_pos m
    have HLEN := Lib.hid hlen
    have HNUM := Lib.hid (And.intro h7 h5)
    clear hlen hB4
    generalize hNN : szN m = N at *
    have HNN := Lib.hid hNN
    clear hNN
    have hN3 : (N : Int) ≤ n := by omega
    go_wp2_with fail
    have hq := Sec.num_lt hs
    generalize hQ : s.num = q at *
    have HQ := Lib.hid hQ
    clear hQ
    go_loopw [59] (fun i wr => ∃ k : Nat, k ≤ N ∧ i = .int .i64 k ∧ ∃ v, Blk wr B 71 #[v, .int .i64 (q : Nat), .int .i64 (N : Nat)] ∧ wr.ownsRow w.heap.size 5 1 v (4 * k) (u8s (stOf ((s :: l).take k))) ∧ Below B w wr ∧ ∀ x ∈ (s :: l).take k, x.num = q) (fun i _ => N - (intOf i).toNat)
    case atStart => exact ⟨0, by omega, rfl, _, B4.out.1, by simpa [stOf, u8s] using World.ownsRow_nil w4 w.heap.size 5 1, B4.out.2, by simp⟩
    case round =>
      obtain ⟨k, hk, rfl, v, hBk, hown, hbel, hsame⟩ := hrel
      have HK := Lib.hid (And.intro hBk (And.intro hown (And.intro hbel hsame)))
      clear hBk hown hbel hsame
      by_cases hkn : k < N
      · have hkl : k < (s :: l).length := by rw [HLEN.out]; omega
        have hx := HX.out.2.1 (s :: l)[k] (List.getElem_mem _)
        have hcx := HX.out.2.2.1 k hkl
        have HT : Hid ((s :: l).take (k + 1) = (s :: l).take k ++ [(s :: l)[k]]) := (List.take_append_getElem hkl).symm
        generalize (s :: l)[k] = x at *
        obtain ⟨d0, d1, d2, d3, d4, d5, d6, d7⟩ : wr.cell? ⟨b, off + k * 8, none⟩ = some (.int .u8 (x.a : Int)) ∧ wr.cell? ⟨b, off + k * 8 + 1, none⟩ = some (.int .u8 (x.b : Int)) ∧ wr.cell? ⟨b, off + k * 8 + 2, none⟩ = some (.int .u8 (x.c : Int)) ∧ wr.cell? ⟨b, off + k * 8 + 3, none⟩ = some (.int .u8 (x.d : Int)) ∧ wr.cell? ⟨b, off + k * 8 + 4, none⟩ = some (.int .u8 (x.e : Int)) ∧ wr.cell? ⟨b, off + k * 8 + 5, none⟩ = some (.int .u8 (x.f : Int)) ∧ wr.cell? ⟨b, off + k * 8 + 6, none⟩ = some (.int .u8 (x.g : Int)) ∧ wr.cell? ⟨b, off + k * 8 + 7, none⟩ = some (.int .u8 (x.h : Int)) := by
          have g : ∀ j u, (encS x)[j]? = some u → wr.cell? ⟨b, off + k * 8 + j, none⟩ = some u := fun j u hu => by
            rw [HK.out.2.2.1.cell hb, Nat.add_assoc, Nat.mul_comm k 8]
            exact hcx j u hu
          exact ⟨g 0 _ rfl, g 1 _ rfl, g 2 _ rfl, g 3 _ rfl, g 4 _ rfl, g 5 _ rfl, g 6 _ rfl, g 7 _ rfl⟩
        have hb1' : wr.cell? ⟨B, 1, none⟩ = some (.int .i64 (q : Nat)) := HK.out.1.cell 1
        have hbl := HK.out.1.lt
        clear hcx b2
        go_wp2_with fail
        have hkX : Blk (wr.alloc (.cells (encS x).toArray 47)) wr.heap.size 47 (encS x).toArray := Blk.new wr 47 _
        have hBX := HK.out.1.alloc (.cells (encS x).toArray 47)
        have hbX : Below B w (wr.alloc (.cells (encS x).toArray 47)) := HK.out.2.2.1.alloc (by omega) _
        have hoX := own_alloc HK.out.2.1 (.cells (encS x).toArray 47)
        have hws := HK.out.2.2.1.size
        have hsX : wr.heap.size + 1 = (wr.alloc (.cells (encS x).toArray 47)).heap.size := by simp
        change Code.wp _ _ _ _ (wr.alloc (.cells (encS x).toArray 47))
        generalize (wr.alloc (.cells (encS x).toArray 47)) = X at *
        generalize wr.heap.size = sb at *
        have lB : B < X.heap.size := by omega
        have ls : sb < X.heap.size := by omega
        have y1 : X.cell? ⟨B, 1, none⟩ = some (.int .i64 (q : Nat)) := hBX.cell 1
        have HX2 := Lib.hid (And.intro hkX (And.intro hBX (And.intro hbX hoX)))
        clear d0 d1 d2 d3 d4 d5 d6 d7 hb1' hkX hBX hbX hoX
        by_cases hxq : x.num = q
        · go_region_held3 (fun w' => w'.cell? ⟨sb, 0, none⟩ = some (.int .u8 (x.a : Int)) ∧ w'.cell? ⟨sb, 1, none⟩ = some (.int .u8 (x.b : Int)) ∧ w'.cell? ⟨sb, 2, none⟩ = some (.int .u8 (x.c : Int)) ∧ w'.cell? ⟨sb, 3, none⟩ = some (.int .u8 (x.d : Int)) ∧ w'.cell? ⟨sb, 4, none⟩ = some (.int .u8 (x.e : Int)) ∧ w'.cell? ⟨sb, 5, none⟩ = some (.int .u8 (x.f : Int)) ∧ w'.cell? ⟨sb, 6, none⟩ = some (.int .u8 (x.g : Int)) ∧ w'.cell? ⟨sb, 7, none⟩ = some (.int .u8 (x.h : Int)) ∧ w'.cell? ⟨B, 1, none⟩ = some (.int .i64 (q : Nat)) ∧ Below X.heap.size X w')
            (first
              | exact sec_cells ((Below.refl _ X).drew) HX2.out.1 y1 lB ls
              | (go_split_ands; refine sec_cells (below_step ?_ hb') HX2.out.1 y1 lB ls; assumption)
              | (go_split_ands; refine sec_cells ?_ HX2.out.1 y1 lB ls; assumption))
            (first
              | (go_at_call 38; refine (number_any x _ hx).mono ?_; rintro e w' ⟨rfl, hb'⟩)
              | (go_at_call 37; refine (demand_true ?hb 10 _).mono ?_; (first | rfl | (simp; omega) | simp [hxq]); rintro e w' ⟨rfl, rfl⟩))
          rename_i hS
          have hbS := hS.2.2.2.2.2.2.2.2.2
          clear hS
          have hk9 := HX2.out.1.below hbS ls
          have hB9 := HX2.out.2.1.below hbS lB
          have hb9 : Below B w w' := HX2.out.2.2.1.trans (hbS.mono (by omega))
          have ho9 := own_below HX2.out.2.2.2 hbS
          have hs9 := hbS.size
          clear hbS y1 HX2
          go_wp2_with fail
          obtain ⟨A1, c1, hv1, _, _, _⟩ := own_slice ho9
          subst hv1
          have kc0 : w'.drew.cell? ⟨B, 0, none⟩ = some (.slice A1 (4 * k) c1) := hB9.drew.cell 0
          have hk9' := hk9.drew
          have hB9' := hB9.drew
          have hb9' := hb9.drew
          have ho9' := own_drew ho9
          have hs9' : w'.drew.heap.size = w'.heap.size := rfl
          refine wp_region_tail_lit (S := fun w' => w'.cell? ⟨B, 0, none⟩ = some (.slice A1 (4 * k) c1)) 8 (by kernel_rfl) (by kernel_rfl) kc0 (fun hHeld => ?_)
          simp only [List.take, List.drop]
          generalize w'.drew = W at *
          clear hk9 hB9 hb9 ho9
          refine wpAnyH_take (i := 0) (oi := _) (v := ?_) rfl (by kernel_rfl) (by kernel_rfl) (by kernel_rfl) (fun _ _ _ h => h) (Or.inl ⟨by rfl, ?_⟩) (by assumption) ?_
          rotate_left 1
          · (intro w9 hS9; (try dsimp only at hS9); go_simp <;> with_reducible rfl)
          try simp only [List.getElem_toArray, List.getElem_cons_succ, List.getElem_cons_zero, Act.put, List.setIfInBounds_toArray, List.set_cons_zero, List.set_cons_succ]
          refine wpAnyH_take (i := 1) (oi := _) (v := ?_) rfl (by kernel_rfl) (by kernel_rfl) (by kernel_rfl) (fun _ _ _ h => h) (Or.inl ⟨by rfl, ?_⟩) (by assumption) ?_
          rotate_left 1
          · (intro w9 hS9; (try dsimp only at hS9); go_simp <;> with_reducible rfl)
          try simp only [List.getElem_toArray, List.getElem_cons_succ, List.getElem_cons_zero, Act.put, List.setIfInBounds_toArray, List.set_cons_zero, List.set_cons_succ]
          refine wpAnyH_take (i := 2) (oi := _) (v := ?_) rfl (by kernel_rfl) (by kernel_rfl) (by kernel_rfl) (fun _ _ _ h => h) (Or.inl ⟨by rfl, ?_⟩) (by assumption) ?_
          rotate_left 1
          · (intro w9 hS9; (try dsimp only at hS9); go_simp <;> with_reducible rfl)
          try simp only [List.getElem_toArray, List.getElem_cons_succ, List.getElem_cons_zero, Act.put, List.setIfInBounds_toArray, List.set_cons_zero, List.set_cons_succ]
          refine wpAnyH_take (i := 3) (oi := _) (v := ?_) rfl (by kernel_rfl) (by kernel_rfl) (by kernel_rfl) (fun _ _ _ h => h) (Or.inl ⟨by rfl, ?_⟩) (by assumption) ?_
          rotate_left 1
          · (intro w9 hS9; (try dsimp only at hS9); go_simp <;> with_reducible rfl)
          try simp only [List.getElem_toArray, List.getElem_cons_succ, List.getElem_cons_zero, Act.put, List.setIfInBounds_toArray, List.set_cons_zero, List.set_cons_succ]
          refine wpAnyH_take (i := 4) (oi := _) (v := ?_) rfl (by kernel_rfl) (by kernel_rfl) (by kernel_rfl) (fun _ _ _ h => h) (Or.inl ⟨by rfl, ?_⟩) (by assumption) ?_
          rotate_left 1
          · (intro w9 hS9; (try dsimp only at hS9); go_simp <;> with_reducible rfl)
          try simp only [List.getElem_toArray, List.getElem_cons_succ, List.getElem_cons_zero, Act.put, List.setIfInBounds_toArray, List.set_cons_zero, List.set_cons_succ]
          refine wpAnyH_take (i := 5) (oi := _) (v := ?_) rfl (by kernel_rfl) (by kernel_rfl) (by kernel_rfl) (fun _ _ _ h => h) (Or.inl ⟨by rfl, ?_⟩) (by assumption) ?_
          rotate_left 1
          · (intro w9 hS9; (try dsimp only at hS9); go_simp <;> with_reducible rfl)
          try simp only [List.getElem_toArray, List.getElem_cons_succ, List.getElem_cons_zero, Act.put, List.setIfInBounds_toArray, List.set_cons_zero, List.set_cons_succ]
          refine wpAnyH_take (i := 6) (oi := _) (v := ?_) rfl (by kernel_rfl) (by kernel_rfl) (by kernel_rfl) (fun _ _ _ h => h) (Or.inl ⟨by rfl, ?_⟩) (by assumption) ?_
          rotate_left 1
          · (intro w9 hS9; (try dsimp only at hS9); go_simp <;> with_reducible rfl)
          try simp only [List.getElem_toArray, List.getElem_cons_succ, List.getElem_cons_zero, Act.put, List.setIfInBounds_toArray, List.set_cons_zero, List.set_cons_succ]
          obtain ⟨i0, hi0, hz0, hz1, hz2⟩ := info_parts info5b
          have hsl : Reads W W.heap.size 1 (some ⟨sb, 4, none⟩) 4 (u8s x.dat) := by
            refine ⟨rfl, fun _ => ⟨_, rfl, by dsimp only; omega, fun j u hu => ?_⟩⟩
            rw [add_plain, hk9'.cell]
            have hj : j < 4 := (List.getElem?_eq_some_iff.1 hu).1
            rcases (by omega : j = 0 ∨ j = 1 ∨ j = 2 ∨ j = 3) with rfl | rfl | rfl | rfl <;> exact hu
          refine wpAnyH_ready (rs := [7]) (by kernel_rfl) (by simp) ?_
          refine AllReadyH.cons (o := _) rfl (fun K hK => ?_) AllReadyH.nil
          try simp only [List.getElem_toArray, List.getElem_cons_succ, List.getElem_cons_zero]
          rw [if_pos (show Region.wanted _ _ = true from rfl)]
          refine wp_append_any W (.tmp 76) (.tmp 77) _ rfl w.heap.size 5 i0 _ 1 1 Try.underlying25 hi0 hz0 hz1 hz2 rfl (by omega) (.slice A1 (4 * k) c1) (4 * k) _ (by rfl) ho9' W.heap.size (some ⟨sb, 4, none⟩) 4 4 (u8s x.dat) (by rfl) hsl (u8s_one _) (by simp only [maxLen]; omega) (by omega) (by omega) ?_
          intro v2 W2 ho2 hg2 hv2
          have hne : some B ≠ Value.ownBlock (.slice A1 (4 * k) c1) := fun e => by
            have := own_block_ge ho9' B e.symm
            omega
          have hB2 := hB9'.grown hg2 hne
          have hb2 : Below B w W2 := hb9'.grown hg2 (by omega) (fun g e => by have := own_block_ge ho9' g e; omega)
          refine hK.out _ _ (hB2.cell 0) (fun hHeld => ?_)
          clear hK K
          try simp only [List.getElem_toArray, List.getElem_cons_succ, List.getElem_cons_zero, Act.put, List.setIfInBounds_toArray, List.set_cons_zero, List.set_cons_succ]
          obtain ⟨A2, c2, hv3, _, _, _⟩ := own_slice ho2
          subst hv3
          have e0 : W2.cell? ⟨B, 0, none⟩ = some (.slice A1 (4 * k) c1) := hB2.cell 0
          have z0 := hB2.frozen 0
          have l0 := hB2.lt
          have hne2 : Value.ownBlock (.slice A2 (4 * k + 4) c2) ≠ some B := fun e => by
            have := own_block_ge ho2 B e
            omega
          have HF := Lib.hid (And.intro hB2 (And.intro hb2 (And.intro ho2 hne2)))
          clear hB2 hb2 ho2 hne hg2 hv2 hHeld hsl ho9' hb9' hB9' hk9' kc0 hne2
          refine wpAnyH_done (by kernel_rfl) ?_ _
          refine tailQ_step rfl ?_
          go_wp2_with fail
          refine tailQ_step rfl ?_
          go_wp2_with fail
          refine tailQ_step rfl ?_
          go_wp2_with fail
          refine tailQ_step rfl ?_
          go_wp2_with fail
          apply_assumption
          go_wp2_with fail
          refine ⟨⟨k + 1, by omega, by go_num, _, HF.out.1.set_ 0 _, ?_, HF.out.2.1.setCell (by simp) _, ?_⟩, by simp [intOf]; omega⟩
          · rw [HT.out, stOf_append, u8s_append, Nat.mul_add]
            have h := own_far HF.out.2.2.1 (p := ⟨B, 0, none⟩) HF.out.2.2.2 (.slice A2 (4 * k + 4) c2)
            simpa [stOf] using h
          · rw [HT.out]
            intro y hy
            rcases List.mem_append.1 hy with hy | hy
            · exact HK.out.2.2.2 y hy
            · rw [List.mem_singleton.1 hy]
              exact hxq
        · have hE : begE (s :: l) = 10 := by
            simp only [begE]
            rw [HQ.out, if_neg (by omega), HM.out, if_neg h5, if_neg (by rw [HLEN.out, HNN.out]; omega), if_pos]
            rw [HNN.out]
            refine List.any_eq_true.2 ⟨x, ?_, by simpa using hxq⟩
            rw [show N = k + 1 + (N - (k + 1)) by omega, List.take_add, HT.out]
            simp
          have HXB : Hid (((x.num : Int) == (q : Int)) = false) := by show _ = _; rw [beq_eq_false_iff_ne]; omega
          refine wp_region_snoc_lit (S := fun w' => w'.cell? ⟨sb, 0, none⟩ = some (.int .u8 (x.a : Int)) ∧ w'.cell? ⟨sb, 1, none⟩ = some (.int .u8 (x.b : Int)) ∧ w'.cell? ⟨sb, 2, none⟩ = some (.int .u8 (x.c : Int)) ∧ w'.cell? ⟨sb, 3, none⟩ = some (.int .u8 (x.d : Int)) ∧ w'.cell? ⟨sb, 4, none⟩ = some (.int .u8 (x.e : Int)) ∧ w'.cell? ⟨sb, 5, none⟩ = some (.int .u8 (x.f : Int)) ∧ w'.cell? ⟨sb, 6, none⟩ = some (.int .u8 (x.g : Int)) ∧ w'.cell? ⟨sb, 7, none⟩ = some (.int .u8 (x.h : Int)) ∧ w'.cell? ⟨B, 1, none⟩ = some (.int .i64 (q : Nat)) ∧ Below X.heap.size X w') _ rfl (by kernel_rfl) (by kernel_rfl) (sec_cells ((Below.refl _ X).drew) HX2.out.1 y1 lB ls) (fun hHeld => ?_)
          simp only [List.dropLast]
          refine wpAnyH_take (i := 0) (oi := _) (v := ?_) rfl (by kernel_rfl) (by kernel_rfl) (by kernel_rfl) (fun _ _ _ h => h) (Or.inl ⟨by rfl, ?_⟩) (by assumption) ?_
          rotate_left 1
          · (intro w9 hS9; (try dsimp only at hS9); go_simp <;> with_reducible rfl)
          try simp only [List.getElem_toArray, List.getElem_cons_succ, List.getElem_cons_zero, Act.put, List.setIfInBounds_toArray, List.set_cons_zero, List.set_cons_succ]
          refine wpAnyH_take (i := 2) (oi := _) (v := ?_) rfl (by kernel_rfl) (by kernel_rfl) (by kernel_rfl) (fun _ _ _ h => h) (Or.inl ⟨by rfl, ?_⟩) (by assumption) ?_
          rotate_left 1
          · (intro w9 hS9; (try dsimp only at hS9); go_simp <;> with_reducible rfl)
          try simp only [List.getElem_toArray, List.getElem_cons_succ, List.getElem_cons_zero, Act.put, List.setIfInBounds_toArray, List.set_cons_zero, List.set_cons_succ]
          refine wpAnyH_take (i := 3) (oi := _) (v := ?_) rfl (by kernel_rfl) (by kernel_rfl) (by kernel_rfl) (fun _ _ _ h => h) (Or.inl ⟨by rfl, ?_⟩) (by assumption) ?_
          rotate_left 1
          · (intro w9 hS9; (try dsimp only at hS9); go_simp <;> with_reducible rfl)
          try simp only [List.getElem_toArray, List.getElem_cons_succ, List.getElem_cons_zero, Act.put, List.setIfInBounds_toArray, List.set_cons_zero, List.set_cons_succ]
          refine wpAnyH_take (i := 4) (oi := _) (v := ?_) rfl (by kernel_rfl) (by kernel_rfl) (by kernel_rfl) (fun _ _ _ h => h) (Or.inl ⟨by rfl, ?_⟩) (by assumption) ?_
          rotate_left 1
          · (intro w9 hS9; (try dsimp only at hS9); go_simp <;> with_reducible rfl)
          try simp only [List.getElem_toArray, List.getElem_cons_succ, List.getElem_cons_zero, Act.put, List.setIfInBounds_toArray, List.set_cons_zero, List.set_cons_succ]
          refine wpAnyH_take (i := 5) (oi := _) (v := ?_) rfl (by kernel_rfl) (by kernel_rfl) (by kernel_rfl) (fun _ _ _ h => h) (Or.inl ⟨by rfl, ?_⟩) (by assumption) ?_
          rotate_left 1
          · (intro w9 hS9; (try dsimp only at hS9); go_simp <;> with_reducible rfl)
          try simp only [List.getElem_toArray, List.getElem_cons_succ, List.getElem_cons_zero, Act.put, List.setIfInBounds_toArray, List.set_cons_zero, List.set_cons_succ]
          refine wpAnyH_ready (rs := [1]) (by kernel_rfl) (by simp) ?_
          refine AllReadyH.cons (o := _) rfl (fun K hK => ?_) AllReadyH.nil
          try simp only [List.getElem_toArray, List.getElem_cons_succ, List.getElem_cons_zero]
          go_simp
          refine (number_any x _ hx).mono ?_
          rintro e w' ⟨rfl, hb'⟩
          go_wp2_with fail
          have hb6 : Below X.heap.size X w' := ((Below.refl _ X).drew).trans hb'
          refine hK.out _ _ (sec_cells hb6 HX2.out.1 y1 lB ls) (fun hHeld => ?_)
          clear hK K hb'
          try simp only [List.getElem_toArray, List.getElem_cons_succ, List.getElem_cons_zero, Act.put, List.setIfInBounds_toArray, List.set_cons_zero, List.set_cons_succ]
          refine wpAnyH_take (i := 6) (oi := _) (v := ?_) rfl (by kernel_rfl) (by kernel_rfl) (by kernel_rfl) (fun _ _ _ h => h) (Or.inl ⟨by rfl, ?_⟩) (by assumption) ?_
          rotate_left 1
          · (intro w9 hS9; (try dsimp only at hS9); go_simp <;> with_reducible rfl)
          try simp only [List.getElem_toArray, List.getElem_cons_succ, List.getElem_cons_zero, Act.put, List.setIfInBounds_toArray, List.set_cons_zero, List.set_cons_succ]
          refine wpAnyH_done (by kernel_rfl) ?_ _
          refine snocQ_normal rfl ?_
          go_wp2_with fail
          refine (demand_false HXB.out 10 _).mono ?_
          rintro e w9 ⟨rfl, rfl⟩
          go_wp2_with fail
          exact ⟨rfl, BegR.bad_end (k := 10) (HX2.out.2.2.1.trans (hb6.mono (by omega))) hE (by decide)⟩
      · obtain rfl : k = N := by omega
        go_wp2_with fail
        refine bodyPost_ret (results_none rfl _ _ _) rfl ?_
        obtain ⟨g, cap, cur, hv, hg, hbk, hcap, _, hcs, htk⟩ := own_blk HK.out.2.1 (by omega)
        have hall : ∀ x ∈ (s :: l).take k, x.num = s.num := by rw [HQ.out]; exact HK.out.2.2.2
        have hok : BegOk s l := ⟨by rw [HQ.out]; omega, by rw [HM.out]; omega, by rw [HM.out, HNN.out, HLEN.out]; omega, by rw [HM.out, HNN.out]; exact hall⟩
        refine ⟨HK.out.2.2.1, fun h => absurd (begOk_zero hok) h, fun s9 l9 h9 _ => ?_⟩
        injection h9 with h9 h10
        subst h9 h10
        refine ⟨rfl, g, cap, by omega, by omega, by rw [HM.out, HNN.out]; omega, ?_, ?_⟩
        · rw [HM.out, HNN.out, HQ.out]
          have h1 := HK.out.1
          rw [hv] at h1
          exact ⟨_, h1, fun _ => rfl⟩
        · rw [HM.out, HNN.out]
          intro j hj
          rw [hbk.cell]
          have hj4 : j < 4 * k := by rw [stOf_len, List.length_take, HLEN.out] at hj; omega
          have h1 : (cur.toList.take (4 * k * 1))[j]? = cur[j]? := by rw [List.getElem?_take_of_lt (by omega), Array.getElem?_toList]
          rw [← h1, htk, u8s, List.getElem?_map, List.getElem?_eq_getElem hj, List.getD_eq_getElem?_getD, List.getElem?_eq_getElem hj]
          rfl
end Go.Proofs.Ytbiiahbhgjjhgaa
