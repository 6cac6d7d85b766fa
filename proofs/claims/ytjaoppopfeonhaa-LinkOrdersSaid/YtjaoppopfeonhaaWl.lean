/- The walks of ticks, decide, Decide. Conditions: sizes, as named. -/
import Derived.Test.YtjaoppopfeonhaaWk
namespace Go.Proofs.Ytjaoppopfeonhaa
open Go.RowKit
theorem tdiv_lo {a b : Int} (ha : 0 ≤ a) (hb : 0 < b) : 0 ≤ a.tdiv b ∧ a.tdiv b ≤ a := by
  rw [Int.tdiv_eq_ediv_of_nonneg ha]
  exact ⟨Int.ediv_nonneg ha (by omega), Int.ediv_le_self _ ha⟩
theorem ticks_any (b : Nat) (ra : Int) (w : World) (hb : b ≤ 100000) (h0 : 0 ≤ ra) (h1 : ra ≤ 65536) :
    Calls Try.prog 39 #[.int .i64 (b : Nat), .int .i64 ra] w fun e w' => e = .returned (.int .i64 (ticksM b ra)) ∧ w' = w := by
  by_cases hr : ra = 0
  · subst hr
    go_enter Try.func39, Try.ntmps39
    go_wp2_with fail
    go_ret
    exact ⟨rfl, rfl⟩
  · have hne : (ra == 0) = false := by rw [beq_eq_false_iff_ne]; exact hr
    have hd := tdiv_lo (a := (b : Int) + ra - 1) (b := ra) (by omega) (by omega)
    have kw : IntKind.i64.wrap (((b : Int) + ra - 1).tdiv ra) = ((b : Int) + ra - 1).tdiv ra := IntWalk.i64_in _ (by omega)
    have HT : Hid (ticksM b ra = ((b : Int) + ra - 1).tdiv ra) := by show _ = _; unfold ticksM; rw [if_neg hr]
    have kw2 : IntKind.i64.wrap ((b : Int) + ra) = (b : Int) + ra := IntWalk.i64_in _ (by omega)
    have kw3 : IntKind.i64.wrap ((b : Int) + ra - 1) = (b : Int) + ra - 1 := IntWalk.i64_in _ (by omega)
    go_enter Try.func39, Try.ntmps39
    go_wp2_with fail
    go_ret
    exact ⟨ret_int (by rw [HT.out]), rfl⟩
theorem Blk.tag {W : World} {b g : Nat} {t t' : TypeId} {cs cs' : Array Value} (h : Blk W b t cs) (h' : Blk W g t' cs') (ht : t ≠ t') : b ≠ g := by
  intro e
  subst e
  have h1 : W.heap[b]? = some (.cells cs t (0, 0)) := h
  have h2 : W.heap[b]? = some (.cells cs' t' (0, 0)) := h'
  rw [h1] at h2
  injection h2 with h2
  injection h2 with _ h3
  exact ht h3
/-- choices that are left, in their block -/
def ChB (W : World) (g : Nat) (cs : List Int) : Prop :=
  ∃ A c, Blk W g 77 #[.slice A cs.length c] ∧ cs.length ≤ c ∧ c ≤ maxLen ∧ (0 < cs.length → ∃ ab off cur, A = some ⟨ab, off, none⟩ ∧ Blk W ab 3 cur ∧ ∀ j u, (i64s cs)[j]? = some u → cur[off + j]? = some u)
theorem ChB.grown {W W' : World} {g : Nat} {cs : List Int} (h : ChB W g cs) {row : Option Nat} (hg : W.grownBy W' row) (hr : ∀ b, row = some b → ∃ t cur, Blk W b t cur ∧ t ≠ 77 ∧ t ≠ 3) : ChB W' g cs := by
  obtain ⟨A, c, hB, hc, hm, hA⟩ := h
  refine ⟨A, c, hB.grown hg (fun e => ?_), hc, hm, fun h0 => ?_⟩
  · obtain ⟨t, cur, h1, h2, _⟩ := hr g e.symm
    exact h1.tag hB h2 rfl
  · obtain ⟨ab, off, cur, hA, hcur, hcc⟩ := hA h0
    refine ⟨ab, off, cur, hA, hcur.grown hg (fun e => ?_), hcc⟩
    obtain ⟨t, cur', h1, _, h2⟩ := hr ab e.symm
    exact h1.tag hcur h2 rfl
theorem ChB.rd {W : World} {g : Nat} {cs : List Int} (h : ChB W g cs) : ∃ A c, Blk W g 77 #[.slice A cs.length c] ∧ Reads W W.heap.size 1 A cs.length (i64s cs) ∧ cs.length ≤ c ∧ c ≤ maxLen := by
  obtain ⟨A, c, hB, hc, hm, hA⟩ := h
  refine ⟨A, c, hB, ⟨by rw [i64s_len]; omega, fun h0 => ?_⟩, hc, hm⟩
  obtain ⟨ab, off, cur, hA, hcur, hcc⟩ := hA h0
  exact ⟨_, hA, hcur.lt, fun j u hu => by rw [Addr.add_lit]; exact (hcur.cell _).trans (hcc j u hu)⟩
theorem ChB.of_own {W : World} {base g : Nat} {A : Option Addr} {n c : Nat} {cs : List Int} (h : W.ownsRow base 3 1 (.slice A n c) n (i64s cs)) (hn : n = cs.length) (hB : Blk W g 77 #[.slice A n c]) : ChB W g cs := by
  subst hn
  rcases h.2 with ⟨h1, h0⟩ | ⟨g', cap, cur, h1, _, h3, h4, h5, h6, h7⟩
  · injection h1 with e1 e2 e3
    subst e1 e3
    exact ⟨none, 0, hB, by omega, by unfold maxLen; omega, fun h9 => absurd h9 (by omega)⟩
  · injection h1 with e1 e2 e3
    subst e1 e3
    refine ⟨_, _, hB, h4, h5, fun _ => ⟨g', 0, cur, rfl, h3, fun j u hu => ?_⟩⟩
    have hj : j < cs.length := by
      have := (List.getElem?_eq_some_iff.1 hu).1
      rw [i64s_len] at this
      exact this
    rw [← h7, List.getElem?_take_of_lt (by omega)] at hu
    simpa using hu
/-- own flights are kept where a block of another kind is written -/
theorem OwnE.put {W W' : World} {base : Nat} {v : Value} {es : List Ev} (h : OwnE W base v es) {g : Nat} {t : TypeId} {cs : Array Value} (hg : Blk W g t cs) (ht : t ≠ 69) (hc : ∀ (i : Nat) (x : Int), cs[i]? ≠ some (Value.int .u8 x)) (hk : W.grownBy W' (some g)) : OwnE W' base v es := by
  refine ⟨own_keep h.own (fun b hb => hk.block b (own_lt h.own b hb) (fun e => ?_)), fun e he => ⟨?_, (h.ev e he).2⟩⟩
  · injection e with e
    subst e
    rcases h.own.2 with ⟨rfl, _⟩ | ⟨g', cap, cur, rfl, _, h3, _⟩
    · cases hb
    · injection hb with hb
      subst hb
      exact Blk.tag hg (t' := 69) (cs' := cur) h3 ht rfl
  · have hr : Reads W W.heap.size 1 e.A e.p.length (u8s e.p) := (h.ev e he).1
    refine ⟨hr.1, fun h0 => ?_⟩
    obtain ⟨b, off, hA, hb, hcc⟩ := hr.plain h0 (by omega)
    have hne : b ≠ g := by
      intro e1
      subst e1
      obtain ⟨x, hx⟩ : ∃ x : Nat, (u8s e.p)[0]? = some (.int .u8 x) := ⟨e.p[0], by simp [u8s, List.getElem?_eq_getElem h0]⟩
      have h1 := hcc 0 _ hx
      rw [hg.cell] at h1
      exact hc _ _ h1
    refine ⟨_, hA, Nat.lt_of_lt_of_le hb hk.size, fun j u hu => ?_⟩
    rw [Addr.add_lit]
    exact (World.cell?_of_block (hk.block b hb (fun e1 => hne (by injection e1)))).trans (hcc j u hu)
theorem tmod_b (x : Int) {n : Int} (hn : 0 < n) : -n < x.tmod n ∧ x.tmod n < n := by
  have h1 := Int.tmod_lt_of_pos x hn
  have h2 := Int.lt_tmod_of_pos x hn
  exact ⟨h2, h1⟩
theorem decV_nil (n : Int) : decV [] n = 0 := rfl
theorem decV_cons (x : Int) (cs : List Int) (n : Int) : decV (x :: cs) n = if x.tmod n < 0 then x.tmod n + n else x.tmod n := rfl
theorem decV_b (cs : List Int) {n : Int} (hn : 0 < n) : 0 ≤ decV cs n ∧ decV cs n < n := by
  cases cs with
  | nil => exact ⟨by rw [decV_nil]; omega, by rw [decV_nil]; omega⟩
  | cons x cs =>
    have := tmod_b x hn
    rw [decV_cons]
    split <;> omega
set_option maxRecDepth 100000 in
set_option maxHeartbeats 2000000 in
theorem decide_any (g : Nat) (cs : List Int) (n : Int) (w : World) (h : ChB w g cs) (hn : 0 < n) (hn2 : n ≤ 2147483648) :
    Calls Try.prog 40 #[.pointer (some ⟨g, 0, none⟩), .int .i64 n] w fun e w' => e = .returned (.int .i64 (decV cs n)) ∧ ChB w' g (decR cs) ∧ w.grownBy w' (some g) ∧ w'.heap.size = w.heap.size := by
  obtain ⟨A, c, hB, hc, hm, hA⟩ := h
  cases cs with
  | nil =>
    have d0 : w.cell? ⟨g, 0, none⟩ = some (.slice A 0 c) := hB.cell 0
    have HX : Hid (ChB w g []) := ⟨A, c, hB, hc, hm, hA⟩
    clear hB hA
    go_enter Try.func40, Try.ntmps40
    go_wp2_with fail
    go_ret
    exact ⟨rfl, HX.out, ⟨rfl, rfl, rfl, Nat.le_refl _, fun _ _ _ => rfl⟩, rfl⟩
  | cons x cs =>
    obtain ⟨m, hmm⟩ : ∃ m, cs.length = m := ⟨_, rfl⟩
    have hl : (x :: cs).length = m + 1 := by simp [hmm]
    obtain ⟨b, off, cur, rfl, hcur, hcc⟩ := hA (by simp)
    clear hA
    have hbg : b ≠ g := hcur.tag hB (by decide)
    have hb := hcur.lt
    have hcl : ∀ j u, (i64s (x :: cs))[j]? = some u → w.cell? ⟨b, off + j, none⟩ = some u := fun j u hu => (hcur.cell _).trans (hcc j u hu)
    rw [hl] at hB hc
    have d0 : w.cell? ⟨g, 0, none⟩ = some (.slice (some ⟨b, off, none⟩) (m + 1) c) := hB.cell 0
    have f0 : w.frozen? ⟨g, 0, none⟩ = false := hB.frozen 0
    have e0 : w.cell? ⟨b, off, none⟩ = some (.int .i64 x) := hcl 0 _ (by simp [i64s])
    have ht := tmod_b x hn
    have HM := Lib.hid hmm
    have HD : Hid (decV (x :: cs) n = if x.tmod n < 0 then x.tmod n + n else x.tmod n) := decV_cons x cs n
    have hne : (n == 0) = false := by rw [beq_eq_false_iff_ne]; omega
    have HX := Lib.hid (And.intro hB (And.intro hcur (And.intro hbg hcc)))
    clear hB hcur hbg hcc hcl hl hmm
    obtain ⟨V, hV⟩ : ∃ V, decV (x :: cs) n = V := ⟨_, rfl⟩
    rw [hV]
    rw [hV] at HD
    obtain ⟨y, hy⟩ : ∃ y, x.tmod n = y := ⟨_, rfl⟩
    rw [hy] at HD ht
    have kw : IntKind.i64.wrap y = y := IntWalk.i64_in _ (by omega)
    unfold maxLen at hm
    go_enter Try.func40, Try.ntmps40
    have HGR : Hid (∀ u : Value, w.grownBy (w.setCell ⟨g, 0, none⟩ u) (some g)) := fun u => ⟨rfl, rfl, rfl, by simp, fun k _ hne => Below.heap_setCell _ _ _ _ (fun e => hne (by rw [e]))⟩
    rcases Nat.eq_zero_or_pos m with hm0 | hm0
    · subst hm0
      have hcs : cs = [] := List.eq_nil_of_length_eq_zero HM.out
      subst hcs
      go_upto_region 5 with fail
      generalize hA' : (if c = 1 then some (⟨b, off, none⟩ : Addr) else some ⟨b, off + 1, none⟩) = A'
      have HC : Hid (ChB (w.setCell ⟨g, 0, none⟩ (.slice A' 0 (c - 1))) g []) := ⟨A', c - 1, HX.out.1.set_ 0 _, by simp, by unfold maxLen; omega, fun h => absurd h (by simp)⟩
      have HGR := Lib.hid (HGR.out (.slice A' 0 (c - 1)))
      clear hA' d0 f0 e0 hne
      by_cases hy0 : y < 0
      · have hVV : V = y + n := by rw [HD.out, if_pos hy0]
        have kw2 : IntKind.i64.wrap (y + n) = y + n := IntWalk.i64_in _ (by omega)
        go_wp2_with fail
        go_ret
        exact ⟨ret_int (by first | rfl | exact hVV.symm), HC.out, HGR.out, by simp⟩
      · have hVV : V = y := by rw [HD.out, if_neg hy0]
        go_wp2_with fail
        go_ret
        exact ⟨ret_int (by first | rfl | exact hVV.symm), HC.out, HGR.out, by simp⟩
    · have hcn : ¬ c = 1 := by omega
      have HC : Hid (ChB (w.setCell ⟨g, 0, none⟩ (.slice (some ⟨b, off + 1, none⟩) m (c - 1))) g cs) := by
        refine ⟨some ⟨b, off + 1, none⟩, c - 1, ?_, by rw [HM.out]; omega, by unfold maxLen; omega, fun _ => ⟨b, off + 1, cur, rfl, HX.out.2.1.far HX.out.2.2.1 _, fun j u hu => ?_⟩⟩
        · rw [HM.out]; exact HX.out.1.set_ 0 _
        · rw [show off + 1 + j = off + (j + 1) by omega]
          exact HX.out.2.2.2 (j + 1) u (by simpa [i64s] using hu)
      go_upto_region 5 with fail
      have HGR := Lib.hid (HGR.out (.slice (some ⟨b, off + 1, none⟩) m (c - 1)))
      clear d0 f0 e0 hne
      by_cases hy0 : y < 0
      · have hVV : V = y + n := by rw [HD.out, if_pos hy0]
        have kw2 : IntKind.i64.wrap (y + n) = y + n := IntWalk.i64_in _ (by omega)
        go_wp2_with fail
        go_ret
        exact ⟨ret_int (by first | rfl | exact hVV.symm), HC.out, HGR.out, by simp⟩
      · have hVV : V = y := by rw [HD.out, if_neg hy0]
        go_wp2_with fail
        go_ret
        exact ⟨ret_int (by first | rfl | exact hVV.symm), HC.out, HGR.out, by simp⟩
theorem results_tmp2 {P : Program} {fn : Func} {p q : Tmp} (h : fn.results = #[.tmp p, .tmp q]) (tmps : Array Value) (w : World) : (results fn tmps).run P w = .ok (.tuple #[tmps.getD p undef, tmps.getD q undef]) w := by
  simp [results, h]
theorem ret_dec {a b : Int} {v : Value} (h : a = b) : Ending.returned (.tuple #[.int .i64 a, v]) = .returned (.tuple #[.int .i64 b, v]) := by rw [h]
set_option linter.unusedSimpArgs false in
set_option maxRecDepth 100000 in
set_option maxHeartbeats 2000000 in
theorem Decide_any (A : Option Addr) (c : Nat) (cs : List Int) (n : Int) (w : World) (hR : Reads w w.heap.size 1 A cs.length (i64s cs)) (hc : cs.length ≤ c) (hm : c ≤ maxLen) (hl : cs.length ≤ 10000) (hn : 0 < n) (hn2 : n ≤ 2147483648) :
    Calls Try.prog 44 #[.slice A cs.length c, .int .i64 n] w fun e w' => (∃ v, e = .returned (.tuple #[.int .i64 (decV cs n), v]) ∧ w'.ownsRow w.heap.size 3 1 v (decR cs).length (i64s (decR cs))) ∧ Below w.heap.size w w' := by
  cases cs with
  | nil =>
    go_enter Try.func44, Try.ntmps44
    go_wp2_with fail
    exact bodyPost_ret (results_tmp2 rfl _ _) rfl ⟨⟨_, rfl, World.ownsRow_nil w _ 3 1⟩, Below.refl _ _⟩
  | cons x cs =>
    obtain ⟨i0, hi0, hz0, hz1, hz2⟩ := info_parts info3b
    have HI := Lib.hid (And.intro hi0 (And.intro hz0 (And.intro hz1 hz2)))
    clear hi0 hz0 hz1 hz2
    obtain ⟨m, hmm⟩ : ∃ m, cs.length = m := ⟨_, rfl⟩
    have hl1 : (x :: cs).length = m + 1 := by simp [hmm]
    have hd1 : decR (x :: cs) = cs := rfl
    rw [hl1] at hR hc hl
    rw [hl1, hd1, hmm]
    obtain ⟨b, off, rfl, hb, hcl⟩ := hR.plain (by omega) (by omega)
    have e0 : w.cell? ⟨b, off, none⟩ = some (.int .i64 x) := hcl 0 _ (by simp [i64s])
    have ht := tmod_b x hn
    have HM := Lib.hid hmm
    have HD : Hid (decV (x :: cs) n = if x.tmod n < 0 then x.tmod n + n else x.tmod n) := decV_cons x cs n
    have hne : (n == 0) = false := by rw [beq_eq_false_iff_ne]; omega
    have HX := Lib.hid (And.intro hR hcl)
    clear hR hcl hl1 hmm hd1
    obtain ⟨V, hV⟩ : ∃ V, decV (x :: cs) n = V := ⟨_, rfl⟩
    rw [hV]
    rw [hV] at HD
    obtain ⟨y, hy⟩ : ∃ y, x.tmod n = y := ⟨_, rfl⟩
    rw [hy] at HD ht
    have kw : IntKind.i64.wrap y = y := IntWalk.i64_in _ (by omega)
    unfold maxLen at hm
    rcases Nat.eq_zero_or_pos m with hm0 | hm0
    · subst hm0
      have hcs : cs = [] := List.eq_nil_of_length_eq_zero HM.out
      subst hcs
      by_cases hc1 : c = 1
      · subst hc1
        go_enter Try.func44, Try.ntmps44
        go_upto_region 6 with (at_builtin; go_must (refine wpList_append_any w rfl (.tmp 11) (.tmp 13) _ rfl w.heap.size 3 i0 _ 1 8 Try.underlying40 HI.out.1 HI.out.2.1 HI.out.2.2.1 HI.out.2.2.2 rfl (by omega) (.slice none 0 0) 0 [] rfl (World.ownsRow_nil w _ 3 1) w.heap.size _ 0 _ (i64s []) rfl ⟨by simp [i64s], fun h => absurd h (by omega)⟩ (i64s_one _) (by simp only [maxLen]; omega) (by omega) (Nat.le_refl _) ?_; intro v1 w1 ho1 hg1 hv1; simp only [Nat.zero_add, List.nil_append] at ho1; have H1 := Lib.hid (And.intro ho1 ((Below.refl _ w).grown hg1 (Nat.le_refl _) (by intro g hg; simp [Value.ownBlock] at hg))); have q0 := (H1.out.2.cell (p := ⟨b, off, none⟩) hb).trans e0; clear ho1 hg1 hv1 e0))
        clear q0 hne
        by_cases hy0 : y < 0
        · have hVV : V = y + n := by rw [HD.out, if_pos hy0]
          have kw2 : IntKind.i64.wrap (y + n) = y + n := IntWalk.i64_in _ (by omega)
          go_wp2_with fail
          refine bodyPost_ret (results_tmp2 (p := 4) (q := 5) rfl _ _) rfl ⟨⟨v1, (by first | rfl | (rw [hVV]; rfl)), H1.out.1⟩, H1.out.2⟩
        · have hVV : V = y := by rw [HD.out, if_neg hy0]
          go_wp2_with fail
          refine bodyPost_ret (results_tmp2 (p := 4) (q := 5) rfl _ _) rfl ⟨⟨v1, (by first | rfl | (rw [hVV]; rfl)), H1.out.1⟩, H1.out.2⟩
      · go_enter Try.func44, Try.ntmps44
        go_upto_region 6 with (at_builtin; go_must (refine wpList_append_any w rfl (.tmp 11) (.tmp 13) _ rfl w.heap.size 3 i0 _ 1 8 Try.underlying40 HI.out.1 HI.out.2.1 HI.out.2.2.1 HI.out.2.2.2 rfl (by omega) (.slice none 0 0) 0 [] rfl (World.ownsRow_nil w _ 3 1) w.heap.size _ 0 _ (i64s []) rfl ⟨by simp [i64s], fun h => absurd h (by omega)⟩ (i64s_one _) (by simp only [maxLen]; omega) (by omega) (Nat.le_refl _) ?_; intro v1 w1 ho1 hg1 hv1; simp only [Nat.zero_add, List.nil_append] at ho1; have H1 := Lib.hid (And.intro ho1 ((Below.refl _ w).grown hg1 (Nat.le_refl _) (by intro g hg; simp [Value.ownBlock] at hg))); have q0 := (H1.out.2.cell (p := ⟨b, off, none⟩) hb).trans e0; clear ho1 hg1 hv1 e0))
        clear q0 hne
        by_cases hy0 : y < 0
        · have hVV : V = y + n := by rw [HD.out, if_pos hy0]
          have kw2 : IntKind.i64.wrap (y + n) = y + n := IntWalk.i64_in _ (by omega)
          go_wp2_with fail
          refine bodyPost_ret (results_tmp2 (p := 4) (q := 5) rfl _ _) rfl ⟨⟨v1, (by first | rfl | (rw [hVV]; rfl)), H1.out.1⟩, H1.out.2⟩
        · have hVV : V = y := by rw [HD.out, if_neg hy0]
          go_wp2_with fail
          refine bodyPost_ret (results_tmp2 (p := 4) (q := 5) rfl _ _) rfl ⟨⟨v1, (by first | rfl | (rw [hVV]; rfl)), H1.out.1⟩, H1.out.2⟩
    · have hcn : ¬ c = 1 := by omega
      have HR2 : Hid (Reads w w.heap.size 1 (some ⟨b, off + 1, none⟩) m (i64s cs)) := by
        refine ⟨by rw [i64s_len, HM.out]; omega, fun _ => ⟨_, rfl, hb, fun j u hu => ?_⟩⟩
        rw [Addr.add_lit, show off + 1 + j = off + (j + 1) by omega]
        exact HX.out.2 (j + 1) u (by simpa [i64s] using hu)
      go_enter Try.func44, Try.ntmps44
      go_upto_region 6 with (at_builtin; go_must (refine wpList_append_any w rfl (.tmp 11) (.tmp 13) _ rfl w.heap.size 3 i0 _ 1 8 Try.underlying40 HI.out.1 HI.out.2.1 HI.out.2.2.1 HI.out.2.2.2 rfl (by omega) (.slice none 0 0) 0 [] rfl (World.ownsRow_nil w _ 3 1) w.heap.size (some ⟨b, off + 1, none⟩) m (c - 1) (i64s cs) rfl HR2.out (i64s_one _) (by simp only [maxLen]; omega) (by omega) (Nat.le_refl _) ?_; intro v1 w1 ho1 hg1 hv1; simp only [Nat.zero_add, List.nil_append] at ho1; have H1 := Lib.hid (And.intro ho1 ((Below.refl _ w).grown hg1 (Nat.le_refl _) (by intro g hg; simp [Value.ownBlock] at hg))); have q0 := (H1.out.2.cell (p := ⟨b, off, none⟩) hb).trans e0; clear ho1 hg1 hv1 e0))
      clear q0 hne
      by_cases hy0 : y < 0
      · have hVV : V = y + n := by rw [HD.out, if_pos hy0]
        have kw2 : IntKind.i64.wrap (y + n) = y + n := IntWalk.i64_in _ (by omega)
        go_wp2_with fail
        refine bodyPost_ret (results_tmp2 (p := 4) (q := 5) rfl _ _) rfl ⟨⟨v1, (by first | rfl | (rw [hVV]; rfl)), H1.out.1⟩, H1.out.2⟩
      · have hVV : V = y := by rw [HD.out, if_neg hy0]
        go_wp2_with fail
        refine bodyPost_ret (results_tmp2 (p := 4) (q := 5) rfl _ _) rfl ⟨⟨v1, (by first | rfl | (rw [hVV]; rfl)), H1.out.1⟩, H1.out.2⟩
end Go.Proofs.Ytjaoppopfeonhaa
