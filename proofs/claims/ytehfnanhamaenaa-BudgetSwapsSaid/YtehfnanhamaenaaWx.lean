/- The walk of When, the arm without error. Conditions: at most 1000 buckets. -/
import Derived.Test.YtehfnanhamaenaaWv
import Derived.Test.YtehfnanhamaenaaLibS
namespace Go.Proofs.Ytehfnanhamaenaa
open Go.RowKit Go.Shelf
attribute [local go_sem] Oper.semAt_some
theorem waitP_app (n : Int) (l : List Bk) (p q : List Nat) : ∀ m, waitP n l (p ++ q) m = (waitP n l p m).bind (waitP n l q) := by
  induction p with
  | nil => intro m; rfl
  | cons i p ih =>
    intro m
    rw [List.cons_append, waitP, waitP]
    split
    · exact ih m
    · split
      · rfl
      · exact ih _
theorem waitP_none_pre {n : Int} {l : List Bk} {p q : List Nat} {m : Int} (h : p <+: q) (hp : waitP n l p m = none) : waitP n l q m = none := by
  obtain ⟨r, rfl⟩ := h
  rw [waitP_app, hp]
  rfl
/-- what a round finds -/
structure WhI (B : Nat) (w : World) (t n : Int) (l : List Bk) (g off c t9 : Nat) (m : Int) (W : World) : Prop where
  size : B ≤ W.heap.size
  arg : Blk W w.heap.size 24 #[.int .i64 t, .slice (some ⟨g, off, none⟩) l.length c]
  num : Blk W (w.heap.size + 1) 3 #[.int .i64 n]
  ra : Blk W (w.heap.size + 1 + 1) 3 #[.int .i64 0]
  rb : Blk W (w.heap.size + 1 + 1 + 1) 26 #[.int .i64 0]
  acc : Blk W t9 3 #[.int .i64 m]
  below : Below w.heap.size w W
theorem WhI.keep {B : Nat} {w : World} {t n : Int} {l : List Bk} {g off c t9 : Nat} {m : Int} {W W' : World} (h : WhI B w t n l g off c t9 m W) (hb : Below B W W') (h1 : t9 < B) (h3 : w.heap.size + 4 ≤ B) : WhI B w t n l g off c t9 m W' :=
  ⟨Nat.le_trans h.size hb.size, h.arg.below hb (by omega), h.num.below hb (by omega), h.ra.below hb (by omega), h.rb.below hb (by omega), h.acc.below hb h1, h.below.trans (hb.mono (by omega))⟩
theorem WhI.drew {B : Nat} {w : World} {t n : Int} {l : List Bk} {g off c t9 : Nat} {m : Int} {W : World} (h : WhI B w t n l g off c t9 m W) : WhI B w t n l g off c t9 m W.drew := ⟨h.size, h.arg, h.num, h.ra, h.rb, h.acc, h.below.drew⟩
theorem WhI.drewN {B : Nat} {w : World} {t n : Int} {l : List Bk} {g off c t9 : Nat} {m : Int} {W : World} (h : WhI B w t n l g off c t9 m W) (q : Nat) : WhI B w t n l g off c t9 m (W.drewN q) := ⟨h.size, h.arg, h.num, h.ra, h.rb, h.acc, below_drewN h.below q⟩
theorem PKeep.drewN {n₀ B1 B2 g off : Nat} (W : World) (q : Nat) : PKeep n₀ B1 B2 g off W (W.drewN q) := ⟨below_drewN (Below.refl _ _) q, rfl, rfl, fun _ => rfl⟩
/-- what a round that leaves has left -/
structure WhX (B : Nat) (w W : World) : Prop where
  size : B ≤ W.heap.size
  ra : Blk W (w.heap.size + 1 + 1) 3 #[.int .i64 0]
  rb : Blk W (w.heap.size + 1 + 1 + 1) 26 #[.int .i64 21]
  below : Below w.heap.size w W
theorem WhX.keep {B : Nat} {w : World} {W W' : World} (h : WhX B w W) (hb : Below B W W') (h3 : w.heap.size + 4 ≤ B) : WhX B w W' :=
  ⟨Nat.le_trans h.size hb.size, h.ra.below hb (by omega), h.rb.below hb (by omega), h.below.trans (hb.mono (by omega))⟩
theorem WhI.upd {B : Nat} {w : World} {t n : Int} {l : List Bk} {g off c t9 : Nat} {m : Int} {W : World} (h : WhI B w t n l g off c t9 m W) (h9 : w.heap.size + 4 ≤ t9) (d : Int) : WhI B w t n l g off c t9 d (W.setCell ⟨t9, 0, none⟩ (.int .i64 d)) :=
  ⟨by simpa [World.setCell] using h.size, h.arg.far (by dsimp only; omega) _, h.num.far (by dsimp only; omega) _, h.ra.far (by dsimp only; omega) _, h.rb.far (by dsimp only; omega) _, h.acc.set_ 0 (.int .i64 d), h.below.setCell (by dsimp only; omega) _⟩
theorem res23 (tmps : Array Value) (w : World) (g1 g2 : Nat) (a b : Int) (hp : tmps.getD 6 undef = .pointer (some ⟨g1, 0, none⟩)) (hq : tmps.getD 7 undef = .pointer (some ⟨g2, 0, none⟩)) (h1 : Blk w g1 3 #[.int .i64 a]) (h2 : Blk w g2 26 #[.int .i64 b]) :
    (results Try.f23 tmps).run Try.prog w = .ok (.tuple #[.int .i64 a, .int .i64 b]) w := by
  have hp' : tmps[6]?.getD undef = .pointer (some ⟨g1, 0, none⟩) := by simpa using hp
  have hq' : tmps[7]?.getD undef = .pointer (some ⟨g2, 0, none⟩) := by simpa using hq
  have c1 : w.cell? ⟨g1, 0, none⟩ = some (.int .i64 a) := h1.cell 0
  have c2 : w.cell? ⟨g2, 0, none⟩ = some (.int .i64 b) := h2.cell 0
  simp [results, Try.results23, go_sem, hp', hq', c1, c2]
theorem wh_fin {B D : Nat} {w WZ : World} {a b : Int} {v : Int × Int} (hv : v = (a, b)) (hB : w.heap.size + 4 ≤ B) (hD : B ≤ D) (hK : WZ.heap[D]? = some (.deferred (some []))) (ra : Blk WZ (w.heap.size + 1 + 1) 3 #[.int .i64 a]) (rb : Blk WZ (w.heap.size + 1 + 1 + 1) 26 #[.int .i64 b])
    (hb : Below w.heap.size w WZ) (tp : Array Value) (h6 : tp.getD 6 undef = .pointer (some ⟨w.heap.size + 1 + 1, 0, none⟩)) (h7 : tp.getD 7 undef = .pointer (some ⟨w.heap.size + 1 + 1 + 1, 0, none⟩)) :
    bodyPostM Fence.wide 4 Try.prog Try.f23 (fun e w' => e = .returned (.tuple #[.int .i64 v.1, .int .i64 v.2]) ∧ Below w.heap.size w w') .ret { tmps := tp, defers := [{ target := .collected D, args := #[] }] } WZ := by
  have hbq : Below B WZ (WZ.putObj D (.deferred none)) := (Below.refl B WZ).grown (grownBy_putObj' WZ D _) (by have := (Array.getElem?_eq_some_iff.1 hK).1; omega) (fun k e => by cases e; omega)
  refine ⟨by simp, .inl ⟨_, _, rfl, run_takeDeferred hK, ?_⟩⟩
  refine ⟨_, res23 _ _ _ _ a b h6 h7 (ra.below hbq (by omega)) (rb.below hbq (by omega)), ?_, hb.trans (hbq.mono (by omega))⟩
  rw [hv]
theorem WhX.of {B : Nat} {w : World} {t n : Int} {l : List Bk} {g off c t9 : Nat} {m : Int} {W : World} (h : WhI B w t n l g off c t9 m W) : WhX B w ((W.setCell ⟨w.heap.size + 1 + 1, 0, none⟩ (.int .i64 0)).setCell ⟨w.heap.size + 1 + 1 + 1, 0, none⟩ (.int .i64 21)) :=
  ⟨by simpa [World.setCell] using h.size, (h.ra.set_ 0 (.int .i64 0)).far (by dsimp only; omega) _, (h.rb.far (p := ⟨w.heap.size + 1 + 1, 0, none⟩) (by dsimp only; omega) _).set_ 0 (.int .i64 21), (h.below.setCell (p := ⟨w.heap.size + 1 + 1, 0, none⟩) (by dsimp only; omega) _).setCell (p := ⟨w.heap.size + 1 + 1 + 1, 0, none⟩) (by dsimp only; omega) _⟩
theorem KeepsOthers.of_drewN (W : World) (q : Nat) : KeepsOthers W (W.drewN q) := ⟨Nat.le_refl _, fun _ _ h _ => h⟩
set_option maxRecDepth 100000 in
set_option maxHeartbeats 1000000 in
theorem When_ok (t n : Int) (k : Nat) (A : Option Addr) (c : Nat) (l : List Bk) (w : World) (hR : RdB w A l.length l) (hn : l.length ≤ 1000) (hf : findV t l k = 0) (n0 : 0 ≤ n) (n1 : n ≤ 9223372036854775807) :
    CallsIn Fence.wide 4 Try.prog 23 #[budV t A l.length c, .int .i64 k, .int .i64 n] w fun e w' => e = .returned (.tuple #[.int .i64 (whenV t l k n).1, .int .i64 (whenV t l k n).2]) ∧ Below w.heap.size w w' := by
  obtain ⟨hz, _, hkl⟩ := findV_zero hf
  have hkl : k < l.length := by omega
  have C0 := Lib.hid hf
  have C0z := Lib.hid hz
  have hu := up_of hz
  have hb : Below w.heap.size w ((((w.alloc (.cells #[.int .i64 t, .slice A l.length c] 24)).alloc (.cells #[.int .i64 n] 3)).alloc (.cells #[.int .i64 0] 3)).alloc (.cells #[.int .i64 0] 26)) := ((((Below.refl _ w).alloc (Nat.le_refl _) _).alloc (by simp) _).alloc (by simp; omega) _).alloc (by simp; omega) _
  have h1 := (((Blk.new w 24 #[.int .i64 t, .slice A l.length c]).alloc (.cells #[.int .i64 n] 3)).alloc (.cells #[.int .i64 0] 3)).alloc (.cells #[.int .i64 0] 26)
  have h2 := ((Blk.new (w.alloc (.cells #[.int .i64 t, .slice A l.length c] 24)) 3 #[.int .i64 n]).alloc (.cells #[.int .i64 0] 3)).alloc (.cells #[.int .i64 0] 26)
  have h3 := (Blk.new ((w.alloc (.cells #[.int .i64 t, .slice A l.length c] 24)).alloc (.cells #[.int .i64 n] 3)) 3 #[.int .i64 0]).alloc (.cells #[.int .i64 0] 26)
  have h4 := Blk.new (((w.alloc (.cells #[.int .i64 t, .slice A l.length c] 24)).alloc (.cells #[.int .i64 n] 3)).alloc (.cells #[.int .i64 0] 3)) 26 #[.int .i64 0]
  simp only [World.size_alloc] at h2 h3 h4
  have H := Lib.hid (And.intro h1 (And.intro h2 (And.intro h3 h4)))
  clear h1 h2 h3 h4 hf hz
  obtain ⟨g, off, rfl, hg, hcs⟩ := hR.cells (by omega)
  have hcb : ∀ i, i < l.length → w.cell? ⟨g, off + i * 4, none⟩ = some (.int .i64 (bkAt l i).par) ∧ w.cell? ⟨g, off + i * 4 + 1, none⟩ = some (.int .i64 (bkAt l i).rate) ∧ w.cell? ⟨g, off + i * 4 + 2, none⟩ = some (.int .i64 (bkAt l i).burst) ∧ w.cell? ⟨g, off + i * 4 + 3, none⟩ = some (.int .i64 (bkAt l i).tok) := fun i hi => by rw [bkAt_lt l i hi]; exact hcs i hi
  have HC := Lib.hid hcb
  clear hcb hcs
  refine callsIn_of_wp_marks Try.func23 rfl trivial ?_ rfl
  simp only [Try.ntmps23, List.size_toArray, List.length_cons, List.length_nil, Nat.reduceAdd, Nat.reduceSub, Array.replicate_succ, Array.replicate_zero, List.push_toArray, List.append_toArray, List.nil_append, List.cons_append]
  refine wpIn_wide.2 ?_
  go_wp2_with fail
  refine (find_any _ _ _ _ _ l _ (hR.up hb) hn).mono ?_
  rintro e w2 ⟨rfl, hb2⟩
  rw [C0.out]
  obtain ⟨hc, _⟩ := bcell hb2
  have hz : w.heap.size + 4 ≤ w2.heap.size := by have := hb2.size; simp at this; omega
  have hz0 : w.heap.size < w2.heap.size := by omega
  have hz1 : w.heap.size + 1 < w2.heap.size := by omega
  have hbb := hb.trans (hb2.mono hb.size)
  go_wp2_with fail
  refine (path_any _ _ _ _ _).mono ?_
  rintro e w7 ⟨rfl, hb7, hk7, hk8⟩
  have hsz : (w2.alloc (.cells #[.int .i64 0] 3)).heap.size = w2.heap.size + 1 := by simp
  rw [hsz] at hk7 hk8 hb7
  have hl7 := hk7.lt
  have hl8 := hk8.lt
  have hba : Below w2.heap.size w2 (w2.alloc (.cells #[.int .i64 0] 3)) := (Below.refl _ w2).alloc (Nat.le_refl _) _
  have hbw7 : Below w2.heap.size w2 w7 := hba.trans (hb7.mono (by omega))
  have hbw : Below w.heap.size w w7 := hbb.trans (hbw7.mono (by omega))
  have lift : ∀ {g9 : Nat} {t9 : TypeId} {cs : Array Value}, g9 < w.heap.size + 4 → Blk ((((w.alloc (.cells #[.int .i64 t, .slice (some ⟨g, off, none⟩) l.length c] 24)).alloc (.cells #[.int .i64 n] 3)).alloc (.cells #[.int .i64 0] 3)).alloc (.cells #[.int .i64 0] 26)) g9 t9 cs → Blk w7 g9 t9 cs := fun hl h => (h.below hb2 (by simp; omega)).below hbw7 (by omega)
  have hI0 : WhI w7.heap.size w t n l g off c w2.heap.size 0 w7 := ⟨Nat.le_refl _, lift (by omega) H.out.1, lift (by omega) H.out.2.1, lift (by omega) H.out.2.2.1, lift (by omega) H.out.2.2.2, (Blk.new w2 3 #[.int .i64 0]).below hb7 (by omega), hbw⟩
  have hst := path1_stops 3 (by omega) (w2.heap.size + 1 + 1) (w2.heap.size + 1) g off c w.heap.size l k hu hkl w7 hl8 hl7 (by omega) (hk8.cell 0) (hk7.cell 0) (fun i hi => (hbw.cell (p := ⟨g, off + i * 4, none⟩) hg).trans (HC.out i hi).1)
  have HS := Lib.hid hst
  have HI0 := Lib.hid hI0
  clear hst hI0 lift hk7 hk8
  go_wp2_with fail
  refine (wpIn_wide (n := 4)).1 ?_
  refine wpIn_rangeFunc_ownF (w0 := w7) rfl (by omega) (gf := 39) (lb := #[.pointer (some ⟨w2.heap.size + 1 + 1, 0, none⟩), .pointer (some ⟨w2.heap.size + 1, 0, none⟩)]) rfl trivial enters39 HS.out PKeep.trans (PKeep.b (by omega) (by omega) (by omega) (by omega)) (Below.refl _ _) (fun _ => rfl)
    (fun pre W => ∃ m : Int, waitP n l (pre.map Subtype.val) 0 = some m ∧ 0 ≤ m ∧ m ≤ 2147483648 ∧ WhI w7.heap.size w t n l g off c w2.heap.size m W)
    (fun cd pre W => cd = .ret ∧ waitP n l (pre.map Subtype.val) 0 = none ∧ WhX w7.heap.size w W)
    (ownFrom_of_below (fun s W ⟨m, _, _, _, h⟩ => h.size) (fun s W W' ⟨m, h1, h2, h3, h⟩ hb => ⟨m, h1, h2, h3, h.keep hb (by omega) (by omega)⟩))
    (fun cd => ownFrom_of_below (fun s W h => h.2.2.size) (fun s W W' h hb => ⟨h.1, h.2.1, h.2.2.keep hb (by omega)⟩))
    ⟨0, rfl, by omega, by omega, HI0.out⟩
    ?act ?assign ?body ?done ?stop
  case assign =>
    intro l x W K hK
    gi_wp2
    exact hK
  case body =>
    rintro lf pre ⟨x, hx⟩ W ⟨m, hm, m0, m1, hI⟩ hlen
    have kn : W.cell? ⟨w.heap.size + 1, 0, none⟩ = some (.int .i64 n) := hI.num.cell 0
    have ka : W.cell? ⟨w2.heap.size, 0, none⟩ = some (.int .i64 m) := hI.acc.cell 0
    have kaf : W.frozen? ⟨w2.heap.size, 0, none⟩ = false := hI.acc.frozen 0
    have kra : W.cell? ⟨w.heap.size + 1 + 1, 0, none⟩ = some (.int .i64 0) := hI.ra.cell 0
    have kraf : W.frozen? ⟨w.heap.size + 1 + 1, 0, none⟩ = false := hI.ra.frozen 0
    have krb : W.cell? ⟨w.heap.size + 1 + 1 + 1, 0, none⟩ = some (.int .i64 0) := hI.rb.cell 0
    have krbf : W.frozen? ⟨w.heap.size + 1 + 1 + 1, 0, none⟩ = false := hI.rb.frozen 0
    have k1 := (hI.below.cell (p := ⟨g, off + x * 4 + 1, none⟩) hg).trans (HC.out x hx).2.1
    have k2 := (hI.below.cell (p := ⟨g, off + x * 4 + 2, none⟩) hg).trans (HC.out x hx).2.2.1
    have k3 := (hI.below.cell (p := ⟨g, off + x * 4 + 3, none⟩) hg).trans (HC.out x hx).2.2.2
    have hwa : Hid (waitP n l ((pre ++ [(⟨x, hx⟩ : { i : Nat // i < l.length })]).map Subtype.val) 0 = if n ≤ (bkAt l x).tok then some m else if (bkAt l x).burst < n ∨ (bkAt l x).rate = 0 then none else some (maxI m ((n - (bkAt l x).tok + (bkAt l x).rate - 1) / (bkAt l x).rate))) := by
      rw [Hid, List.map_append, waitP_app, hm]
      rfl
    obtain ⟨t1, t2⟩ := tok_bd C0z.out x
    obtain ⟨r1, r2, r3, r4⟩ := rate_bd C0z.out x
    have HI := Lib.hid hI
    clear hm hI
    generalize (bkAt l x).tok = q at *
    generalize (bkAt l x).rate = r at *
    generalize (bkAt l x).burst = u at *
    have iw1 : IntKind.i64.wrap (n - q) = n - q := IntWalk.i64_in _ (by omega)
    by_cases c1 : n ≤ q
    · have c1' : n - q ≤ 0 := by omega
      gi_wp2
      refine wpIn_quiet_round rfl rfl (by kernel_rfl) (by kernel_rfl) ?_
      (repeat (gi_big_quiet_step (fail)))
      refine wpQuietIn_nil ?_
      rintro _ ⟨nq, rfl⟩
      gi_wp2
      exact ⟨⟨Nat.le_refl _, fun _ _ h _ => h⟩, PKeep.drewN W nq, m, by rw [hwa.out, if_pos c1], m0, m1, HI.out.drewN nq⟩
    · have c1' : ¬ n - q ≤ 0 := by omega
      by_cases c2 : u < n
      · gi_wp2
        refine wpIn_quiet_round rfl rfl (by kernel_rfl) (by kernel_rfl) ?_
        (repeat (gi_big_quiet_step (fail)))
        refine wpQuietIn_nil ?_
        rintro _ ⟨nq, rfl⟩
        gi_wp2
        refine wpIn_quiet_round rfl rfl (by kernel_rfl) (by kernel_rfl) ?_
        (repeat (gi_big_quiet_step (fail)))
        refine wpQuietIn_nil ?_
        rintro _ ⟨nq', rfl⟩
        gi_wp2
        have hX : WhX w7.heap.size w (((W.drewN (nq + nq')).setCell ⟨w.heap.size + 1 + 1, 0, none⟩ (.int .i64 0)).setCell ⟨w.heap.size + 1 + 1 + 1, 0, none⟩ (.int .i64 21)) := WhX.of (HI.out.drewN _)
        exact ⟨(KeepsOthers.of_drewN W _).trans ((KeepsOthers.setCell _ _ _).trans (KeepsOthers.setCell _ _ _)), rfl, by rw [hwa.out, if_neg (by omega), if_pos (.inl c2)], hX⟩
      · have c2' : decide (u < n) = false := by simpa using c2
        have iw2 : IntKind.i64.wrap (n - q + r) = n - q + r := IntWalk.i64_in _ (by omega)
        have iw3 : IntKind.i64.wrap (n - q + r - 1) = n - q + r - 1 := IntWalk.i64_in _ (by omega)
        by_cases c3 : r = 0
        · subst c3
          gi_wp2
          refine wpIn_quiet_round rfl rfl (by kernel_rfl) (by kernel_rfl) ?_
          (repeat (gi_big_quiet_step (fail)))
          refine wpQuietIn_nil ?_
          rintro _ ⟨nq, rfl⟩
          gi_wp2
          refine wpIn_quiet_round rfl rfl (by kernel_rfl) (by kernel_rfl) ?_
          (repeat (gi_big_quiet_step (fail)))
          refine wpQuietIn_nil ?_
          rintro _ ⟨nq', rfl⟩
          gi_wp2
          have hX : WhX w7.heap.size w (((W.drewN (nq + nq')).setCell ⟨w.heap.size + 1 + 1, 0, none⟩ (.int .i64 0)).setCell ⟨w.heap.size + 1 + 1 + 1, 0, none⟩ (.int .i64 21)) := WhX.of (HI.out.drewN _)
          exact ⟨(KeepsOthers.of_drewN W _).trans ((KeepsOthers.setCell _ _ _).trans (KeepsOthers.setCell _ _ _)), rfl, by rw [hwa.out, if_neg (by omega), if_pos (by simp)], hX⟩
        · have c3' : decide (r = 0) = false := by simpa using c3
          obtain ⟨d, hd⟩ : ∃ d, d = (n - q + r - 1) / r := ⟨_, rfl⟩
          have hq := quo_bd (a := n - q + r - 1) (r := r) (by omega) (by omega) (by omega)
          rw [← hd] at hq
          have iw4 : IntKind.i64.wrap ((n - q + r - 1).tdiv r) = d := by
            rw [Int.tdiv_eq_ediv_of_nonneg (by omega), ← hd]
            exact IntWalk.i64_in _ (by omega)
          have HD := Lib.hid hd
          clear hd
          obtain ⟨hq0, hq1⟩ := hq
          gi_wp2
          refine wpIn_quiet_round rfl rfl (by kernel_rfl) (by kernel_rfl) ?_
          (repeat (gi_big_quiet_step (fail)))
          refine wpQuietIn_nil ?_
          rintro _ ⟨nq, rfl⟩
          gi_wp2
          refine wpIn_quiet_round rfl rfl (by kernel_rfl) (by kernel_rfl) ?_
          (repeat (gi_big_quiet_step (fail)))
          refine wpQuietIn_nil ?_
          rintro _ ⟨nq, rfl⟩
          gi_wp2
          refine wpIn_region_last_lit (by kernel_rfl) (by kernel_rfl) (by kernel_rfl) (by kernel_rfl) (by kernel_rfl) (by kernel_rfl) (by kernel_rfl) (fun _ _ _ _ _ h => h) ?_
          repeat (apply lexT_step (by rfl) (by rfl); (go_simp; with_reducible rfl); (try simp only [Act.put, List.setIfInBounds_toArray, List.set_cons_zero, List.set_cons_succ]))
          by_cases c5 : m < d
          · apply lexT_builtin (by rfl) (by rfl)
            · go_simp
              with_reducible rfl
            (try simp only [Act.put, List.setIfInBounds_toArray, List.set_cons_zero, List.set_cons_succ])
            refine lastOp_mk (by rfl) ?_
            go_simp
            gi_wp2
            refine ⟨(KeepsOthers.of_drewN W _).trans (KeepsOthers.setCell _ _ _), (PKeep.drewN W _).trans (PKeep.setCell _ _ _ (by dsimp only; omega) (by dsimp only; omega) (by dsimp only; omega) (by dsimp only; omega)), d, by rw [hwa.out, if_neg (by omega), if_neg (by omega), ← HD.out, maxI, if_pos c5], by omega, by omega, (HI.out.drewN _).upd (by omega) d⟩
          · have c5' : d ≤ m := by omega
            apply lexT_builtin (by rfl) (by rfl)
            · go_simp
              with_reducible rfl
            (try simp only [Act.put, List.setIfInBounds_toArray, List.set_cons_zero, List.set_cons_succ])
            refine lastOp_mk (by rfl) ?_
            go_simp
            gi_wp2
            refine ⟨(KeepsOthers.of_drewN W _).trans (KeepsOthers.setCell _ _ _), (PKeep.drewN W _).trans (PKeep.setCell _ _ _ (by dsimp only; omega) (by dsimp only; omega) (by dsimp only; omega) (by dsimp only; omega)), m, (by have h9 := hwa.out; rw [if_neg (by omega), if_neg (by omega), ← HD.out, maxI, if_neg (by omega)] at h9; simpa using h9), by omega, by omega, (HI.out.drewN _).upd (by omega) m⟩
  case done =>
    rintro D ys W hD hS ⟨m, hm, m0, m1, hI⟩ hK
    rw [hS] at hm
    have ka : W.cell? ⟨w2.heap.size, 0, none⟩ = some (.int .i64 m) := hI.acc.cell 0
    have kt : W.cell? ⟨w.heap.size, 0, none⟩ = some (.int .i64 t) := hI.arg.cell 0
    have kra : W.cell? ⟨w.heap.size + 1 + 1, 0, none⟩ = some (.int .i64 0) := hI.ra.cell 0
    have kraf : W.frozen? ⟨w.heap.size + 1 + 1, 0, none⟩ = false := hI.ra.frozen 0
    have krb : W.cell? ⟨w.heap.size + 1 + 1 + 1, 0, none⟩ = some (.int .i64 0) := hI.rb.cell 0
    have krbf : W.frozen? ⟨w.heap.size + 1 + 1 + 1, 0, none⟩ = false := hI.rb.frozen 0
    have HI := Lib.hid hI
    have HW := Lib.hid (whenV_some C0.out n0 hm)
    have ht := (checkL_zero C0z.out).2
    clear hI hm
    obtain ⟨ht0, ht1, _⟩ := ht
    have fin : ∀ (v1 v2 : Int) (tp : Array Value), whenV t l k n = (v1, v2) → tp.getD 6 undef = .pointer (some ⟨w.heap.size + 1 + 1, 0, none⟩) → tp.getD 7 undef = .pointer (some ⟨w.heap.size + 1 + 1 + 1, 0, none⟩) →
        bodyPostM Fence.wide 4 Try.prog Try.f23 (fun e w' => e = .returned (.tuple #[.int .i64 (whenV t l k n).1, .int .i64 (whenV t l k n).2]) ∧ Below w.heap.size w w') .ret { tmps := tp, defers := [{ target := .collected D, args := #[] }] }
          ((W.setCell ⟨w.heap.size + 1 + 1, 0, none⟩ (.int .i64 v1)).setCell ⟨w.heap.size + 1 + 1 + 1, 0, none⟩ (.int .i64 v2)) := fun v1 v2 tp hv h6 h7 =>
      wh_fin (B := w7.heap.size) hv (by omega) hD (((KeepsOthers.setCell W ⟨w.heap.size + 1 + 1, 0, none⟩ (.int .i64 v1)).trans (KeepsOthers.setCell _ ⟨w.heap.size + 1 + 1 + 1, 0, none⟩ (.int .i64 v2))).same D _ hK rfl)
        ((HI.out.ra.set_ 0 (.int .i64 v1)).far (by dsimp only; omega) _) ((HI.out.rb.far (p := ⟨w.heap.size + 1 + 1, 0, none⟩) (by dsimp only; omega) _).set_ 0 (.int .i64 v2))
        ((HI.out.below.setCell (p := ⟨w.heap.size + 1 + 1, 0, none⟩) (by dsimp only; omega) _).setCell (p := ⟨w.heap.size + 1 + 1 + 1, 0, none⟩) (by dsimp only; omega) _) tp h6 h7
    have FIN := Lib.hid fin
    clear fin
    by_cases c6 : 1073741824 - t < m
    · gi_wp2
      go_wp2
      exact FIN.out 0 21 _ (by rw [HW.out, if_pos c6]) rfl rfl
    · gi_wp2
      go_wp2
      exact FIN.out (t + m) 0 _ (by rw [HW.out, if_neg (by omega)]) rfl rfl
  case stop =>
    rintro D c pre W hD hS ⟨rfl, hw, hX⟩ hK
    gi_wp2
    have hpre := waitP_none_pre hS hw
    exact wh_fin (B := w7.heap.size) (whenV_none C0.out n0 hpre) (by omega) hD hK hX.ra hX.rb hX.below _ rfl rfl
theorem When_any (t k n : Int) (A : Option Addr) (m c : Nat) (l : List Bk) (w : World) (hR : RdB w A m l) (hm : m ≤ 1000) (n1 : n ≤ 9223372036854775807) :
    Calls Try.prog 23 #[budV t A m c, .int .i64 k, .int .i64 n] w fun e w' => e = .returned (.tuple #[.int .i64 (whenV t l k n).1, .int .i64 (whenV t l k n).2]) ∧ Below w.heap.size w w' := by
  have hlen := hR.len
  subst hlen
  by_cases h : findV t l k ≠ 0 ∨ n < 0
  · exact When_err t k n A _ c l w hR hm h
  · have h1 : findV t l k = 0 := by omega
    obtain ⟨_, h2, _⟩ := findV_zero h1
    obtain ⟨j, rfl⟩ : ∃ i : Nat, k = i := ⟨k.toNat, by omega⟩
    exact callsIn_wide.1 (When_ok t n j A c l w hR hm h1 (by omega) n1)
end Go.Proofs.Ytehfnanhamaenaa
