/- The walk of a witness's Handle. Conditions: a witness in order, a message of a site, times of usual size. -/
import Derived.Test.YtggaaajkbnhofaaWh
import Derived.Maps.OwnSet
namespace Go.Proofs.Ytggaaajkbnhofaa
open Go.RowKit
open Go.Maps (Keyed)
theorem law3 : Keyed Try.prog 3 := Maps.int_keyed Try.underlying3
/-- how a bound method reads -/
def fR2 (g : Nat) (k : FuncId) : List Value → List Value → Option (DataW Unit × List MemPlace)
  | [.pointer (some a)], [] => if a.block = g ∧ a.off = 0 ∧ a.spot.isNone = true then some (.lit (.int .i64 (k : Nat)), []) else some (.lit (.int .i64 0), [])
  | _, _ => some (.lit (.int .i64 0), [])
def fR (g : Nat) : Value → Option (DataW Unit × List MemPlace)
  | .func (.func k) x y => fR2 g k x.toList y.toList
  | _ => some (.lit (.int .i64 0), [])
theorem fR_at (g k : Nat) : fR g (.func (.func k) #[.pointer (some ⟨g, 0, none⟩)] #[]) = some (.lit (.int .i64 (k : Nat)), []) := by
  show fR2 g k [.pointer (some ⟨g, 0, none⟩)] [] = _
  exact if_pos ⟨rfl, rfl, rfl⟩
theorem lit0 {k : Nat} {ps : List MemPlace} (hk : 0 < k) (h : (some (.lit (.int .i64 0), []) : Option (DataW Unit × List MemPlace)) = some (.lit (.int .i64 (k : Nat)), ps)) : False := by
  injection h with h
  injection h with h1 h2
  injection h1 with h1
  injection h1 with h1 h3
  omega
theorem fR_inv {g k : Nat} {v : Value} {ps : List MemPlace} (hk : 0 < k) (h : fR g v = some (.lit (.int .i64 (k : Nat)), ps)) : v = .func (.func k) #[.pointer (some ⟨g, 0, none⟩)] #[] := by
  unfold fR at h
  split at h
  · rename_i k' x y
    unfold fR2 at h
    split at h
    · rename_i a hx hy
      split at h
      · rename_i e
        obtain ⟨e1, e2, e3⟩ := e
        injection h with h
        injection h with h1 h2
        injection h1 with h1
        injection h1 with h1 h3
        have hkk : k' = k := by exact_mod_cast h3
        subst hkk
        obtain ⟨b, of, sp⟩ := a
        dsimp only at e1 e2 e3
        subst e1 e2
        cases sp with
        | some _ => cases e3
        | none =>
          have hx' : x = #[.pointer (some ⟨b, 0, none⟩)] := Array.toList_inj.1 hx
          have hy' : y = #[] := Array.toList_inj.1 hy
          rw [hx', hy']
      · exact absurd h (fun h => lit0 hk h)
    · exact absurd h (fun h => lit0 hk h)
  · exact absurd h (fun h => lit0 hk h)
theorem fR_some (g : Nat) (v : Value) : ∃ d, fR g v = some (d, []) := by
  unfold fR
  split
  · unfold fR2
    split
    · split <;> exact ⟨_, rfl⟩
    · exact ⟨_, rfl⟩
  · exact ⟨_, rfl⟩
/-- the table of handlers -/
def tabD : DataW Unit := (((DataW.map []).put (.int .i64 15) (.lit (.int .i64 22))).put (.int .i64 17) (.lit (.int .i64 23))).put (.int .i64 18) (.lit (.int .i64 24))
theorem tab15 (z : DataW Unit) : tabD.atKey (.int .i64 15) z = .lit (.int .i64 22) := by
  unfold tabD
  rw [Maps.atKey_put_other (by simp), Maps.atKey_put_other (by simp)]
  exact Maps.atKey_put_same ⟨_, rfl⟩ (by simp [WideAt.IsKeyLit]) _ _
theorem tab17 (z : DataW Unit) : tabD.atKey (.int .i64 17) z = .lit (.int .i64 23) := by
  unfold tabD
  rw [Maps.atKey_put_other (by simp)]
  exact Maps.atKey_put_same ⟨_, rfl⟩ (by simp [WideAt.IsKeyLit]) _ _
theorem tab18 (z : DataW Unit) : tabD.atKey (.int .i64 18) z = .lit (.int .i64 24) := by
  unfold tabD
  exact Maps.atKey_put_same ⟨_, rfl⟩ (by simp [WideAt.IsKeyLit]) _ _
theorem has15 : Maps.has tabD (.int .i64 15) = true := Maps.has_true_of_atKey tab15
theorem has17 : Maps.has tabD (.int .i64 17) = true := Maps.has_true_of_atKey tab17
theorem has18 : Maps.has tabD (.int .i64 18) = true := Maps.has_true_of_atKey tab18
/-- what Handle answers -/
structure HaR (w : World) (e ho u : Int) (al : List (List Value)) (x : Ending) (w' : World) : Prop where
  bel : Below w.heap.size w w'
  val : ∃ v, x = .returned (.tuple #[.agg #[.int .i64 e, .int .i64 ho, .int .i64 u], v]) ∧ w'.ownsRow w.heap.size 49 8 v al.length al.flatten
set_option linter.unusedSimpArgs false in
set_option maxRecDepth 100000 in
set_option maxHeartbeats 8000000 in
theorem Handle15 (e ho u now tm fr dt nm vl ep e' ho' u' : Int) (al : List (List Value)) (w : World) (h0 : 0 ≤ e ∧ e ≤ 1073741824) (h1 : ho = -1 ∨ 0 ≤ ho ∧ ho ≤ 3) (h2 : 0 ≤ u ∧ u ≤ 1073741824) (h3 : 0 ≤ now ∧ now ≤ 1073741824) (h4 : 1 ≤ tm ∧ tm ≤ 1073741824 - now) (h5 : 0 ≤ fr ∧ fr ≤ 3) (h6 : 0 ≤ ep ∧ ep ≤ 1073741824)
    (hF : ∀ (g : Nat) (W : World), Blk W g 69 (rqC e ho u now tm 15 fr dt nm vl ep) → Calls Try.prog 22 #[.pointer (some ⟨g, 0, none⟩)] W (HdR W g (rqC e' ho' u' now tm 15 fr dt nm vl ep) al)) :
    Calls Try.prog 12 #[.agg #[.int .i64 e, .int .i64 ho, .int .i64 u], .int .i64 now, .int .i64 tm, .agg #[.int .i64 15, .int .i64 fr, .int .i64 dt, .int .i64 nm, .int .i64 vl, .int .i64 ep, .slice none 0 0, .slice none 0 0]] w (HaR w e' ho' u' al) := by
  have hb0 : Below w.heap.size w (((w.alloc (.cells #[.int .i64 e, .int .i64 ho, .int .i64 u] 32)).alloc (.cells (msL 15 fr dt nm vl ep).toArray 49)).alloc (.cells #[.int .i64 0, .int .i64 0, .int .i64 0] 32)) := (((Below.refl _ w).alloc (Nat.le_refl _) _).alloc (by simp) _).alloc (by simp only [World.size_alloc]; omega) _
  have g0 : Blk (((w.alloc (.cells #[.int .i64 e, .int .i64 ho, .int .i64 u] 32)).alloc (.cells (msL 15 fr dt nm vl ep).toArray 49)).alloc (.cells #[.int .i64 0, .int .i64 0, .int .i64 0] 32)) w.heap.size 32 #[.int .i64 e, .int .i64 ho, .int .i64 u] := ((Blk.new _ _ _).alloc _).alloc _
  have g1 : Blk (((w.alloc (.cells #[.int .i64 e, .int .i64 ho, .int .i64 u] 32)).alloc (.cells (msL 15 fr dt nm vl ep).toArray 49)).alloc (.cells #[.int .i64 0, .int .i64 0, .int .i64 0] 32)) (w.heap.size + 1) 49 (msL 15 fr dt nm vl ep).toArray := by have := (Blk.new (w.alloc (.cells #[.int .i64 e, .int .i64 ho, .int .i64 u] 32)) 49 (msL 15 fr dt nm vl ep).toArray).alloc (.cells #[.int .i64 0, .int .i64 0, .int .i64 0] 32); rw [World.size_alloc] at this; exact this
  have g2 : Blk (((w.alloc (.cells #[.int .i64 e, .int .i64 ho, .int .i64 u] 32)).alloc (.cells (msL 15 fr dt nm vl ep).toArray 49)).alloc (.cells #[.int .i64 0, .int .i64 0, .int .i64 0] 32)) (w.heap.size + 2) 32 #[.int .i64 0, .int .i64 0, .int .i64 0] := by have := Blk.new ((w.alloc (.cells #[.int .i64 e, .int .i64 ho, .int .i64 u] 32)).alloc (.cells (msL 15 fr dt nm vl ep).toArray 49)) 32 #[.int .i64 0, .int .i64 0, .int .i64 0]; simpa using this
  have HG := Lib.hid (And.intro hb0 (And.intro g0 (And.intro g1 g2)))
  have hs0 : w.heap.size + 3 ≤ (((w.alloc (.cells #[.int .i64 e, .int .i64 ho, .int .i64 u] 32)).alloc (.cells (msL 15 fr dt nm vl ep).toArray 49)).alloc (.cells #[.int .i64 0, .int .i64 0, .int .i64 0] 32)).heap.size := by simp
  clear hb0 g0 g1 g2
  have HF := Lib.hid hF
  clear hF
  have k3 := bet_true h3
  have k4 := bet_true h4
  have k5 := bet_true h5
  have k6 := bet_true h6
  have kw : IntKind.i64.wrap (1073741824 - now) = 1073741824 - now := IntWalk.i64_in _ (by omega)
  go_enter Try.func12, Try.ntmps12
  unfold msL at HG hs0
  go_upto_region 1 with fail
  generalize (((w.alloc (.cells #[.int .i64 e, .int .i64 ho, .int .i64 u] 32)).alloc (.cells #[.int .i64 15, .int .i64 fr, .int .i64 dt, .int .i64 nm, .int .i64 vl, .int .i64 ep, .slice none 0 0, .slice none 0 0] 49)).alloc (.cells #[.int .i64 0, .int .i64 0, .int .i64 0] 32)) = V at *
  have c0 : V.cell? ⟨w.heap.size, 0, none⟩ = some (.int .i64 e) := HG.out.2.1.cell 0
  have c1 : V.cell? ⟨w.heap.size, 1, none⟩ = some (.int .i64 ho) := HG.out.2.1.cell 1
  have c2 : V.cell? ⟨w.heap.size, 2, none⟩ = some (.int .i64 u) := HG.out.2.1.cell 2
  go_wp2_with fail
  refine (wCheck_ok e ho u V h0 h1 h2).mono ?_
  rintro x w1 ⟨rfl, hb1⟩
  have hs1 := hb1.size
  have HG1 := Lib.hid (And.intro (HG.out.1.trans (hb1.mono HG.out.1.size)) (And.intro (HG.out.2.1.below hb1 (by omega)) (And.intro (HG.out.2.2.1.below hb1 (by omega)) (HG.out.2.2.2.below hb1 (by omega)))))
  clear c0 c1 c2 hb1
  have c0 : w1.cell? ⟨w.heap.size, 0, none⟩ = some (.int .i64 e) := HG1.out.2.1.cell 0
  have c1 : w1.cell? ⟨w.heap.size, 1, none⟩ = some (.int .i64 ho) := HG1.out.2.1.cell 1
  have c2 : w1.cell? ⟨w.heap.size, 2, none⟩ = some (.int .i64 u) := HG1.out.2.1.cell 2
  have m0 : w1.cell? ⟨w.heap.size + 1, 0, none⟩ = some (.int .i64 15) := HG1.out.2.2.1.cell 0
  have m1 : w1.cell? ⟨w.heap.size + 1, 1, none⟩ = some (.int .i64 fr) := HG1.out.2.2.1.cell 1
  have m2 : w1.cell? ⟨w.heap.size + 1, 2, none⟩ = some (.int .i64 dt) := HG1.out.2.2.1.cell 2
  have m3 : w1.cell? ⟨w.heap.size + 1, 3, none⟩ = some (.int .i64 nm) := HG1.out.2.2.1.cell 3
  have m4 : w1.cell? ⟨w.heap.size + 1, 4, none⟩ = some (.int .i64 vl) := HG1.out.2.2.1.cell 4
  have m5 : w1.cell? ⟨w.heap.size + 1, 5, none⟩ = some (.int .i64 ep) := HG1.out.2.2.1.cell 5
  have m6 : w1.cell? ⟨w.heap.size + 1, 6, none⟩ = some (.slice none 0 0) := HG1.out.2.2.1.cell 6
  have m7 : w1.cell? ⟨w.heap.size + 1, 7, none⟩ = some (.slice none 0 0) := HG1.out.2.2.1.cell 7
  go_wp2_with fail
  refine (wtime_any now w1).mono ?_
  rintro x w1' ⟨rfl, rfl⟩
  rw [k3]
  go_wp2_with fail
  refine (between_any tm 1 (1073741824 - now) w1).mono ?_
  rintro x w1' ⟨rfl, rfl⟩
  rw [k4]
  go_wp2_with fail
  refine (wsite_any fr w1).mono ?_
  rintro x w1' ⟨rfl, rfl⟩
  rw [k5]
  go_wp2_with fail
  refine (wtime_any ep w1).mono ?_
  rintro x w1' ⟨rfl, rfl⟩
  rw [k6]
  go_upto_region 3 with fail
  have hbq : Below w1.heap.size w1 (w1.alloc (.cells (rqC e ho u now tm 15 fr dt nm vl ep) 69)) := (Below.refl _ w1).alloc (Nat.le_refl _) _
  have gq := Blk.new w1 69 (rqC e ho u now tm 15 fr dt nm vl ep)
  have hsq : (w1.alloc (.cells (rqC e ho u now tm 15 fr dt nm vl ep) 69)).heap.size = w1.heap.size + 1 := by simp
  have HQ := Lib.hid (And.intro hbq gq)
  clear hbq gq
  unfold rqC at HQ hsq
  go_upto_region 4 with fail
  generalize (w1.alloc (.cells #[.int .i64 e, .int .i64 ho, .int .i64 u, .int .i64 now, .int .i64 tm, .int .i64 15, .int .i64 fr, .int .i64 dt, .int .i64 nm, .int .i64 vl, .int .i64 ep, .slice none 0 0, .slice none 0 0] 69)) = V2 at *
  have HS2 := Lib.hid hsq
  have hs2 : w1.heap.size + 1 ≤ V2.heap.size := by omega
  clear hsq
  obtain ⟨gq, hgq⟩ : ∃ gq, w1.heap.size = gq := ⟨_, rfl⟩
  rw [hgq] at HQ hs2 HS2 ⊢
  have hown0 := World.ownsMap_made V2 Try.prog 3 (fR gq)
  have hs3 : (V2.alloc (.map #[] 0)).heap.size = V2.heap.size + 1 := by simp
  have hmk : (Instr.makeMap 71 none).run Try.prog V2 = .ok (.map (some V2.heap.size)) (V2.alloc (.map #[] 0)) := run_makeMap 71 V2
  have key15 : keyOf Try.prog 3 (.int .i64 15) = some (.int .i64 15) := Maps.keyOf_int_mk Try.underlying3 (by decide)
  have key17 : keyOf Try.prog 3 (.int .i64 17) = some (.int .i64 17) := Maps.keyOf_int_mk Try.underlying3 (by decide)
  have key18 : keyOf Try.prog 3 (.int .i64 18) = some (.int .i64 18) := Maps.keyOf_int_mk Try.underlying3 (by decide)
  obtain ⟨w3, hr3, hown3, hg3⟩ := hown0.update law3 Try.underlying71 (by unfold maxLen; omega) key15 (fR_at gq 22)
  obtain ⟨w4, hr4, hown4, hg4⟩ := hown3.update law3 Try.underlying71 (by unfold maxLen; omega) key17 (fR_at gq 23)
  obtain ⟨w5, hr5, hown5, hg5⟩ := hown4.update law3 Try.underlying71 (by unfold maxLen; omega) key18 (fR_at gq 24)
  have hz5 : (zeroValue 70).run Try.prog w5 = .ok .nilFunc w5 := by kernel_rfl
  obtain ⟨zd, hzd⟩ := fR_some gq .nilFunc
  obtain ⟨vf, ps, hr6, hvf⟩ := hown5.look_ok law3 Try.underlying71 hz5 hzd key15
  have hta : ((((DataW.map []).put (.int .i64 15) (.lit (.int .i64 22))).put (.int .i64 17) (.lit (.int .i64 23))).put (.int .i64 18) (.lit (.int .i64 24)) : DataW Unit) = tabD := rfl
  have e22 : ((22 : Nat) : Int) = 22 := rfl
  have e23 : ((23 : Nat) : Int) = 23 := rfl
  have e24 : ((24 : Nat) : Int) = 24 := rfl
  rw [e22, e23, e24, hta, tab15] at hvf
  rw [e22, e23, e24, hta, has15] at hr6
  obtain rfl := fR_inv (k := 22) (by omega) hvf
  have hgA : V2.grownBy w5 (some V2.heap.size) := grown_tr (grown_tr (grown_tr (grown_alloc V2 _ _) hg3) hg4) hg5
  have hbA : Below V2.heap.size V2 w5 := ⟨hgA.os, hgA.tape, hgA.output, hgA.size, fun k hk => hgA.block k hk (fun e9 => by injection e9 with e9; omega)⟩
  have HA := Lib.hid (And.intro ((HG1.out.1.trans (HQ.out.1.mono (by omega))).trans (hbA.mono (by omega))) (And.intro (((HG1.out.2.2.1.below HQ.out.1 (by omega)).below hbA (by omega))) (And.intro (((HG1.out.2.2.2.below HQ.out.1 (by omega)).below hbA (by omega))) (HQ.out.2.below hbA (by omega)))))
  have hs5 := hgA.size
  have m0' : w5.cell? ⟨w.heap.size + 1, 0, none⟩ = some (.int .i64 15) := HA.out.2.1.cell 0
  clear hgA hbA hown0 hown3 hown4 hown5 hg3 hg4 hg5 hvf hta hzd hz5 key15 key17 key18
  go_upto_region 8 with fail
  go_wp2_with fail
  refine (HF.out gq w5 HA.out.2.2.2).mono ?_
  rintro x w6 ⟨⟨v6, rfl, ho6⟩, hB6, hg6⟩
  have hs6 := hg6.size
  have d0 : w6.cell? ⟨gq, 0, none⟩ = some (.int .i64 e') := hB6.cell 0
  have d1 : w6.cell? ⟨gq, 1, none⟩ = some (.int .i64 ho') := hB6.cell 1
  have d2 : w6.cell? ⟨gq, 2, none⟩ = some (.int .i64 u') := hB6.cell 2
  have g6 : Blk w6 (w.heap.size + 2) 32 #[.int .i64 0, .int .i64 0, .int .i64 0] := HA.out.2.2.1.grown hg6 (fun e9 => by injection e9 with e9; omega)
  have b6 : Below w.heap.size w w6 := HA.out.1.grown hg6 HA.out.1.size (fun b hb => by injection hb with hb; omega)
  clear c0 c1 c2 m0 m1 m2 m3 m4 m5 m6 m7 m0' hr3 hr4 hr5 hr6 hmk
  go_wp2_with (refine wpList_store_row rfl _ _ _ rfl (w.heap.size + 2) _ rfl rfl 32 _ g6 (by kernel_rfl) rfl (by simp [Value.oneCell']) ?_)
  refine bodyPost_ret (results_cell_tmp rfl _ _ (w.heap.size + 2) _ _ _ rfl (g6.setRow _) Try.underlying32 rfl (by kernel_rfl)) rfl ⟨below_setRow b6 (by omega) _, v6, rfl, ?_⟩
  exact own_base (own_keep ho6 (fun b hb => setRow_other _ _ _ _ (by have := own_block_ge ho6 b hb; omega))) (by omega)
set_option linter.unusedSimpArgs false in
set_option maxRecDepth 100000 in
set_option maxHeartbeats 8000000 in
theorem Handle17 (e ho u now tm fr dt nm vl ep e' ho' u' : Int) (al : List (List Value)) (w : World) (h0 : 0 ≤ e ∧ e ≤ 1073741824) (h1 : ho = -1 ∨ 0 ≤ ho ∧ ho ≤ 3) (h2 : 0 ≤ u ∧ u ≤ 1073741824) (h3 : 0 ≤ now ∧ now ≤ 1073741824) (h4 : 1 ≤ tm ∧ tm ≤ 1073741824 - now) (h5 : 0 ≤ fr ∧ fr ≤ 3) (h6 : 0 ≤ ep ∧ ep ≤ 1073741824)
    (hF : ∀ (g : Nat) (W : World), Blk W g 69 (rqC e ho u now tm 17 fr dt nm vl ep) → Calls Try.prog 23 #[.pointer (some ⟨g, 0, none⟩)] W (HdR W g (rqC e' ho' u' now tm 17 fr dt nm vl ep) al)) :
    Calls Try.prog 12 #[.agg #[.int .i64 e, .int .i64 ho, .int .i64 u], .int .i64 now, .int .i64 tm, .agg #[.int .i64 17, .int .i64 fr, .int .i64 dt, .int .i64 nm, .int .i64 vl, .int .i64 ep, .slice none 0 0, .slice none 0 0]] w (HaR w e' ho' u' al) := by
  have hb0 : Below w.heap.size w (((w.alloc (.cells #[.int .i64 e, .int .i64 ho, .int .i64 u] 32)).alloc (.cells (msL 17 fr dt nm vl ep).toArray 49)).alloc (.cells #[.int .i64 0, .int .i64 0, .int .i64 0] 32)) := (((Below.refl _ w).alloc (Nat.le_refl _) _).alloc (by simp) _).alloc (by simp only [World.size_alloc]; omega) _
  have g0 : Blk (((w.alloc (.cells #[.int .i64 e, .int .i64 ho, .int .i64 u] 32)).alloc (.cells (msL 17 fr dt nm vl ep).toArray 49)).alloc (.cells #[.int .i64 0, .int .i64 0, .int .i64 0] 32)) w.heap.size 32 #[.int .i64 e, .int .i64 ho, .int .i64 u] := ((Blk.new _ _ _).alloc _).alloc _
  have g1 : Blk (((w.alloc (.cells #[.int .i64 e, .int .i64 ho, .int .i64 u] 32)).alloc (.cells (msL 17 fr dt nm vl ep).toArray 49)).alloc (.cells #[.int .i64 0, .int .i64 0, .int .i64 0] 32)) (w.heap.size + 1) 49 (msL 17 fr dt nm vl ep).toArray := by have := (Blk.new (w.alloc (.cells #[.int .i64 e, .int .i64 ho, .int .i64 u] 32)) 49 (msL 17 fr dt nm vl ep).toArray).alloc (.cells #[.int .i64 0, .int .i64 0, .int .i64 0] 32); rw [World.size_alloc] at this; exact this
  have g2 : Blk (((w.alloc (.cells #[.int .i64 e, .int .i64 ho, .int .i64 u] 32)).alloc (.cells (msL 17 fr dt nm vl ep).toArray 49)).alloc (.cells #[.int .i64 0, .int .i64 0, .int .i64 0] 32)) (w.heap.size + 2) 32 #[.int .i64 0, .int .i64 0, .int .i64 0] := by have := Blk.new ((w.alloc (.cells #[.int .i64 e, .int .i64 ho, .int .i64 u] 32)).alloc (.cells (msL 17 fr dt nm vl ep).toArray 49)) 32 #[.int .i64 0, .int .i64 0, .int .i64 0]; simpa using this
  have HG := Lib.hid (And.intro hb0 (And.intro g0 (And.intro g1 g2)))
  have hs0 : w.heap.size + 3 ≤ (((w.alloc (.cells #[.int .i64 e, .int .i64 ho, .int .i64 u] 32)).alloc (.cells (msL 17 fr dt nm vl ep).toArray 49)).alloc (.cells #[.int .i64 0, .int .i64 0, .int .i64 0] 32)).heap.size := by simp
  clear hb0 g0 g1 g2
  have HF := Lib.hid hF
  clear hF
  have k3 := bet_true h3
  have k4 := bet_true h4
  have k5 := bet_true h5
  have k6 := bet_true h6
  have kw : IntKind.i64.wrap (1073741824 - now) = 1073741824 - now := IntWalk.i64_in _ (by omega)
  go_enter Try.func12, Try.ntmps12
  unfold msL at HG hs0
  go_upto_region 1 with fail
  generalize (((w.alloc (.cells #[.int .i64 e, .int .i64 ho, .int .i64 u] 32)).alloc (.cells #[.int .i64 17, .int .i64 fr, .int .i64 dt, .int .i64 nm, .int .i64 vl, .int .i64 ep, .slice none 0 0, .slice none 0 0] 49)).alloc (.cells #[.int .i64 0, .int .i64 0, .int .i64 0] 32)) = V at *
  have c0 : V.cell? ⟨w.heap.size, 0, none⟩ = some (.int .i64 e) := HG.out.2.1.cell 0
  have c1 : V.cell? ⟨w.heap.size, 1, none⟩ = some (.int .i64 ho) := HG.out.2.1.cell 1
  have c2 : V.cell? ⟨w.heap.size, 2, none⟩ = some (.int .i64 u) := HG.out.2.1.cell 2
  go_wp2_with fail
  refine (wCheck_ok e ho u V h0 h1 h2).mono ?_
  rintro x w1 ⟨rfl, hb1⟩
  have hs1 := hb1.size
  have HG1 := Lib.hid (And.intro (HG.out.1.trans (hb1.mono HG.out.1.size)) (And.intro (HG.out.2.1.below hb1 (by omega)) (And.intro (HG.out.2.2.1.below hb1 (by omega)) (HG.out.2.2.2.below hb1 (by omega)))))
  clear c0 c1 c2 hb1
  have c0 : w1.cell? ⟨w.heap.size, 0, none⟩ = some (.int .i64 e) := HG1.out.2.1.cell 0
  have c1 : w1.cell? ⟨w.heap.size, 1, none⟩ = some (.int .i64 ho) := HG1.out.2.1.cell 1
  have c2 : w1.cell? ⟨w.heap.size, 2, none⟩ = some (.int .i64 u) := HG1.out.2.1.cell 2
  have m0 : w1.cell? ⟨w.heap.size + 1, 0, none⟩ = some (.int .i64 17) := HG1.out.2.2.1.cell 0
  have m1 : w1.cell? ⟨w.heap.size + 1, 1, none⟩ = some (.int .i64 fr) := HG1.out.2.2.1.cell 1
  have m2 : w1.cell? ⟨w.heap.size + 1, 2, none⟩ = some (.int .i64 dt) := HG1.out.2.2.1.cell 2
  have m3 : w1.cell? ⟨w.heap.size + 1, 3, none⟩ = some (.int .i64 nm) := HG1.out.2.2.1.cell 3
  have m4 : w1.cell? ⟨w.heap.size + 1, 4, none⟩ = some (.int .i64 vl) := HG1.out.2.2.1.cell 4
  have m5 : w1.cell? ⟨w.heap.size + 1, 5, none⟩ = some (.int .i64 ep) := HG1.out.2.2.1.cell 5
  have m6 : w1.cell? ⟨w.heap.size + 1, 6, none⟩ = some (.slice none 0 0) := HG1.out.2.2.1.cell 6
  have m7 : w1.cell? ⟨w.heap.size + 1, 7, none⟩ = some (.slice none 0 0) := HG1.out.2.2.1.cell 7
  go_wp2_with fail
  refine (wtime_any now w1).mono ?_
  rintro x w1' ⟨rfl, rfl⟩
  rw [k3]
  go_wp2_with fail
  refine (between_any tm 1 (1073741824 - now) w1).mono ?_
  rintro x w1' ⟨rfl, rfl⟩
  rw [k4]
  go_wp2_with fail
  refine (wsite_any fr w1).mono ?_
  rintro x w1' ⟨rfl, rfl⟩
  rw [k5]
  go_wp2_with fail
  refine (wtime_any ep w1).mono ?_
  rintro x w1' ⟨rfl, rfl⟩
  rw [k6]
  go_upto_region 3 with fail
  have hbq : Below w1.heap.size w1 (w1.alloc (.cells (rqC e ho u now tm 17 fr dt nm vl ep) 69)) := (Below.refl _ w1).alloc (Nat.le_refl _) _
  have gq := Blk.new w1 69 (rqC e ho u now tm 17 fr dt nm vl ep)
  have hsq : (w1.alloc (.cells (rqC e ho u now tm 17 fr dt nm vl ep) 69)).heap.size = w1.heap.size + 1 := by simp
  have HQ := Lib.hid (And.intro hbq gq)
  clear hbq gq
  unfold rqC at HQ hsq
  go_upto_region 4 with fail
  generalize (w1.alloc (.cells #[.int .i64 e, .int .i64 ho, .int .i64 u, .int .i64 now, .int .i64 tm, .int .i64 17, .int .i64 fr, .int .i64 dt, .int .i64 nm, .int .i64 vl, .int .i64 ep, .slice none 0 0, .slice none 0 0] 69)) = V2 at *
  have HS2 := Lib.hid hsq
  have hs2 : w1.heap.size + 1 ≤ V2.heap.size := by omega
  clear hsq
  obtain ⟨gq, hgq⟩ : ∃ gq, w1.heap.size = gq := ⟨_, rfl⟩
  rw [hgq] at HQ hs2 HS2 ⊢
  have hown0 := World.ownsMap_made V2 Try.prog 3 (fR gq)
  have hs3 : (V2.alloc (.map #[] 0)).heap.size = V2.heap.size + 1 := by simp
  have hmk : (Instr.makeMap 71 none).run Try.prog V2 = .ok (.map (some V2.heap.size)) (V2.alloc (.map #[] 0)) := run_makeMap 71 V2
  have key15 : keyOf Try.prog 3 (.int .i64 15) = some (.int .i64 15) := Maps.keyOf_int_mk Try.underlying3 (by decide)
  have key17 : keyOf Try.prog 3 (.int .i64 17) = some (.int .i64 17) := Maps.keyOf_int_mk Try.underlying3 (by decide)
  have key18 : keyOf Try.prog 3 (.int .i64 18) = some (.int .i64 18) := Maps.keyOf_int_mk Try.underlying3 (by decide)
  obtain ⟨w3, hr3, hown3, hg3⟩ := hown0.update law3 Try.underlying71 (by unfold maxLen; omega) key15 (fR_at gq 22)
  obtain ⟨w4, hr4, hown4, hg4⟩ := hown3.update law3 Try.underlying71 (by unfold maxLen; omega) key17 (fR_at gq 23)
  obtain ⟨w5, hr5, hown5, hg5⟩ := hown4.update law3 Try.underlying71 (by unfold maxLen; omega) key18 (fR_at gq 24)
  have hz5 : (zeroValue 70).run Try.prog w5 = .ok .nilFunc w5 := by kernel_rfl
  obtain ⟨zd, hzd⟩ := fR_some gq .nilFunc
  obtain ⟨vf, ps, hr6, hvf⟩ := hown5.look_ok law3 Try.underlying71 hz5 hzd key17
  have hta : ((((DataW.map []).put (.int .i64 15) (.lit (.int .i64 22))).put (.int .i64 17) (.lit (.int .i64 23))).put (.int .i64 18) (.lit (.int .i64 24)) : DataW Unit) = tabD := rfl
  have e22 : ((22 : Nat) : Int) = 22 := rfl
  have e23 : ((23 : Nat) : Int) = 23 := rfl
  have e24 : ((24 : Nat) : Int) = 24 := rfl
  rw [e22, e23, e24, hta, tab17] at hvf
  rw [e22, e23, e24, hta, has17] at hr6
  obtain rfl := fR_inv (k := 23) (by omega) hvf
  have hgA : V2.grownBy w5 (some V2.heap.size) := grown_tr (grown_tr (grown_tr (grown_alloc V2 _ _) hg3) hg4) hg5
  have hbA : Below V2.heap.size V2 w5 := ⟨hgA.os, hgA.tape, hgA.output, hgA.size, fun k hk => hgA.block k hk (fun e9 => by injection e9 with e9; omega)⟩
  have HA := Lib.hid (And.intro ((HG1.out.1.trans (HQ.out.1.mono (by omega))).trans (hbA.mono (by omega))) (And.intro (((HG1.out.2.2.1.below HQ.out.1 (by omega)).below hbA (by omega))) (And.intro (((HG1.out.2.2.2.below HQ.out.1 (by omega)).below hbA (by omega))) (HQ.out.2.below hbA (by omega)))))
  have hs5 := hgA.size
  have m0' : w5.cell? ⟨w.heap.size + 1, 0, none⟩ = some (.int .i64 17) := HA.out.2.1.cell 0
  clear hgA hbA hown0 hown3 hown4 hown5 hg3 hg4 hg5 hvf hta hzd hz5 key15 key17 key18
  go_upto_region 8 with fail
  go_wp2_with fail
  refine (HF.out gq w5 HA.out.2.2.2).mono ?_
  rintro x w6 ⟨⟨v6, rfl, ho6⟩, hB6, hg6⟩
  have hs6 := hg6.size
  have d0 : w6.cell? ⟨gq, 0, none⟩ = some (.int .i64 e') := hB6.cell 0
  have d1 : w6.cell? ⟨gq, 1, none⟩ = some (.int .i64 ho') := hB6.cell 1
  have d2 : w6.cell? ⟨gq, 2, none⟩ = some (.int .i64 u') := hB6.cell 2
  have g6 : Blk w6 (w.heap.size + 2) 32 #[.int .i64 0, .int .i64 0, .int .i64 0] := HA.out.2.2.1.grown hg6 (fun e9 => by injection e9 with e9; omega)
  have b6 : Below w.heap.size w w6 := HA.out.1.grown hg6 HA.out.1.size (fun b hb => by injection hb with hb; omega)
  clear c0 c1 c2 m0 m1 m2 m3 m4 m5 m6 m7 m0' hr3 hr4 hr5 hr6 hmk
  go_wp2_with (refine wpList_store_row rfl _ _ _ rfl (w.heap.size + 2) _ rfl rfl 32 _ g6 (by kernel_rfl) rfl (by simp [Value.oneCell']) ?_)
  refine bodyPost_ret (results_cell_tmp rfl _ _ (w.heap.size + 2) _ _ _ rfl (g6.setRow _) Try.underlying32 rfl (by kernel_rfl)) rfl ⟨below_setRow b6 (by omega) _, v6, rfl, ?_⟩
  exact own_base (own_keep ho6 (fun b hb => setRow_other _ _ _ _ (by have := own_block_ge ho6 b hb; omega))) (by omega)
set_option linter.unusedSimpArgs false in
set_option maxRecDepth 100000 in
set_option maxHeartbeats 8000000 in
theorem Handle18 (e ho u now tm fr dt nm vl ep e' ho' u' : Int) (al : List (List Value)) (w : World) (h0 : 0 ≤ e ∧ e ≤ 1073741824) (h1 : ho = -1 ∨ 0 ≤ ho ∧ ho ≤ 3) (h2 : 0 ≤ u ∧ u ≤ 1073741824) (h3 : 0 ≤ now ∧ now ≤ 1073741824) (h4 : 1 ≤ tm ∧ tm ≤ 1073741824 - now) (h5 : 0 ≤ fr ∧ fr ≤ 3) (h6 : 0 ≤ ep ∧ ep ≤ 1073741824)
    (hF : ∀ (g : Nat) (W : World), Blk W g 69 (rqC e ho u now tm 18 fr dt nm vl ep) → Calls Try.prog 24 #[.pointer (some ⟨g, 0, none⟩)] W (HdR W g (rqC e' ho' u' now tm 18 fr dt nm vl ep) al)) :
    Calls Try.prog 12 #[.agg #[.int .i64 e, .int .i64 ho, .int .i64 u], .int .i64 now, .int .i64 tm, .agg #[.int .i64 18, .int .i64 fr, .int .i64 dt, .int .i64 nm, .int .i64 vl, .int .i64 ep, .slice none 0 0, .slice none 0 0]] w (HaR w e' ho' u' al) := by
  have hb0 : Below w.heap.size w (((w.alloc (.cells #[.int .i64 e, .int .i64 ho, .int .i64 u] 32)).alloc (.cells (msL 18 fr dt nm vl ep).toArray 49)).alloc (.cells #[.int .i64 0, .int .i64 0, .int .i64 0] 32)) := (((Below.refl _ w).alloc (Nat.le_refl _) _).alloc (by simp) _).alloc (by simp only [World.size_alloc]; omega) _
  have g0 : Blk (((w.alloc (.cells #[.int .i64 e, .int .i64 ho, .int .i64 u] 32)).alloc (.cells (msL 18 fr dt nm vl ep).toArray 49)).alloc (.cells #[.int .i64 0, .int .i64 0, .int .i64 0] 32)) w.heap.size 32 #[.int .i64 e, .int .i64 ho, .int .i64 u] := ((Blk.new _ _ _).alloc _).alloc _
  have g1 : Blk (((w.alloc (.cells #[.int .i64 e, .int .i64 ho, .int .i64 u] 32)).alloc (.cells (msL 18 fr dt nm vl ep).toArray 49)).alloc (.cells #[.int .i64 0, .int .i64 0, .int .i64 0] 32)) (w.heap.size + 1) 49 (msL 18 fr dt nm vl ep).toArray := by have := (Blk.new (w.alloc (.cells #[.int .i64 e, .int .i64 ho, .int .i64 u] 32)) 49 (msL 18 fr dt nm vl ep).toArray).alloc (.cells #[.int .i64 0, .int .i64 0, .int .i64 0] 32); rw [World.size_alloc] at this; exact this
  have g2 : Blk (((w.alloc (.cells #[.int .i64 e, .int .i64 ho, .int .i64 u] 32)).alloc (.cells (msL 18 fr dt nm vl ep).toArray 49)).alloc (.cells #[.int .i64 0, .int .i64 0, .int .i64 0] 32)) (w.heap.size + 2) 32 #[.int .i64 0, .int .i64 0, .int .i64 0] := by have := Blk.new ((w.alloc (.cells #[.int .i64 e, .int .i64 ho, .int .i64 u] 32)).alloc (.cells (msL 18 fr dt nm vl ep).toArray 49)) 32 #[.int .i64 0, .int .i64 0, .int .i64 0]; simpa using this
  have HG := Lib.hid (And.intro hb0 (And.intro g0 (And.intro g1 g2)))
  have hs0 : w.heap.size + 3 ≤ (((w.alloc (.cells #[.int .i64 e, .int .i64 ho, .int .i64 u] 32)).alloc (.cells (msL 18 fr dt nm vl ep).toArray 49)).alloc (.cells #[.int .i64 0, .int .i64 0, .int .i64 0] 32)).heap.size := by simp
  clear hb0 g0 g1 g2
  have HF := Lib.hid hF
  clear hF
  have k3 := bet_true h3
  have k4 := bet_true h4
  have k5 := bet_true h5
  have k6 := bet_true h6
  have kw : IntKind.i64.wrap (1073741824 - now) = 1073741824 - now := IntWalk.i64_in _ (by omega)
  go_enter Try.func12, Try.ntmps12
  unfold msL at HG hs0
  go_upto_region 1 with fail
  generalize (((w.alloc (.cells #[.int .i64 e, .int .i64 ho, .int .i64 u] 32)).alloc (.cells #[.int .i64 18, .int .i64 fr, .int .i64 dt, .int .i64 nm, .int .i64 vl, .int .i64 ep, .slice none 0 0, .slice none 0 0] 49)).alloc (.cells #[.int .i64 0, .int .i64 0, .int .i64 0] 32)) = V at *
  have c0 : V.cell? ⟨w.heap.size, 0, none⟩ = some (.int .i64 e) := HG.out.2.1.cell 0
  have c1 : V.cell? ⟨w.heap.size, 1, none⟩ = some (.int .i64 ho) := HG.out.2.1.cell 1
  have c2 : V.cell? ⟨w.heap.size, 2, none⟩ = some (.int .i64 u) := HG.out.2.1.cell 2
  go_wp2_with fail
  refine (wCheck_ok e ho u V h0 h1 h2).mono ?_
  rintro x w1 ⟨rfl, hb1⟩
  have hs1 := hb1.size
  have HG1 := Lib.hid (And.intro (HG.out.1.trans (hb1.mono HG.out.1.size)) (And.intro (HG.out.2.1.below hb1 (by omega)) (And.intro (HG.out.2.2.1.below hb1 (by omega)) (HG.out.2.2.2.below hb1 (by omega)))))
  clear c0 c1 c2 hb1
  have c0 : w1.cell? ⟨w.heap.size, 0, none⟩ = some (.int .i64 e) := HG1.out.2.1.cell 0
  have c1 : w1.cell? ⟨w.heap.size, 1, none⟩ = some (.int .i64 ho) := HG1.out.2.1.cell 1
  have c2 : w1.cell? ⟨w.heap.size, 2, none⟩ = some (.int .i64 u) := HG1.out.2.1.cell 2
  have m0 : w1.cell? ⟨w.heap.size + 1, 0, none⟩ = some (.int .i64 18) := HG1.out.2.2.1.cell 0
  have m1 : w1.cell? ⟨w.heap.size + 1, 1, none⟩ = some (.int .i64 fr) := HG1.out.2.2.1.cell 1
  have m2 : w1.cell? ⟨w.heap.size + 1, 2, none⟩ = some (.int .i64 dt) := HG1.out.2.2.1.cell 2
  have m3 : w1.cell? ⟨w.heap.size + 1, 3, none⟩ = some (.int .i64 nm) := HG1.out.2.2.1.cell 3
  have m4 : w1.cell? ⟨w.heap.size + 1, 4, none⟩ = some (.int .i64 vl) := HG1.out.2.2.1.cell 4
  have m5 : w1.cell? ⟨w.heap.size + 1, 5, none⟩ = some (.int .i64 ep) := HG1.out.2.2.1.cell 5
  have m6 : w1.cell? ⟨w.heap.size + 1, 6, none⟩ = some (.slice none 0 0) := HG1.out.2.2.1.cell 6
  have m7 : w1.cell? ⟨w.heap.size + 1, 7, none⟩ = some (.slice none 0 0) := HG1.out.2.2.1.cell 7
  go_wp2_with fail
  refine (wtime_any now w1).mono ?_
  rintro x w1' ⟨rfl, rfl⟩
  rw [k3]
  go_wp2_with fail
  refine (between_any tm 1 (1073741824 - now) w1).mono ?_
  rintro x w1' ⟨rfl, rfl⟩
  rw [k4]
  go_wp2_with fail
  refine (wsite_any fr w1).mono ?_
  rintro x w1' ⟨rfl, rfl⟩
  rw [k5]
  go_wp2_with fail
  refine (wtime_any ep w1).mono ?_
  rintro x w1' ⟨rfl, rfl⟩
  rw [k6]
  go_upto_region 3 with fail
  have hbq : Below w1.heap.size w1 (w1.alloc (.cells (rqC e ho u now tm 18 fr dt nm vl ep) 69)) := (Below.refl _ w1).alloc (Nat.le_refl _) _
  have gq := Blk.new w1 69 (rqC e ho u now tm 18 fr dt nm vl ep)
  have hsq : (w1.alloc (.cells (rqC e ho u now tm 18 fr dt nm vl ep) 69)).heap.size = w1.heap.size + 1 := by simp
  have HQ := Lib.hid (And.intro hbq gq)
  clear hbq gq
  unfold rqC at HQ hsq
  go_upto_region 4 with fail
  generalize (w1.alloc (.cells #[.int .i64 e, .int .i64 ho, .int .i64 u, .int .i64 now, .int .i64 tm, .int .i64 18, .int .i64 fr, .int .i64 dt, .int .i64 nm, .int .i64 vl, .int .i64 ep, .slice none 0 0, .slice none 0 0] 69)) = V2 at *
  have HS2 := Lib.hid hsq
  have hs2 : w1.heap.size + 1 ≤ V2.heap.size := by omega
  clear hsq
  obtain ⟨gq, hgq⟩ : ∃ gq, w1.heap.size = gq := ⟨_, rfl⟩
  rw [hgq] at HQ hs2 HS2 ⊢
  have hown0 := World.ownsMap_made V2 Try.prog 3 (fR gq)
  have hs3 : (V2.alloc (.map #[] 0)).heap.size = V2.heap.size + 1 := by simp
  have hmk : (Instr.makeMap 71 none).run Try.prog V2 = .ok (.map (some V2.heap.size)) (V2.alloc (.map #[] 0)) := run_makeMap 71 V2
  have key15 : keyOf Try.prog 3 (.int .i64 15) = some (.int .i64 15) := Maps.keyOf_int_mk Try.underlying3 (by decide)
  have key17 : keyOf Try.prog 3 (.int .i64 17) = some (.int .i64 17) := Maps.keyOf_int_mk Try.underlying3 (by decide)
  have key18 : keyOf Try.prog 3 (.int .i64 18) = some (.int .i64 18) := Maps.keyOf_int_mk Try.underlying3 (by decide)
  obtain ⟨w3, hr3, hown3, hg3⟩ := hown0.update law3 Try.underlying71 (by unfold maxLen; omega) key15 (fR_at gq 22)
  obtain ⟨w4, hr4, hown4, hg4⟩ := hown3.update law3 Try.underlying71 (by unfold maxLen; omega) key17 (fR_at gq 23)
  obtain ⟨w5, hr5, hown5, hg5⟩ := hown4.update law3 Try.underlying71 (by unfold maxLen; omega) key18 (fR_at gq 24)
  have hz5 : (zeroValue 70).run Try.prog w5 = .ok .nilFunc w5 := by kernel_rfl
  obtain ⟨zd, hzd⟩ := fR_some gq .nilFunc
  obtain ⟨vf, ps, hr6, hvf⟩ := hown5.look_ok law3 Try.underlying71 hz5 hzd key18
  have hta : ((((DataW.map []).put (.int .i64 15) (.lit (.int .i64 22))).put (.int .i64 17) (.lit (.int .i64 23))).put (.int .i64 18) (.lit (.int .i64 24)) : DataW Unit) = tabD := rfl
  have e22 : ((22 : Nat) : Int) = 22 := rfl
  have e23 : ((23 : Nat) : Int) = 23 := rfl
  have e24 : ((24 : Nat) : Int) = 24 := rfl
  rw [e22, e23, e24, hta, tab18] at hvf
  rw [e22, e23, e24, hta, has18] at hr6
  obtain rfl := fR_inv (k := 24) (by omega) hvf
  have hgA : V2.grownBy w5 (some V2.heap.size) := grown_tr (grown_tr (grown_tr (grown_alloc V2 _ _) hg3) hg4) hg5
  have hbA : Below V2.heap.size V2 w5 := ⟨hgA.os, hgA.tape, hgA.output, hgA.size, fun k hk => hgA.block k hk (fun e9 => by injection e9 with e9; omega)⟩
  have HA := Lib.hid (And.intro ((HG1.out.1.trans (HQ.out.1.mono (by omega))).trans (hbA.mono (by omega))) (And.intro (((HG1.out.2.2.1.below HQ.out.1 (by omega)).below hbA (by omega))) (And.intro (((HG1.out.2.2.2.below HQ.out.1 (by omega)).below hbA (by omega))) (HQ.out.2.below hbA (by omega)))))
  have hs5 := hgA.size
  have m0' : w5.cell? ⟨w.heap.size + 1, 0, none⟩ = some (.int .i64 18) := HA.out.2.1.cell 0
  clear hgA hbA hown0 hown3 hown4 hown5 hg3 hg4 hg5 hvf hta hzd hz5 key15 key17 key18
  go_upto_region 8 with fail
  go_wp2_with fail
  refine (HF.out gq w5 HA.out.2.2.2).mono ?_
  rintro x w6 ⟨⟨v6, rfl, ho6⟩, hB6, hg6⟩
  have hs6 := hg6.size
  have d0 : w6.cell? ⟨gq, 0, none⟩ = some (.int .i64 e') := hB6.cell 0
  have d1 : w6.cell? ⟨gq, 1, none⟩ = some (.int .i64 ho') := hB6.cell 1
  have d2 : w6.cell? ⟨gq, 2, none⟩ = some (.int .i64 u') := hB6.cell 2
  have g6 : Blk w6 (w.heap.size + 2) 32 #[.int .i64 0, .int .i64 0, .int .i64 0] := HA.out.2.2.1.grown hg6 (fun e9 => by injection e9 with e9; omega)
  have b6 : Below w.heap.size w w6 := HA.out.1.grown hg6 HA.out.1.size (fun b hb => by injection hb with hb; omega)
  clear c0 c1 c2 m0 m1 m2 m3 m4 m5 m6 m7 m0' hr3 hr4 hr5 hr6 hmk
  go_wp2_with (refine wpList_store_row rfl _ _ _ rfl (w.heap.size + 2) _ rfl rfl 32 _ g6 (by kernel_rfl) rfl (by simp [Value.oneCell']) ?_)
  refine bodyPost_ret (results_cell_tmp rfl _ _ (w.heap.size + 2) _ _ _ rfl (g6.setRow _) Try.underlying32 rfl (by kernel_rfl)) rfl ⟨below_setRow b6 (by omega) _, v6, rfl, ?_⟩
  exact own_base (own_keep ho6 (fun b hb => setRow_other _ _ _ _ (by have := own_block_ge ho6 b hb; omega))) (by omega)
end Go.Proofs.Ytggaaajkbnhofaa
