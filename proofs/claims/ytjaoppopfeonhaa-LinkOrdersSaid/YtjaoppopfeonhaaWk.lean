/- The walk of the reference's insert. Condition: at most 9000 flights, in the order of time. -/
import Derived.Test.YtjaoppopfeonhaaWj
namespace Go.Proofs.Ytjaoppopfeonhaa
open Go.RowKit
/-- flights in the order of time -/
def Mono (l : List Em) : Prop := ∀ (i j : Nat) (e f : Em), i < j → l[i]? = some e → l[j]? = some f → e.t ≤ f.t
theorem Evs.take {w : World} {A : Option Addr} {n : Nat} {l : List Ev} (h : Evs w A n l) {k : Nat} (hk : k ≤ n) : Evs w A k (l.take k) := by
  refine ⟨?_, fun e he => h.ev e (List.mem_of_mem_take he)⟩
  have h1 := h.rd.take hk
  rw [flat_take] at h1
  exact h1
theorem Evs.drop {w : World} {b off n : Nat} {l : List Ev} (h : Evs w (some ⟨b, off, none⟩) n l) {k : Nat} (hk : k < n) : Evs w (some ⟨b, off + k * 3, none⟩) (n - k) (l.drop k) := by
  refine ⟨?_, fun e he => h.ev e (List.mem_of_mem_drop he)⟩
  rw [← flat_drop]
  refine ⟨by rw [List.length_drop, h.rd.1]; omega, fun hn => ?_⟩
  obtain ⟨ad, hA, hb, hc⟩ := h.rd.2 (by omega)
  injection hA with hA
  subst hA
  refine ⟨_, rfl, hb, fun j u hu => ?_⟩
  rw [List.getElem?_drop] at hu
  have := hc (k * 3 + j) u hu
  rw [Addr.add_lit] at this ⊢
  rw [show off + k * 3 + j = off + (k * 3 + j) by omega]
  exact this
theorem ownE_old {w W : World} {v : Value} {n : Nat} {xs : List Value} {l : List Ev} (ho : W.ownsRow w.heap.size 69 3 v n xs) (hn : n = l.length) (hxs : xs = l.flatMap encEv) (hold : ∀ e ∈ l, EvR w e) (hb : Below w.heap.size w W) : OwnE W w.heap.size v l := by
  subst hn hxs
  refine ⟨ho, fun e he => ⟨(hold e he).up hb, fun ad h0 hA e9 => ?_⟩⟩
  obtain ⟨ad', hA', hlt, _⟩ := (hold e he).2 h0
  rw [hA] at hA'
  cases hA'
  have := own_block_ge ho _ e9
  omega
set_option linter.unusedSimpArgs false in
set_option maxRecDepth 100000 in
set_option maxHeartbeats 4000000 in
theorem refinsert_any (A0 : Option Addr) (m c0 : Nat) (es : List Ev) (t n : Int) (A : Option Addr) (c : Nat) (p : List Nat) (w : World) (h : Evs w A0 m es) (hM : Mono (es.map Ev.em)) (hx : EvR w ⟨t, n, A, c, p⟩) (hl : m ≤ 9000) (hc0 : m ≤ c0) (hc1 : c0 ≤ maxLen) :
    Calls Try.prog 45 #[.slice A0 m c0, .agg (evC t n A p.length c)] w fun e w' => ∃ v', e = .returned v' ∧ OwnE w' w.heap.size v' (es.take (atE (laterB t) (es.map Ev.em)) ++ ⟨t, n, A, c, p⟩ :: es.drop (atE (laterB t) (es.map Ev.em))) ∧ Below w.heap.size w w' := by
  unfold evC
  have hlen := h.count
  obtain ⟨i2, hi2, hy0, hy1, hy2⟩ := info_parts info69b
  have HI := Lib.hid (And.intro hi2 (And.intro hy0 (And.intro hy1 hy2)))
  clear hi2 hy0 hy1 hy2
  unfold maxLen at hc1
  have hb0 : Below w.heap.size w (w.alloc (.cells #[.int .i64 t, .int .i64 n, .slice A p.length c] 69)) := (Below.refl _ _).alloc (Nat.le_refl _) _
  have g0 := Blk.new w 69 #[.int .i64 t, .int .i64 n, .slice A p.length c]
  have hs0 : (w.alloc (.cells #[.int .i64 t, .int .i64 n, .slice A p.length c] 69)).heap.size = w.heap.size + 1 := by simp
  have HX := Lib.hid (And.intro h (And.intro hM (And.intro hx hlen)))
  clear h hM hx hlen
  obtain ⟨Q, hQ⟩ : ∃ Q : Ending → World → Prop, Q = fun e w' => ∃ v', e = .returned v' ∧ OwnE w' w.heap.size v' (es.take (atE (laterB t) (es.map Ev.em)) ++ ⟨t, n, A, c, p⟩ :: es.drop (atE (laterB t) (es.map Ev.em))) ∧ Below w.heap.size w w' := ⟨_, rfl⟩
  rw [← hQ]
  have HQ := Lib.hid hQ
  clear hQ
  go_enter Try.func45, Try.ntmps45
  go_wp2_with fail
  have HG := Lib.hid (And.intro g0 (And.intro hb0 hs0))
  clear g0 hb0 hs0
  generalize (w.alloc (.cells #[.int .i64 t, .int .i64 n, .slice A p.length c] 69)) = W0 at *
  go_loopw [5] (fun u5 W => ∃ (k : Nat), k ≤ m ∧ u5 = .int .i64 (k : Nat) ∧ (∀ j x, k ≤ j → (es.map Ev.em)[j]? = some x → laterB t x = true) ∧ Below W0.heap.size W0 W) (fun u5 _ => (intOf u5).toNat)
  case atStart => exact ⟨m, by omega, rfl, fun j x hj hx => absurd (List.getElem?_eq_some_iff.1 hx).1 (by rw [List.length_map, HX.out.2.2.2]; omega), Below.refl _ _⟩
  case round =>
    obtain ⟨k, hk, rfl, hlate, hb⟩ := hrel
    have hbw := HG.out.2.1.trans (hb.mono HG.out.2.1.size)
    have gx := HG.out.1.below hb (by have := HG.out.2.2; omega)
    have x0 : wr.cell? ⟨w.heap.size, 0, none⟩ = some (.int .i64 t) := gx.cell 0
    have x1 : wr.cell? ⟨w.heap.size, 1, none⟩ = some (.int .i64 n) := gx.cell 1
    have x2 : wr.cell? ⟨w.heap.size, 2, none⟩ = some (.slice A p.length c) := gx.cell 2
    have hsr : w.heap.size + 1 ≤ wr.heap.size := by have := hb.size; have := HG.out.2.2; omega
    have HB := Lib.hid hbw
    have HR := Lib.hid (And.intro hlate (And.intro hb gx))
    clear hlate hb hbw gx
    go_upto_region 2 with fail
    go_cut [21] from 9 to 20 (fun s wx => ∃ bb, s = .bool bb ∧ Below wr.heap.size wr wx ∧ (bb = true → 0 < k ∧ ∃ x, (es.map Ev.em)[k - 1]? = some x ∧ laterB t x = true) ∧ (bb = false → k = 0 ∨ ∃ x, (es.map Ev.em)[k - 1]? = some x ∧ laterB t x = false))
    case first =>
      by_cases hk0 : k = 0
      · have hk0' : decide ((0 : Int) < (k : Int)) = false := by rw [decide_eq_false]; omega
        have hk0n : decide (0 < k) = false := by rw [decide_eq_false]; omega
        have HK := Lib.hid hk0
        clear hk0
        go_quiet (fail)
        go_wp2_with fail
        go_meet
        exact ⟨false, rfl, below_drewN (Below.refl _ _) _, nofun, fun _ => .inl HK.out⟩
      · have hkp : 0 < k := by omega
        have hkp' : (0 : Int) < k := by omega
        have hl1 : k - 1 < es.length := by have := HX.out.2.2.2; omega
        obtain ⟨b, off, rfl, hbw, hc⟩ := HX.out.1.cells (by omega)
        obtain ⟨f0, f1, f2⟩ := hc (k - 1) _ (List.getElem?_eq_getElem hl1)
        replace f0 := (HB.out.cell (p := ⟨b, off + (k - 1) * 3, none⟩) hbw).trans f0
        have HS : Hid ((es.map Ev.em)[k - 1]? = some es[k - 1].em) := by
          show _ = _
          rw [List.getElem?_map, List.getElem?_eq_getElem hl1]
          rfl
        clear hc f1 f2
        generalize hlk : es[k - 1] = ev at *
        obtain ⟨et, en, eA, ec, ep⟩ := ev
        dsimp only at f0
        dsimp only [Ev.em] at HS
        clear hlk
        have kw : IntKind.i64.wrap ((k : Int) - 1) = (k : Int) - 1 := by rw [IntWalk.i64_in _ (by omega)]
        have kw0 : (0 : Int) ≤ (k : Int) - 1 := by omega
        have kw1 : ((k : Int) - 1).toNat = k - 1 := by omega
        have kw2 : (k : Int) - 1 < m := by omega
        have kw3 : (1 : Int) ≤ k := by omega
        have kw4 : (k : Int) < (m : Int) + 1 := by omega
        by_cases hgt : t < et
        · have HGT := Lib.hid hgt
          go_quiet (fail)
          go_wp2_with fail
          go_meet
          exact ⟨true, rfl, below_drewN (Below.refl _ _) _, fun _ => ⟨hkp, _, HS.out, by simpa [laterB] using HGT.out⟩, nofun⟩
        · have HGT := Lib.hid hgt
          go_quiet (fail)
          go_wp2_with fail
          go_meet
          exact ⟨false, rfl, below_drewN (Below.refl _ _) _, nofun, fun _ => .inr ⟨_, HS.out, by simpa [laterB] using HGT.out⟩⟩
    case rest =>
      obtain ⟨bb, rfl, hb4, hbt, hbf⟩ := hcut
      have HB4 := Lib.hid (And.intro hb4 (And.intro hbt hbf))
      have hs4 := hb4.size
      clear hb4 hbt hbf x0 x1 x2
      cases bb with
      | true =>
        have hkp := (HB4.out.2.1 rfl).1
        have hk1 : (1 : Int) ≤ k := by omega
        go_wp2_with fail
        go_roundw
        case rel =>
          refine ⟨k - 1, by omega, by go_num, fun j x hj hx => ?_, HR.out.2.1.trans (HB4.out.1.mono HR.out.2.1.size)⟩
          rcases Nat.lt_or_ge j k with h | h
          · obtain rfl : j = k - 1 := by omega
            obtain ⟨_, y, hy, hly⟩ := HB4.out.2.1 rfl
            rw [hy] at hx
            injection hx with hx
            rw [← hx]
            exact hly
          · exact HR.out.1 j x h hx
        case measure => simp [intOf]; omega
      | false =>
        have hq : atE (laterB t) (es.map Ev.em) = k := by
          have hall : ∀ j x, j < k → (es.map Ev.em)[j]? = some x → laterB t x = false := by
            intro j x hj hx
            rcases HB4.out.2.2 rfl with h0 | ⟨y, hy, hly⟩
            · omega
            · have h1 : x.t ≤ y.t := by
                rcases Nat.lt_or_ge j (k - 1) with h | h
                · exact HX.out.2.1 j (k - 1) x y h hx hy
                · obtain rfl : j = k - 1 := by omega
                  rw [hx] at hy
                  injection hy with hy
                  rw [hy]
                  exact Int.le_refl _
              simp only [laterB, decide_eq_false_iff_not] at hly ⊢
              omega
          rcases Nat.lt_or_ge k es.length with h | h
          · exact atE_some hall (by rw [List.getElem?_map, List.getElem?_eq_getElem h]; rfl) (HR.out.1 k _ (Nat.le_refl _) (by rw [List.getElem?_map, List.getElem?_eq_getElem h]; rfl))
          · obtain rfl : k = es.length := by have := HX.out.2.2.2; omega
            exact atE_none hall
        have hQ := HQ.out
        rw [hq] at hQ
        have HQ2 := Lib.hid hQ
        clear hQ HQ hq
        have hbw4 : Below w.heap.size w wc := HB.out.trans (HB4.out.1.mono HB.out.size)
        have hE1 := (HX.out.1.up hbw4).take hk
        have gx := HR.out.2.2.below HB4.out.1 (by omega)
        have HA := Lib.hid (And.intro hbw4 (And.intro hE1 gx))
        clear hbw4 hE1 gx
        have hkc : (k : Int) ≤ c0 := by omega
        go_upto_region 6 with (at_builtin; go_must (refine wpList_append_any wc rfl (.tmp 24) (.tmp 27) _ rfl w.heap.size 69 i2 _ 3 40 Try.underlying24 HI.out.1 HI.out.2.1 HI.out.2.2.1 HI.out.2.2.2 rfl (by omega) (.slice none 0 0) 0 [] rfl (World.ownsRow_nil wc _ 69 3) wc.heap.size A0 k c0 ((es.take k).flatMap encEv) rfl HA.out.2.1.rd (encEv_one _) (by simp only [maxLen]; omega) (by omega) (HA.out.1.size) ?_; intro v1 w1 ho1 hg1 hv1; simp only [Nat.zero_add, List.nil_append] at ho1; obtain ⟨A1, c1, rfl, hca1, hcm1, hr1⟩ := own_slice ho1; have gx1 := HA.out.2.2.grown hg1 (by simp [Value.ownBlock]); have y0 : w1.cell? ⟨w.heap.size, 0, none⟩ = some (.int .i64 t) := gx1.cell 0; have y1 : w1.cell? ⟨w.heap.size, 1, none⟩ = some (.int .i64 n) := gx1.cell 1; have y2 : w1.cell? ⟨w.heap.size, 2, none⟩ = some (.slice A p.length c) := gx1.cell 2; have H1 := Lib.hid (And.intro ho1 (And.intro hg1 hv1)); clear ho1 hg1 hv1 gx1 hr1))
        obtain ⟨hb1w, hg1n, hs1w⟩ : Below w.heap.size w w1 ∧ Below wc.heap.size wc w1 ∧ wc.heap.size ≤ w1.heap.size := ⟨HA.out.1.grown H1.out.2.1 HA.out.1.size (by intro g hg; simp [Value.ownBlock] at hg), (Below.refl _ wc).grown H1.out.2.1 (Nat.le_refl _) (by intro g hg; simp [Value.ownBlock] at hg), H1.out.2.1.size⟩
        have ho2 := own_alloc H1.out.1 (.cells #[.int .i64 t, .int .i64 n, .slice A p.length c] 69)
        have her := elem_reads w1 #[.int .i64 t, .int .i64 n, .slice A p.length c] 69
        have hs2 : (w1.alloc (.cells #[.int .i64 t, .int .i64 n, .slice A p.length c] 69)).heap.size = w1.heap.size + 1 := by simp
        have hb2w : Below w.heap.size w (w1.alloc (.cells #[.int .i64 t, .int .i64 n, .slice A p.length c] 69)) := hb1w.alloc hb1w.size _
        have H2 := Lib.hid (And.intro ho2 (And.intro her (And.intro hs2 hb2w)))
        have hwc := HA.out.1.size
        clear ho2 her hs2 hb2w hb1w hg1n
        go_upto_region 7 with (at_builtin; go_must (refine wpList_append_any (w1.alloc (.cells #[.int .i64 t, .int .i64 n, .slice A p.length c] 69)) rfl (.tmp 29) (.tmp 31) _ rfl w.heap.size 69 i2 _ 3 40 Try.underlying24 HI.out.1 HI.out.2.1 HI.out.2.2.1 HI.out.2.2.2 rfl (by omega) (.slice A1 k c1) k ((es.take k).flatMap encEv) rfl H2.out.1 (w1.heap.size + 1) (some ⟨w1.heap.size, 0, none⟩) 1 1 [.int .i64 t, .int .i64 n, .slice A p.length c] rfl H2.out.2.1 (by simp [Value.oneCell']) (by simp only [maxLen]; omega) (by omega) (by have := H2.out.2.2.1; omega) ?_; intro v3 w3 ho3 hg3 hv3; obtain ⟨A3, c3, rfl, hca3, hcm3, hr3⟩ := own_slice ho3; have H3 := Lib.hid (And.intro ho3 (And.intro hg3 hv3)); clear ho3 hg3 hv3 hr3 y0 y1 y2))
        have hb3w : Below w.heap.size w w3 := H2.out.2.2.2.grown H3.out.2.1 H2.out.2.2.2.size (own_block_ge H2.out.1)
        have HB3 := Lib.hid hb3w
        clear hb3w
        rcases Nat.lt_or_ge k m with hkm | hkm
        · obtain ⟨b, off, rfl, hbw, hc⟩ := HX.out.1.cells (by omega)
          have hE3 := (HX.out.1.up HB3.out).drop hkm
          have HE3 := Lib.hid hE3
          clear hc hE3
          go_wp2_with (at_builtin; go_must (refine wpList_append_any w3 rfl (.tmp 33) (.tmp 36) _ rfl w.heap.size 69 i2 _ 3 40 Try.underlying24 HI.out.1 HI.out.2.1 HI.out.2.2.1 HI.out.2.2.2 rfl (by omega) (.slice A3 (k + 1) c3) (k + 1) ((es.take k).flatMap encEv ++ [.int .i64 t, .int .i64 n, .slice A p.length c]) rfl H3.out.1 w3.heap.size (some ⟨b, off + k * 3, none⟩) (m - k) (c0 - k) ((es.drop k).flatMap encEv) rfl HE3.out.rd (encEv_one _) (by simp only [maxLen]; omega) (by omega) (HB3.out.size) ?_; intro v4 w4 ho4 hg4 hv4))
          rw [HQ2.out]
          have hlen := HX.out.2.2.2
          have hb4w : Below w.heap.size w w4 := HB3.out.grown hg4 HB3.out.size (own_block_ge H3.out.1)
          refine ⟨v4, rfl, ownE_old ho4 (by simp; omega) (by simp [List.flatMap_append, List.flatMap_cons, encEv]) ?_ hb4w, hb4w⟩
          intro e he
          rcases List.mem_append.1 he with he | he
          · exact HX.out.1.ev e (List.mem_of_mem_take he)
          · rcases List.mem_cons.1 he with rfl | he
            · exact HX.out.2.2.1
            · exact HX.out.1.ev e (List.mem_of_mem_drop he)
        · obtain rfl : k = m := by omega
          go_wp2_with (at_builtin; go_must (refine wpList_append_any w3 rfl (.tmp 33) (.tmp 36) _ rfl w.heap.size 69 i2 _ 3 40 Try.underlying24 HI.out.1 HI.out.2.1 HI.out.2.2.1 HI.out.2.2.2 rfl (by omega) (.slice A3 (k + 1) c3) (k + 1) ((es.take k).flatMap encEv ++ [.int .i64 t, .int .i64 n, .slice A p.length c]) rfl H3.out.1 w3.heap.size _ 0 _ [] rfl ⟨by simp, fun h => absurd h (by omega)⟩ (by simp) (by simp only [maxLen]; omega) (by omega) (HB3.out.size) ?_; intro v4 w4 ho4 hg4 hv4))
          rw [HQ2.out]
          have hlen := HX.out.2.2.2
          have hb4w : Below w.heap.size w w4 := HB3.out.grown hg4 HB3.out.size (own_block_ge H3.out.1)
          have hdr : es.drop k = [] := List.drop_of_length_le (by omega)
          refine ⟨v4, rfl, ownE_old ho4 (by simp; omega) (by rw [hdr]; simp [List.flatMap_append, List.flatMap_cons, encEv]) ?_ hb4w, hb4w⟩
          intro e he
          rcases List.mem_append.1 he with he | he
          · exact HX.out.1.ev e (List.mem_of_mem_take he)
          · rcases List.mem_cons.1 he with rfl | he
            · exact HX.out.2.2.1
            · exact HX.out.1.ev e (List.mem_of_mem_drop he)
end Go.Proofs.Ytjaoppopfeonhaa
