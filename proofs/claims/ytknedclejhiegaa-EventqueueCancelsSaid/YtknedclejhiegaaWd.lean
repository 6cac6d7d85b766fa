/- The walks of Copy and events. Conditions: sizes, as named. -/
import Derived.Test.YtknedclejhiegaaWc
import Derived.Deep.Cut
namespace Go.Proofs.Ytknedclejhiegaa
open Go.RowKit
set_option maxRecDepth 100000 in
set_option maxHeartbeats 1000000 in
theorem Copy_any (t n k o : Int) (A : Option Addr) (c : Nat) (p : List Nat) (w : World) (hR : Reads w w.heap.size 1 A p.length (u8s p)) (hp : p.length ≤ 100000) :
    Calls Try.prog 39 #[.agg (evC t n k o A p.length c)] w (CopyR w ⟨t, n, k, o, p⟩) := by
  unfold evC
  obtain ⟨i0, hi0, hz0, hz1, hz2⟩ := info_parts info5b
  have HI := Lib.hid (And.intro hi0 (And.intro hz0 (And.intro hz1 hz2)))
  clear hi0 hz0 hz1 hz2
  have hb : Below w.heap.size w ((w.alloc (.cells #[.int .i64 t, .int .i64 n, .int .i64 k, .int .i64 o, .slice A p.length c] 32)).alloc (.cells #[.int .i64 0, .int .i64 0, .int .i64 0, .int .i64 0, .slice none 0 0] 32)) := ((Below.refl _ _).alloc (Nat.le_refl _) _).alloc (by simp) _
  have g0 : Blk ((w.alloc (.cells #[.int .i64 t, .int .i64 n, .int .i64 k, .int .i64 o, .slice A p.length c] 32)).alloc (.cells #[.int .i64 0, .int .i64 0, .int .i64 0, .int .i64 0, .slice none 0 0] 32)) w.heap.size 32 _ := (Blk.new w 32 #[.int .i64 t, .int .i64 n, .int .i64 k, .int .i64 o, .slice A p.length c]).alloc _
  have g1 := Blk.new (w.alloc (.cells #[.int .i64 t, .int .i64 n, .int .i64 k, .int .i64 o, .slice A p.length c] 32)) 32 #[.int .i64 0, .int .i64 0, .int .i64 0, .int .i64 0, .slice none 0 0]
  rw [World.size_alloc] at g1
  have hsz : ((w.alloc (.cells #[.int .i64 t, .int .i64 n, .int .i64 k, .int .i64 o, .slice A p.length c] 32)).alloc (.cells #[.int .i64 0, .int .i64 0, .int .i64 0, .int .i64 0, .slice none 0 0] 32)).heap.size = w.heap.size + 2 := by simp
  have HX := Lib.hid (And.intro hR hb)
  clear hR hb
  go_enter Try.func39, Try.ntmps39
  go_upto_region 2 with fail
  generalize ((w.alloc (.cells #[.int .i64 t, .int .i64 n, .int .i64 k, .int .i64 o, .slice A p.length c] 32)).alloc (.cells #[.int .i64 0, .int .i64 0, .int .i64 0, .int .i64 0, .slice none 0 0] 32)) = W at *
  have d4 : W.cell? ⟨w.heap.size, 4, none⟩ = some (.slice A p.length c) := g0.cell 4
  have HG0 := Lib.hid (And.intro g0 g1)
  have HSZ := Lib.hid hsz
  clear g0 g1 hsz
  go_upto_region 3 with (at_builtin; go_must (refine wpList_append_any W rfl (.tmp 4) (.tmp 6) _ rfl W.heap.size 5 i0 _ 1 1 Try.underlying30 HI.out.1 HI.out.2.1 HI.out.2.2.1 HI.out.2.2.2 rfl (by omega) (.slice none 0 0) 0 [] rfl (World.ownsRow_nil W _ 5 1) W.heap.size A p.length c (u8s p) rfl (HX.out.1.up HX.out.2) (u8s_one _) (by simp only [maxLen]; omega) (by omega) (Nat.le_refl _) ?_; intro v1 w1 hown1 hg1 _; simp only [Nat.zero_add, List.nil_append] at hown1; obtain ⟨A1, c1, rfl, hc1, hm1, hr1⟩ := own_slice hown1; have G0 := HG0.out.1.grown hg1 (by simp [Value.ownBlock]); have G1 := HG0.out.2.grown hg1 (by simp [Value.ownBlock]); have f4 : w1.frozen? ⟨w.heap.size, 4, none⟩ = false := G0.frozen 4; have a4 : w1.cell? ⟨w.heap.size, 4, none⟩ = some (.slice A p.length c) := G0.cell 4; have hb1 : Below W.heap.size W w1 := (Below.refl _ W).grown hg1 (Nat.le_refl _) (by simp [Value.ownBlock]); have HH := Lib.hid (And.intro (own_addr hown1) (And.intro hb1 (And.intro G0 (And.intro G1 (And.intro hc1 (And.intro hm1 hr1)))))); clear hown1 hb1 G0 G1 hg1 hc1 hm1 hr1))
  obtain ⟨hfar, hb1, G0, G1, hc1, hm1, hr1⟩ := HH.out
  have H1 := Lib.hid (And.intro hr1 (And.intro hb1 (And.intro hfar (And.intro hc1 (And.intro hm1 HSZ.out)))))
  have HG := Lib.hid (And.intro G0 G1)
  clear hr1 hb1 hfar hc1 hm1 G0 G1 HH d4 a4 f4
  have G0 : Blk (w1.setCell ⟨w.heap.size, 4, none⟩ (.slice A1 p.length c1)) w.heap.size 32 #[.int .i64 t, .int .i64 n, .int .i64 k, .int .i64 o, .slice A1 p.length c1] := HG.out.1.set_ 4 _
  have G1 := HG.out.2.far (p := ⟨w.heap.size, 4, none⟩) (by simp) (.slice A1 p.length c1)
  have hb2 : Below W.heap.size W w1 := H1.out.2.1
  have hbw : Below w.heap.size w (w1.setCell ⟨w.heap.size, 4, none⟩ (.slice A1 p.length c1)) := (HX.out.2.trans (hb2.mono HX.out.2.size)).setCell (Nat.le_refl _) _
  have hr2 : Reads (w1.setCell ⟨w.heap.size, 4, none⟩ (.slice A1 p.length c1)) w1.heap.size 1 A1 p.length (u8s p) := by
    refine ⟨H1.out.1.1, fun hn => ?_⟩
    obtain ⟨ad, hA, hlt, hc⟩ := H1.out.1.2 hn
    refine ⟨ad, hA, hlt, fun j u hu => ?_⟩
    rw [World.cell?_setCell_other]
    · exact hc j u hu
    · intro e
      have h1 := H1.out.2.2.1 ad hn hA
      have h2 := congrArg Addr.block e
      rw [block_of_add] at h2
      have h3 := H1.out.2.2.2.2.2
      simp only at h2
      omega
  have hz2 : (w1.setCell ⟨w.heap.size, 4, none⟩ (.slice A1 p.length c1)).heap.size = w1.heap.size := by simp
  rw [← hz2] at hr2
  have HW := Lib.hid (And.intro hbw (And.intro hr2 hz2))
  clear hbw hr2 hz2 HG
  generalize w1.setCell ⟨w.heap.size, 4, none⟩ (.slice A1 p.length c1) = W2 at *
  have a0 : W2.cell? ⟨w.heap.size, 0, none⟩ = some (.int .i64 t) := G0.cell 0
  have a1 : W2.cell? ⟨w.heap.size, 1, none⟩ = some (.int .i64 n) := G0.cell 1
  have a2 : W2.cell? ⟨w.heap.size, 2, none⟩ = some (.int .i64 k) := G0.cell 2
  have a3 : W2.cell? ⟨w.heap.size, 3, none⟩ = some (.int .i64 o) := G0.cell 3
  have a4 : W2.cell? ⟨w.heap.size, 4, none⟩ = some (.slice A1 p.length c1) := G0.cell 4
  have HG := Lib.hid G1
  clear G0 G1
  go_wp2_with (refine wpList_store_row rfl _ _ _ rfl (w.heap.size + 1) _ rfl rfl 32 _ HG.out (by kernel_rfl) rfl (by simp [Value.oneCell']) ?_)
  have GR := HG.out.setRow #[.int .i64 t, .int .i64 n, .int .i64 k, .int .i64 o, .slice A1 p.length c1]
  have hne : ∀ ad, 0 < p.length → A1 = some ad → w.heap.size + 2 ≤ ad.block := by
    intro ad h0 hA
    have h1 := H1.out.2.2.1 ad h0 hA
    have h3 := H1.out.2.2.2.2.2
    omega
  refine bodyPost_ret (v := .agg (evC t n k o A1 p.length c1)) (results_cell1 (t := 32) rfl _ _ (w.heap.size + 1) _ _ rfl GR Try.underlying32 rfl (by kernel_rfl)) rfl ⟨below_setRow HW.out.1 (by omega) _, A1, c1, rfl, ?_, H1.out.2.2.2.1, H1.out.2.2.2.2.1, fun ad h0 hA => by have := hne ad h0 hA; omega⟩
  have hr := (HW.out.2.1.row (g := w.heap.size + 1) (fun ad h0 hA => by have := hne ad h0 hA; omega) #[.int .i64 t, .int .i64 n, .int .i64 k, .int .i64 o, .slice A1 p.length c1])
  exact hr.more (by simp)
/-- own events: a row of its own, each with its bytes elsewhere -/
structure OwnE (W : World) (base : Nat) (v : Value) (l : List Ev) : Prop where
  own : W.ownsRow base 32 5 v l.length (l.flatMap encEv)
  ev : ∀ e ∈ l, EvR W e ∧ ∀ ad, 0 < e.p.length → e.A = some ad → v.ownBlock ≠ some ad.block
theorem OwnE.nil (W : World) (base : Nat) : OwnE W base (.slice none 0 0) [] := ⟨World.ownsRow_nil _ _ _ _, nofun⟩
theorem OwnE.below {W W' : World} {base : Nat} {v : Value} {l : List Ev} (h : OwnE W base v l) (hb : Below W.heap.size W W') : OwnE W' base v l := ⟨own_below h.own hb, fun e he => ⟨(h.ev e he).1.up hb, (h.ev e he).2⟩⟩
theorem evR_grown {W W' : World} {v : Value} {e : Ev} (h : EvR W e) (hf : ∀ ad, 0 < e.p.length → e.A = some ad → v.ownBlock ≠ some ad.block) (hg : W.grownBy W' v.ownBlock) : EvR W' e := by
  refine ⟨h.1, fun hn => ?_⟩
  obtain ⟨ad, hA, hb, hc⟩ := h.2 hn
  refine ⟨ad, hA, Nat.lt_of_lt_of_le hb hg.size, fun j u hu => ?_⟩
  refine (World.cell?_of_block (hg.block _ (by rw [block_of_add]; exact hb) ?_)).trans (hc j u hu)
  rw [block_of_add]
  exact fun e1 => hf ad hn hA e1.symm
theorem far_grown {W : World} {v v' : Value} {e : Ev} (h : EvR W e) (hf : ∀ ad, 0 < e.p.length → e.A = some ad → v.ownBlock ≠ some ad.block) (hv : v'.ownBlock = v.ownBlock ∨ v'.ownBlock = some W.heap.size) : ∀ ad, 0 < e.p.length → e.A = some ad → v'.ownBlock ≠ some ad.block := by
  intro ad hn hA
  obtain ⟨ad', hA', hb, _⟩ := h.2 hn
  rw [hA] at hA'
  cases hA'
  rcases hv with e | e
  · rw [e]; exact hf ad hn hA
  · rw [e]; intro h9; injection h9 with h9; omega
theorem OwnE.push {W W' : World} {base : Nat} {v v' : Value} {l : List Ev} {x : Ev} (h : OwnE W base v l) (ho : W'.ownsRow base 32 5 v' (l.length + 1) (l.flatMap encEv ++ encEv x)) (hg : W.grownBy W' v.ownBlock) (hv : v'.ownBlock = v.ownBlock ∨ v'.ownBlock = some W.heap.size)
    (hx : EvR W x) (hf : ∀ ad, 0 < x.p.length → x.A = some ad → v.ownBlock ≠ some ad.block) : OwnE W' base v' (l ++ [x]) := by
  refine ⟨?_, fun e he => ?_⟩
  · rw [List.length_append, List.length_singleton, List.flatMap_append]
    exact (by simpa using ho)
  · rcases List.mem_append.1 he with he | he
    · exact ⟨evR_grown (h.ev e he).1 (h.ev e he).2 hg, far_grown (h.ev e he).1 (h.ev e he).2 hv⟩
    · rw [List.mem_singleton] at he
      subst he
      exact ⟨evR_grown hx hf hg, far_grown hx hf hv⟩
theorem OwnE.evs {W : World} {base : Nat} {A : Option Addr} {n c : Nat} {l : List Ev} (h : OwnE W base (.slice A n c) l) : Evs W A n l ∧ n = l.length ∧ n ≤ c ∧ c ≤ maxLen := by
  obtain ⟨A', c', hv, h1, h2, h3⟩ := own_slice h.own
  injection hv with e1 e2 e3
  subst e1 e2 e3
  exact ⟨⟨h3, fun e he => (h.ev e he).1⟩, rfl, h1, h2⟩
theorem OwnE.form {W : World} {base : Nat} {v : Value} {l : List Ev} (h : OwnE W base v l) : ∃ A c, v = .slice A l.length c := by
  obtain ⟨A', c', hv, _⟩ := own_slice h.own
  exact ⟨A', c', hv⟩
/-- the bytes of these events lie in new blocks -/
def NewP (low : Nat) (l : List Ev) : Prop := ∀ e ∈ l, ∀ ad, 0 < e.p.length → e.A = some ad → low ≤ ad.block
/-- what events answers -/
structure EventsR (w : World) (l : List Em) (e : Ending) (w' : World) : Prop where
  bel : Below w.heap.size w w'
  val : ∃ v es, e = .returned v ∧ OwnE w' w.heap.size v es ∧ es.map Ev.em = l ∧ NewP w.heap.size es
set_option maxRecDepth 100000 in
set_option maxHeartbeats 2000000 in
theorem events_any (A : Option Addr) (m c : Nat) (l : List Ev) (w : World) (hR : Evs w A m l) (hm : m ≤ 10000) (hp : ∀ e ∈ l, e.p.length ≤ 100000) :
    Calls Try.prog 35 #[.slice A m c] w (EventsR w (l.map Ev.em)) := by
  have hlen := hR.count
  obtain ⟨i2, hi2, hy0, hy1, hy2⟩ := info_parts info32b
  have HI := Lib.hid (And.intro hi2 (And.intro hy0 (And.intro hy1 hy2)))
  clear hi2 hy0 hy1 hy2
  have HX := Lib.hid (And.intro hR (And.intro hlen hp))
  clear hR hlen hp
  go_enter Try.func35, Try.ntmps35
  go_wp2_with fail
  go_loopw [3, 5, 8] (fun u3 _ u8 W => ∃ (k : Nat) (es : List Ev), k ≤ m ∧ u8 = .int .i64 (k : Nat) ∧ es.map Ev.em = (l.take k).map Ev.em ∧ OwnE W w.heap.size u3 es ∧ NewP w.heap.size es ∧ Below w.heap.size w W) (fun _ _ u8 _ => m + 1 - (intOf u8).toNat)
  case atStart => exact ⟨0, [], by omega, rfl, rfl, OwnE.nil _ _, nofun, Below.refl _ _⟩
  case round =>
    obtain ⟨k, es, hk, rfl, hes, hown, hnew, hb⟩ := hrel
    have HNP := Lib.hid hnew
    clear hnew
    have hel : es.length = k := by
      have := congrArg List.length hes
      rw [List.length_map, List.length_map, List.length_take, HX.out.2.1] at this
      omega
    obtain ⟨A3, c3, rfl⟩ := hown.form
    have HO := Lib.hid (And.intro hes (And.intro hown hb))
    have HEL := Lib.hid hel
    have hel2 : es.length ≤ 10000 := by omega
    clear hes hown hb hel
    by_cases hlt : k < m
    · have hkl : k < l.length := by have := HX.out.2.1; omega
      obtain ⟨b, off, rfl, hbw, hc⟩ := HX.out.1.cells (by omega)
      obtain ⟨d0, d1, d2, d3, d4⟩ := hc k _ (List.getElem?_eq_getElem hkl)
      replace d0 := (HO.out.2.2.cell (p := ⟨b, off + k * 5, none⟩) hbw).trans d0
      replace d1 := (HO.out.2.2.cell (p := ⟨b, off + k * 5 + 1, none⟩) hbw).trans d1
      replace d2 := (HO.out.2.2.cell (p := ⟨b, off + k * 5 + 2, none⟩) hbw).trans d2
      replace d3 := (HO.out.2.2.cell (p := ⟨b, off + k * 5 + 3, none⟩) hbw).trans d3
      replace d4 := (HO.out.2.2.cell (p := ⟨b, off + k * 5 + 4, none⟩) hbw).trans d4
      have HS : Hid ((l.take (k + 1)).map Ev.em = (l.take k).map Ev.em ++ [l[k].em]) := by
        show _ = _
        rw [List.take_succ_eq_append_getElem hkl, List.map_append]
        rfl
      have hxr := (HX.out.1.ev _ (List.getElem_mem hkl)).up HO.out.2.2
      have hxp := HX.out.2.2 _ (List.getElem_mem hkl)
      clear hc
      generalize l[k] = ev at *
      obtain ⟨et, en, ek, eo, eA, ec, ep⟩ := ev
      dsimp only at d0 d1 d2 d3 d4 hxp
      have HXR := Lib.hid hxr
      clear hxr
      have ik : (k : Int) < m := by omega
      go_upto_region 5 with fail
      have g1 := Blk.new wr 32 #[.int .i64 et, .int .i64 en, .int .i64 ek, .int .i64 eo, .slice eA ep.length ec]
      have hb1 : Below wr.heap.size wr (wr.alloc (.cells #[.int .i64 et, .int .i64 en, .int .i64 ek, .int .i64 eo, .slice eA ep.length ec] 32)) := (Below.refl _ _).alloc (Nat.le_refl _) _
      generalize (wr.alloc (.cells #[.int .i64 et, .int .i64 en, .int .i64 ek, .int .i64 eo, .slice eA ep.length ec] 32)) = W1 at *
      clear d0 d1 d2 d3 d4
      have d0 : W1.cell? ⟨wr.heap.size, 0, none⟩ = some (.int .i64 et) := g1.cell 0
      have d1 : W1.cell? ⟨wr.heap.size, 1, none⟩ = some (.int .i64 en) := g1.cell 1
      have d2 : W1.cell? ⟨wr.heap.size, 2, none⟩ = some (.int .i64 ek) := g1.cell 2
      have d3 : W1.cell? ⟨wr.heap.size, 3, none⟩ = some (.int .i64 eo) := g1.cell 3
      have d4 : W1.cell? ⟨wr.heap.size, 4, none⟩ = some (.slice eA ep.length ec) := g1.cell 4
      have HB1 := Lib.hid hb1
      clear hb1 g1
      go_wp2_with fail
      refine (copied_any et en ek eo eA ec ep W1 (Reads.up HXR.out HB1.out) hxp).mono ?_
      rintro e w2 ⟨hb2, A2, c2, rfl, hr2, _, _, hf2⟩
      unfold evC
      dsimp only
      have HB2 := Lib.hid (And.intro (HB1.out.trans (hb2.mono HB1.out.size)) (And.intro hr2 hf2))
      have hs2 := hb2.size
      clear hb2 hr2 hf2 d0 d1 d2 d3 d4
      have hE := (HO.out.2.1.below HB2.out.1).below ((Below.refl _ w2).alloc (Nat.le_refl _) (.cells #[.int .i64 et, .int .i64 en, .int .i64 ek, .int .i64 eo, .slice A2 ep.length c2] 32))
      have HE := Lib.hid hE
      clear hE
      go_wp2_with (at_builtin; go_must (refine wpList_append_any (w2.alloc (.cells #[.int .i64 et, .int .i64 en, .int .i64 ek, .int .i64 eo, .slice A2 ep.length c2] 32)) rfl (.tmp 12) (.tmp 15) _ rfl w.heap.size 32 i2 _ 5 56 Try.underlying22 HI.out.1 HI.out.2.1 HI.out.2.2.1 HI.out.2.2.2 rfl (by omega) (.slice A3 es.length c3) es.length (es.flatMap encEv) rfl HE.out.own (w2.heap.size + 1) (some ⟨w2.heap.size, 0, none⟩) 1 1 [.int .i64 et, .int .i64 en, .int .i64 ek, .int .i64 eo, .slice A2 ep.length c2] rfl (elem_reads w2 #[.int .i64 et, .int .i64 en, .int .i64 ek, .int .i64 eo, .slice A2 ep.length c2] 32) (by simp [Value.oneCell']) (by simp only [maxLen]; omega) (by omega) (by rw [World.size_alloc]; have := HO.out.2.2.size; have := HB2.out.1.size; omega) ?_; intro v3 w3 ho3 hg3 hv3))
      go_roundw
      case rel =>
        have hx : EvR (w2.alloc (.cells #[.int .i64 et, .int .i64 en, .int .i64 ek, .int .i64 eo, .slice A2 ep.length c2] 32)) ⟨et, en, ek, eo, A2, c2, ep⟩ := Reads.up HB2.out.2.1 ((Below.refl _ w2).alloc (Nat.le_refl _) _)
        have hf : ∀ ad, 0 < ep.length → A2 = some ad → (Value.slice A3 es.length c3).ownBlock ≠ some ad.block := by
          intro ad h0 hA e
          have h1 := own_lt HO.out.2.1.own _ e
          have h2 := HB2.out.2.2 ad h0 hA
          have h3 := HB1.out.size
          omega
        refine ⟨k + 1, es ++ [⟨et, en, ek, eo, A2, c2, ep⟩], by omega, by go_num, ?_, OwnE.push (x := ⟨et, en, ek, eo, A2, c2, ep⟩) HE.out ho3 hg3 hv3 hx hf, ?_, ?_⟩
        · rw [List.map_append, HO.out.1, HS.out]
          rfl
        · intro e he ad h0 hA
          rcases List.mem_append.1 he with he | he
          · exact HNP.out e he ad h0 hA
          · rw [List.mem_singleton] at he
            subst he
            have h2 := HB2.out.2.2 ad h0 hA
            have h3 := HB1.out.size
            have h4 := HO.out.2.2.size
            omega
        · exact ((HO.out.2.2.trans (HB2.out.1.mono HO.out.2.2.size)).alloc (by have := HO.out.2.2.size; have := HB2.out.1.size; omega) _).grown hg3 (by rw [World.size_alloc]; have := HO.out.2.2.size; have := HB2.out.1.size; omega) (own_block_ge HE.out.own)
      case measure => simp [intOf]; omega
    · go_wp2_with fail
      go_ret
      obtain rfl : k = m := by omega
      refine ⟨HO.out.2.2, _, es, rfl, HO.out.2.1, ?_, HNP.out⟩
      rw [HO.out.1, List.take_of_length_le (by have := HX.out.2.1; omega)]
end Go.Proofs.Ytknedclejhiegaa
