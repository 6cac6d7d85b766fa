/- The walks of own and Copy. Condition: at most 10000 flights, sizes as named. -/
import Derived.Test.YtjaoppopfeonhaaWd
namespace Go.Proofs.Ytjaoppopfeonhaa
open Go.RowKit
/-- own flights: a row of its own, each with its bytes elsewhere -/
structure OwnE (W : World) (base : Nat) (v : Value) (l : List Ev) : Prop where
  own : W.ownsRow base 69 3 v l.length (l.flatMap encEv)
  ev : ∀ e ∈ l, EvR W e ∧ ∀ ad, 0 < e.p.length → e.A = some ad → v.ownBlock ≠ some ad.block
theorem OwnE.nil (W : World) (base : Nat) : OwnE W base (.slice none 0 0) [] := ⟨World.ownsRow_nil _ _ _ _, nofun⟩
theorem OwnE.below {W W' : World} {base : Nat} {v : Value} {l : List Ev} (h : OwnE W base v l) (hb : Below W.heap.size W W') : OwnE W' base v l := ⟨own_below h.own hb, fun e he => ⟨(h.ev e he).1.up hb, (h.ev e he).2⟩⟩
theorem evR_grown {W W' : World} {v : Value} {e : Ev} (h : EvR W e) (hf : ∀ ad, 0 < e.p.length → e.A = some ad → v.ownBlock ≠ some ad.block) (hg : W.grownBy W' v.ownBlock) : EvR W' e := by
  refine ⟨h.1, fun hn => ?_⟩
  obtain ⟨ad, hA, hb, hc⟩ := h.2 hn
  refine ⟨ad, hA, Nat.lt_of_lt_of_le hb hg.size, fun j u hu => ?_⟩
  refine (World.cell?_of_block (hg.block _ (by rw [block_of_add]; exact hb) ?_)).trans (hc j u hu)
  rw [block_of_add]
  exact fun e1 => hf ad hn hA e1.symm
theorem far_grown {W : World} {v v' : Value} {e : Ev} (h : EvR W e) (hf : ∀ ad, 0 < e.p.length → e.A = some ad → v.ownBlock ≠ some ad.block) (hv : v'.ownBlock = v.ownBlock ∨ v'.ownBlock = some W.heap.size) : ∀ ad, 0 < e.p.length → e.A = some ad → v'.ownBlock ≠ some ad.block := by
  intro ad hn hA
  obtain ⟨ad', hA', hb, _⟩ := h.2 hn
  rw [hA] at hA'
  cases hA'
  rcases hv with e | e
  · rw [e]; exact hf ad hn hA
  · rw [e]; intro h9; injection h9 with h9; omega
theorem OwnE.push {W W' : World} {base : Nat} {v v' : Value} {l : List Ev} {x : Ev} (h : OwnE W base v l) (ho : W'.ownsRow base 69 3 v' (l.length + 1) (l.flatMap encEv ++ encEv x)) (hg : W.grownBy W' v.ownBlock) (hv : v'.ownBlock = v.ownBlock ∨ v'.ownBlock = some W.heap.size)
    (hx : EvR W x) (hf : ∀ ad, 0 < x.p.length → x.A = some ad → v.ownBlock ≠ some ad.block) : OwnE W' base v' (l ++ [x]) := by
  refine ⟨?_, fun e he => ?_⟩
  · rw [List.length_append, List.length_singleton, List.flatMap_append]
    exact (by simpa using ho)
  · rcases List.mem_append.1 he with he | he
    · exact ⟨evR_grown (h.ev e he).1 (h.ev e he).2 hg, far_grown (h.ev e he).1 (h.ev e he).2 hv⟩
    · rw [List.mem_singleton] at he
      subst he
      exact ⟨evR_grown hx hf hg, far_grown hx hf hv⟩
theorem OwnE.evs {W : World} {base : Nat} {A : Option Addr} {n c : Nat} {l : List Ev} (h : OwnE W base (.slice A n c) l) : Evs W A n l ∧ n = l.length ∧ n ≤ c ∧ c ≤ maxLen := by
  obtain ⟨A', c', hv, h1, h2, h3⟩ := own_slice h.own
  injection hv with e1 e2 e3
  subst e1 e2 e3
  exact ⟨⟨h3, fun e he => (h.ev e he).1⟩, rfl, h1, h2⟩
theorem OwnE.form {W : World} {base : Nat} {v : Value} {l : List Ev} (h : OwnE W base v l) : ∃ A c, v = .slice A l.length c := by
  obtain ⟨A', c', hv, _⟩ := own_slice h.own
  exact ⟨A', c', hv⟩
/-- the bytes of these flights lie in new blocks -/
def NewP (low : Nat) (l : List Ev) : Prop := ∀ e ∈ l, ∀ ad, 0 < e.p.length → e.A = some ad → low ≤ ad.block
theorem OwnE.keepN {W W' : World} {base : Nat} {v : Value} {l : List Ev} (h : OwnE W base v l) (hn : NewP base l) (hk : ∀ g, base ≤ g → g < W.heap.size → W'.heap[g]? = W.heap[g]?) (hs : W.heap.size ≤ W'.heap.size) : OwnE W' base v l := by
  refine ⟨own_keep h.own (fun g hg => hk g (own_block_ge h.own g hg) (own_lt h.own g hg)), fun e he => ⟨?_, (h.ev e he).2⟩⟩
  have hr := (h.ev e he).1
  refine ⟨hr.1, fun h0 => ?_⟩
  obtain ⟨ad, hA, hb, hc⟩ := hr.2 h0
  refine ⟨ad, hA, Nat.lt_of_lt_of_le hb hs, fun j u hu => ?_⟩
  refine (World.cell?_of_block ?_).trans (hc j u hu)
  rw [block_of_add]
  exact hk _ (hn e he ad h0 hA) hb
theorem OwnE.low {W : World} {base base' : Nat} {v : Value} {l : List Ev} (h : OwnE W base v l) (hb : base' ≤ base) : OwnE W base' v l := ⟨own_base h.own hb, h.ev⟩
theorem NewP.low {low low' : Nat} {l : List Ev} (h : NewP low l) (hb : low' ≤ low) : NewP low' l := fun e he ad h0 hA => Nat.le_trans hb (h e he ad h0 hA)
/-- a link with its flights in v -/
def lkV (l : Lm) (v : Value) : Array Value := #[.int .i64 l.mi, .int .i64 l.ma, .int .i64 l.ra, .bool l.dn, .int .i64 l.idle, .int .i64 l.nx, v]
/-- a new link -/
structure LinkR (w : World) (lm : Lm) (e : Ending) (w' : World) : Prop where
  bel : Below w.heap.size w w'
  val : ∃ v es, e = .returned (.agg (lkV lm v)) ∧ OwnE w' w.heap.size v es ∧ es.map Ev.em = lm.fl ∧ NewP w.heap.size es
set_option linter.unusedSimpArgs false in
set_option maxRecDepth 100000 in
set_option maxHeartbeats 2000000 in
theorem own_any (mi ma ra : Int) (dn : Bool) (id nx : Int) (A : Option Addr) (m c : Nat) (l : List Ev) (w : World) (hR : Evs w A m l) (hm : m ≤ 10000) (hp : ∀ e ∈ l, e.p.length ≤ 100000) :
    Calls Try.prog 37 #[.agg (lkC mi ma ra dn id nx A m c)] w (LinkR w ⟨mi, ma, ra, dn, id, nx, l.map Ev.em⟩) := by
  unfold lkC
  have hlen := hR.count
  obtain ⟨i2, hi2, hy0, hy1, hy2⟩ := info_parts info69b
  have HI := Lib.hid (And.intro hi2 (And.intro hy0 (And.intro hy1 hy2)))
  clear hi2 hy0 hy1 hy2
  have hb : Below w.heap.size w ((w.alloc (.cells #[.int .i64 mi, .int .i64 ma, .int .i64 ra, .bool dn, .int .i64 id, .int .i64 nx, .slice A m c] 26)).alloc (.cells #[.int .i64 0, .int .i64 0, .int .i64 0, .bool false, .int .i64 0, .int .i64 0, .slice none 0 0] 26)) := ((Below.refl _ w).alloc (Nat.le_refl _) _).alloc (by simp) _
  have h1 := (Blk.new w 26 #[.int .i64 mi, .int .i64 ma, .int .i64 ra, .bool dn, .int .i64 id, .int .i64 nx, .slice A m c]).alloc (.cells #[.int .i64 0, .int .i64 0, .int .i64 0, .bool false, .int .i64 0, .int .i64 0, .slice none 0 0] 26)
  have h2 := Blk.new (w.alloc (.cells #[.int .i64 mi, .int .i64 ma, .int .i64 ra, .bool dn, .int .i64 id, .int .i64 nx, .slice A m c] 26)) 26 #[.int .i64 0, .int .i64 0, .int .i64 0, .bool false, .int .i64 0, .int .i64 0, .slice none 0 0]
  rw [World.size_alloc] at h2
  have hsV : ((w.alloc (.cells #[.int .i64 mi, .int .i64 ma, .int .i64 ra, .bool dn, .int .i64 id, .int .i64 nx, .slice A m c] 26)).alloc (.cells #[.int .i64 0, .int .i64 0, .int .i64 0, .bool false, .int .i64 0, .int .i64 0, .slice none 0 0] 26)).heap.size = w.heap.size + 2 := by simp
  have HX := Lib.hid (And.intro (hR.up hb) (And.intro hlen (And.intro hp (And.intro hb (And.intro h1 (And.intro h2 hsV))))))
  clear hR hlen hp hb h1 h2 hsV
  go_enter Try.func37, Try.ntmps37
  go_wp2_with fail
  generalize ((w.alloc (.cells #[.int .i64 mi, .int .i64 ma, .int .i64 ra, .bool dn, .int .i64 id, .int .i64 nx, .slice A m c] 26)).alloc (.cells #[.int .i64 0, .int .i64 0, .int .i64 0, .bool false, .int .i64 0, .int .i64 0, .slice none 0 0] 26)) = V at *
  go_loopw [3, 5, 9] (fun u3 _ u9 W => ∃ (k : Nat) (es : List Ev), k ≤ m ∧ u9 = .int .i64 (k : Nat) ∧ es.map Ev.em = (l.take k).map Ev.em ∧ OwnE W V.heap.size u3 es ∧ NewP V.heap.size es ∧ Below V.heap.size V W) (fun _ _ u9 _ => m + 1 - (intOf u9).toNat)
  case atStart => exact ⟨0, [], by omega, rfl, rfl, OwnE.nil _ _, nofun, Below.refl _ _⟩
  case round =>
    obtain ⟨k, es, hk, rfl, hes, hown, hnew, hb⟩ := hrel
    have HNP := Lib.hid hnew
    clear hnew
    have hel : es.length = k := by
      have := congrArg List.length hes
      rw [List.length_map, List.length_map, List.length_take, HX.out.2.1] at this
      omega
    obtain ⟨A3, c3, rfl⟩ := hown.form
    have HO := Lib.hid (And.intro hes (And.intro hown hb))
    have HEL := Lib.hid hel
    have hel2 : es.length ≤ 10000 := by omega
    clear hes hown hb hel
    by_cases hlt : k < m
    · have hkl : k < l.length := by have := HX.out.2.1; omega
      obtain ⟨b, off, rfl, hbw, hc⟩ := HX.out.1.cells (by omega)
      obtain ⟨d0, d1, d2⟩ := hc k _ (List.getElem?_eq_getElem hkl)
      replace d0 := (HO.out.2.2.cell (p := ⟨b, off + k * 3, none⟩) hbw).trans d0
      replace d1 := (HO.out.2.2.cell (p := ⟨b, off + k * 3 + 1, none⟩) hbw).trans d1
      replace d2 := (HO.out.2.2.cell (p := ⟨b, off + k * 3 + 2, none⟩) hbw).trans d2
      have HS : Hid ((l.take (k + 1)).map Ev.em = (l.take k).map Ev.em ++ [l[k].em]) := by
        show _ = _
        rw [List.take_succ_eq_append_getElem hkl, List.map_append]
        rfl
      have hxr := (HX.out.1.ev _ (List.getElem_mem hkl)).up HO.out.2.2
      have hxp := HX.out.2.2.1 _ (List.getElem_mem hkl)
      clear hc
      generalize l[k] = ev at *
      obtain ⟨et, en, eA, ec, ep⟩ := ev
      dsimp only at d0 d1 d2 hxp
      have HXR := Lib.hid hxr
      clear hxr
      have ik : (k : Int) < m := by omega
      go_upto_region 5 with fail
      have g1 := Blk.new wr 69 #[.int .i64 et, .int .i64 en, .slice eA ep.length ec]
      have hb1 : Below wr.heap.size wr (wr.alloc (.cells #[.int .i64 et, .int .i64 en, .slice eA ep.length ec] 69)) := (Below.refl _ _).alloc (Nat.le_refl _) _
      have hs1 : (wr.alloc (.cells #[.int .i64 et, .int .i64 en, .slice eA ep.length ec] 69)).heap.size = wr.heap.size + 1 := by simp
      generalize (wr.alloc (.cells #[.int .i64 et, .int .i64 en, .slice eA ep.length ec] 69)) = W1 at *
      clear d0 d1 d2
      have d2 : W1.cell? ⟨wr.heap.size, 2, none⟩ = some (.slice eA ep.length ec) := g1.cell 2
      have HB1 := Lib.hid (And.intro hb1 (And.intro g1 hs1))
      clear hb1 g1 hs1
      go_wp2_with fail
      refine (Clone_any eA ep.length ec ep W1 (Reads.up HXR.out HB1.out.1) hxp).mono ?_
      rintro e w2 ⟨⟨v2, rfl, hv2⟩, hb2⟩
      obtain ⟨A2, c2, rfl, hca, hcm, hr2⟩ := own_slice hv2
      have hf2 := own_addr hv2
      have g2 := HB1.out.2.1.below hb2 (by have := HB1.out.2.2; omega)
      have HB2 := Lib.hid (And.intro (HB1.out.1.trans (hb2.mono HB1.out.1.size)) (And.intro hr2 (And.intro hf2 g2)))
      have hs2 := hb2.size
      have hs2' : wr.heap.size + 1 ≤ w2.heap.size := by have := HB1.out.2.2; omega
      clear hb2 hr2 hf2 d2 hv2 hca hcm g2
      have f2 : w2.frozen? ⟨wr.heap.size, 2, none⟩ = false := HB2.out.2.2.2.frozen 2
      have d2 : w2.cell? ⟨wr.heap.size, 2, none⟩ = some (.slice eA ep.length ec) := HB2.out.2.2.2.cell 2
      go_upto_region 6 with fail
      clear f2 d2
      have hb3 : Below wr.heap.size wr (w2.setCell ⟨wr.heap.size, 2, none⟩ (.slice A2 ep.length c2)) := HB2.out.1.setCell (Nat.le_refl _) _
      have hr3 : Reads (w2.setCell ⟨wr.heap.size, 2, none⟩ (.slice A2 ep.length c2)) (w2.setCell ⟨wr.heap.size, 2, none⟩ (.slice A2 ep.length c2)).heap.size 1 A2 ep.length (u8s ep) := by
        have h9 : (w2.setCell ⟨wr.heap.size, 2, none⟩ (.slice A2 ep.length c2)).heap.size = w2.heap.size := by simp
        rw [h9]
        refine ⟨HB2.out.2.1.1, fun hn => ?_⟩
        obtain ⟨ad, hA, hlt, hc⟩ := HB2.out.2.1.2 hn
        refine ⟨ad, hA, hlt, fun j u hu => ?_⟩
        rw [World.cell?_setCell_other]
        · exact hc j u hu
        · intro e
          have h1 := HB2.out.2.2.1 ad hn hA
          have h2 := congrArg Addr.block e
          rw [block_of_add] at h2
          have h3 := HB1.out.2.2
          simp only at h2
          omega
      have g3 : Blk (w2.setCell ⟨wr.heap.size, 2, none⟩ (.slice A2 ep.length c2)) wr.heap.size 69 #[.int .i64 et, .int .i64 en, .slice A2 ep.length c2] := HB2.out.2.2.2.set_ 2 _
      have hs3 : wr.heap.size + 1 ≤ (w2.setCell ⟨wr.heap.size, 2, none⟩ (.slice A2 ep.length c2)).heap.size := by simpa using hs2'
      generalize (w2.setCell ⟨wr.heap.size, 2, none⟩ (.slice A2 ep.length c2)) = W3 at *
      have d0 : W3.cell? ⟨wr.heap.size, 0, none⟩ = some (.int .i64 et) := g3.cell 0
      have d1 : W3.cell? ⟨wr.heap.size, 1, none⟩ = some (.int .i64 en) := g3.cell 1
      have d2 : W3.cell? ⟨wr.heap.size, 2, none⟩ = some (.slice A2 ep.length c2) := g3.cell 2
      have HB3 := Lib.hid (And.intro hb3 hr3)
      clear hb3 hr3 g3
      have hE := (HO.out.2.1.below HB3.out.1).below ((Below.refl _ W3).alloc (Nat.le_refl _) (.cells #[.int .i64 et, .int .i64 en, .slice A2 ep.length c2] 69))
      have HE := Lib.hid hE
      clear hE
      go_wp2_with (at_builtin; go_must (refine wpList_append_any (W3.alloc (.cells #[.int .i64 et, .int .i64 en, .slice A2 ep.length c2] 69)) rfl (.tmp 17) (.tmp 19) _ rfl V.heap.size 69 i2 _ 3 40 Try.underlying24 HI.out.1 HI.out.2.1 HI.out.2.2.1 HI.out.2.2.2 rfl (by omega) (.slice A3 es.length c3) es.length (es.flatMap encEv) rfl HE.out.own (W3.heap.size + 1) (some ⟨W3.heap.size, 0, none⟩) 1 1 [.int .i64 et, .int .i64 en, .slice A2 ep.length c2] rfl (elem_reads W3 #[.int .i64 et, .int .i64 en, .slice A2 ep.length c2] 69) (by simp [Value.oneCell']) (by simp only [maxLen]; omega) (by omega) (by rw [World.size_alloc]; have := HO.out.2.2.size; have := HB3.out.1.size; omega) ?_; intro v3 w3 ho3 hg3 hv3))
      go_roundw
      case rel =>
        have hx : EvR (W3.alloc (.cells #[.int .i64 et, .int .i64 en, .slice A2 ep.length c2] 69)) ⟨et, en, A2, c2, ep⟩ := Reads.up HB3.out.2 ((Below.refl _ W3).alloc (Nat.le_refl _) _)
        have hf : ∀ ad, 0 < ep.length → A2 = some ad → (Value.slice A3 es.length c3).ownBlock ≠ some ad.block := by
          intro ad h0 hA e
          have h1 := own_lt HO.out.2.1.own _ e
          have h2 := HB2.out.2.2.1 ad h0 hA
          have h3 := HB1.out.2.2
          omega
        refine ⟨k + 1, es ++ [⟨et, en, A2, c2, ep⟩], by omega, by go_num, ?_, OwnE.push (x := ⟨et, en, A2, c2, ep⟩) HE.out ho3 hg3 hv3 hx hf, ?_, ?_⟩
        · rw [List.map_append, HO.out.1, HS.out]
          rfl
        · intro e he ad h0 hA
          rcases List.mem_append.1 he with he | he
          · exact HNP.out e he ad h0 hA
          · rw [List.mem_singleton] at he
            subst he
            have h2 := HB2.out.2.2.1 ad h0 hA
            have h3 := HB1.out.2.2
            have h4 := HO.out.2.2.size
            omega
        · exact ((HO.out.2.2.trans (HB3.out.1.mono HO.out.2.2.size)).alloc (by have := HO.out.2.2.size; have := HB3.out.1.size; omega) _).grown hg3 (by rw [World.size_alloc]; have := HO.out.2.2.size; have := HB3.out.1.size; omega) (own_block_ge HE.out.own)
      case measure => simp [intOf]; omega
    · obtain rfl : k = m := by omega
      have hlV : w.heap.size < V.heap.size := by have := HX.out.2.2.2.2.2.2; omega
      have hlV1 : w.heap.size + 1 < V.heap.size := by have := HX.out.2.2.2.2.2.2; omega
      have G0 := HX.out.2.2.2.2.1.below HO.out.2.2 hlV
      have G1 := HX.out.2.2.2.2.2.1.below HO.out.2.2 hlV1
      have a6 : wr.cell? ⟨w.heap.size, 6, none⟩ = some (.slice A k c) := G0.cell 6
      have f6 : wr.frozen? ⟨w.heap.size, 6, none⟩ = false := G0.frozen 6
      have HG := Lib.hid (And.intro G0 G1)
      clear G0 G1
      go_upto_region 9 with fail
      clear a6 f6
      have G0 : Blk (wr.setCell ⟨w.heap.size, 6, none⟩ (.slice A3 es.length c3)) w.heap.size 26 #[.int .i64 mi, .int .i64 ma, .int .i64 ra, .bool dn, .int .i64 id, .int .i64 nx, .slice A3 es.length c3] := HG.out.1.set_ 6 _
      have G1 := HG.out.2.far (p := ⟨w.heap.size, 6, none⟩) (by simp) (.slice A3 es.length c3)
      have hbw : Below w.heap.size w (wr.setCell ⟨w.heap.size, 6, none⟩ (.slice A3 es.length c3)) := (HX.out.2.2.2.1.trans (HO.out.2.2.mono HX.out.2.2.2.1.size)).setCell (Nat.le_refl _) _
      have hE := HO.out.2.1.keepN (W' := wr.setCell ⟨w.heap.size, 6, none⟩ (.slice A3 es.length c3)) HNP.out (fun g hg _ => Below.heap_setCell _ _ _ _ (by simp only; omega)) (by simp)
      have HW := Lib.hid (And.intro hbw (And.intro hE G1))
      clear hbw hE HG
      generalize wr.setCell ⟨w.heap.size, 6, none⟩ (.slice A3 es.length c3) = W2 at *
      have a0 : W2.cell? ⟨w.heap.size, 0, none⟩ = some (.int .i64 mi) := G0.cell 0
      have a1 : W2.cell? ⟨w.heap.size, 1, none⟩ = some (.int .i64 ma) := G0.cell 1
      have a2 : W2.cell? ⟨w.heap.size, 2, none⟩ = some (.int .i64 ra) := G0.cell 2
      have a3 : W2.cell? ⟨w.heap.size, 3, none⟩ = some (.bool dn) := G0.cell 3
      have a4 : W2.cell? ⟨w.heap.size, 4, none⟩ = some (.int .i64 id) := G0.cell 4
      have a5 : W2.cell? ⟨w.heap.size, 5, none⟩ = some (.int .i64 nx) := G0.cell 5
      have a6 : W2.cell? ⟨w.heap.size, 6, none⟩ = some (.slice A3 es.length c3) := G0.cell 6
      clear G0 G1
      go_wp2_with (refine wpList_store_row rfl _ _ _ rfl (w.heap.size + 1) _ rfl rfl 26 _ HW.out.2.2 (by kernel_rfl) rfl (by simp [Value.oneCell']) ?_)
      have GR := HW.out.2.2.setRow #[.int .i64 mi, .int .i64 ma, .int .i64 ra, .bool dn, .int .i64 id, .int .i64 nx, .slice A3 es.length c3]
      refine bodyPost_ret (v := .agg (lkV ⟨mi, ma, ra, dn, id, nx, l.map Ev.em⟩ (.slice A3 es.length c3))) (results_cell1 (t := 26) rfl _ _ (w.heap.size + 1) _ _ rfl GR Try.underlying26 rfl (by kernel_rfl)) rfl ⟨below_setRow HW.out.1 (by omega) _, _, es, rfl, (HW.out.2.1.keepN HNP.out (fun g hg _ => setRow_other _ _ _ _ (by omega)) (by simp)).low (by omega), ?_, HNP.out.low (by omega)⟩
      rw [HO.out.1, List.take_of_length_le (by have := HX.out.2.1; omega)]
end Go.Proofs.Ytjaoppopfeonhaa
