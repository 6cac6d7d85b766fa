/- The walk of used. Conditions: the budget is in order, its time leaves room. -/
import Derived.Test.YtehfnanhamaenaaWz
import Derived.Test.YtehfnanhamaenaaMathG
import Derived.Deep.DeepCutAuto
namespace Go.Proofs.Ytehfnanhamaenaa
open Go.RowKit
theorem info56 : (Try.prog.info? 56).map (fun i => (i.zero, i.size, i.bytes)) = some (some (.agg #[.int .i64 0, .int .i64 0, .int .i64 0]), 3, 24) := by kernel_rfl
def encU (u : Us) : List Value := [.int .u8 (u.wait : Int), .int .u8 (u.bucket : Int), .int .u8 (u.want : Int)]
theorem encU_len (u : Us) : (encU u).length = 3 := rfl
def RdU (w : World) (A : Option Addr) (n : Nat) (l : List Us) : Prop := Reads w w.heap.size 3 A n (l.flatMap encU)
def OkU (l : List Us) : Prop := ∀ u ∈ l, u.wait < 256 ∧ u.bucket < 256 ∧ u.want < 256
def encT (x : TK) : List Value := [.int .i64 x.1, .int .i64 (x.2.1 : Int), .int .i64 x.2.2]
theorem encT_len (x : TK) : (encT x).length = 3 := rfl
/-- what stands behind Advance -/
def UsCut (wr : World) (t : Int) (q : Nat) (l : List Bk) (s9 s10 : Value) (wx : World) : Prop := ∃ g9 A1 c1, s9 = .pointer (some ⟨g9, 0, none⟩) ∧ s10 = .int .i64 0 ∧ Blk wx g9 24 #[.int .i64 t, .slice A1 q c1] ∧ RdB wx A1 q l ∧ wr.heap.size ≤ g9 ∧ Below wr.heap.size wr wx
theorem advance_fr (t d : Int) (A : Option Addr) (q c : Nat) (l : List Bk) (w : World) (hR : RdB w A q l) (hn : q ≤ 1000) (hc : checkL t l = 0) (d0 : 0 ≤ d) (d1 : t + d ≤ 1073741824) :
    Calls Try.prog 17 #[budV t A q c, .int .i64 (t + d)] w fun e w' => (∃ A1 c1, e = .returned (.tuple #[budV (t + d) A1 q c1, .int .i64 0]) ∧ RdB w' A1 q (l.map (adv d))) ∧ Below w.heap.size w w' := by
  have hl := hR.len
  subst hl
  have := Advance_any t (t + d) A l.length c l w hR hn
  rw [advP_good hc d0 d1] at this
  refine this.mono fun e w' ⟨⟨A1, c1, h1, h2, _, _⟩, hb⟩ => ⟨⟨A1, c1, ?_, ?_⟩, hb⟩
  · rw [List.length_map] at h1; exact h1
  · rw [List.length_map] at h2; exact h2
theorem take_fr (t n : Int) (k : Nat) (A : Option Addr) (q c : Nat) (l : List Bk) (w : World) (hR : RdB w A q l) (hn : q ≤ 1000) (hc : checkL t l = 0) (hk : k < q) (n0 : 0 ≤ n) (n1 : n ≤ availL l k) :
    Calls Try.prog 21 #[budV t A q c, .int .i64 k, .int .i64 n] w fun e w' => (∃ A1 c1, e = .returned (.tuple #[budV t A1 q c1, .int .i64 0]) ∧ RdB w' A1 q (takeP n l (pathL l k)) ∧ ∀ ad, A1 = some ad → w.heap.size ≤ ad.block) ∧ Below w.heap.size w w' := by
  have hl := hR.len
  subst hl
  have hf : findV t l k = 0 := by unfold findV; rw [if_neg (by rw [hc]; simp), if_neg (by omega)]
  refine (callsIn_wide.1 (Take_ok t n k A c l w hR hn hf n0 n1)).mono fun e w' ⟨⟨A1, c1, h1, h2, _, _, h3⟩, hb⟩ => ⟨⟨A1, c1, ?_, ?_, h3⟩, hb⟩
  · rw [takeP_len] at h1; exact h1
  · rw [takeP_len] at h2; exact h2
theorem avail_fr (t : Int) (k : Nat) (A : Option Addr) (q c : Nat) (l : List Bk) (w : World) (hR : RdB w A q l) (hn : q ≤ 1000) (hc : checkL t l = 0) (hk : k < q) :
    Calls Try.prog 19 #[budV t A q c, .int .i64 k] w fun e w' => e = .returned (.tuple #[.int .i64 (availL l k), .int .i64 0]) ∧ Below w.heap.size w w' := by
  have hl := hR.len
  subst hl
  have hf : findV t l k = 0 := by unfold findV; rw [if_neg (by rw [hc]; simp), if_neg (by omega)]
  have := Available_any t k A l.length c l w hR hn
  rw [avV, if_pos hf, hf] at this
  exact this
theorem rdB_kept {w w' : World} {A : Option Addr} {n : Nat} {l : List Bk} (h : RdB w A n l) (hs : w.heap.size ≤ w'.heap.size) (hb : ∀ ad, A = some ad → ad.block < w.heap.size → w'.heap[ad.block]? = w.heap[ad.block]?) : RdB w' A n l := by
  refine ⟨h.1, fun hn => ?_⟩
  obtain ⟨ad, rfl, hl, hc⟩ := h.2 hn
  refine ⟨ad, rfl, by omega, fun j u hu => ?_⟩
  exact (World.cell?_of_block (by rw [block_of_add]; exact hb ad rfl hl)).trans (hc j u hu)
theorem us_way1 {wr w' : World} {t : Int} {q : Nat} {l : List Bk} {A1 : Option Addr} {c1 : Nat} (hb' : Below wr.heap.size wr.drew w') (hR : RdB w' A1 q l) :
    UsCut wr t q l (.pointer (some ⟨w'.heap.size, 0, none⟩)) (.int .i64 0) (w'.alloc (.cells #[.int .i64 t, .slice A1 q c1] 24)) :=
  ⟨w'.heap.size, A1, c1, rfl, rfl, Blk.new _ _ _, hR.up ((Below.refl _ _).alloc (Nat.le_refl _) _), hb'.size, ((Below.refl _ wr).drew.trans hb').alloc hb'.size _⟩
theorem us_way2 {wr w' : World} {t : Int} {q : Nat} {l : List Bk} {A1 : Option Addr} {c1 : Nat} (hb' : Below (wr.alloc (.cells #[.int .i64 0, .slice none 0 0] 24)).heap.size (wr.alloc (.cells #[.int .i64 0, .slice none 0 0] 24)).drew w') (hR : RdB w' A1 q l) :
    UsCut wr t q l (.pointer (some ⟨wr.heap.size, 0, none⟩)) (.int .i64 0) ((w'.setCell ⟨wr.heap.size, 0, none⟩ (.int .i64 t)).setCell ⟨wr.heap.size, 1, none⟩ (.slice A1 q c1)) := by
  have e : (wr.alloc (.cells #[.int .i64 0, .slice none 0 0] 24)).heap.size = wr.heap.size + 1 := by simp
  rw [e] at hb'
  have hK := (Blk.new wr 24 #[.int .i64 0, .slice none 0 0]).drew.below hb' (by omega)
  refine ⟨wr.heap.size, A1, c1, rfl, rfl, (hK.set_ 0 (.int .i64 t)).set_ 1 (.slice A1 q c1), rdB_far hK hR (fun p h1 _ => (World.cell?_of_block (Below.heap_setCell _ _ _ _ h1)).trans (World.cell?_of_block (Below.heap_setCell _ _ _ _ h1))) (by rw [size_set2]; exact Nat.le_refl _), Nat.le_refl _, ?_⟩
  exact ((((Below.refl _ wr).alloc (Nat.le_refl _) _).drew.trans (hb'.mono (Nat.le_succ _))).setCell (p := ⟨wr.heap.size, 0, none⟩) (Nat.le_refl _) _).setCell (p := ⟨wr.heap.size, 1, none⟩) (Nat.le_refl _) _
theorem three_cells {B b0 o0 b1 o1 b2 o2 : Nat} {X w' : World} {v0 v1 v2 : Value} (hB : Below B X w') (h0 : X.cell? ⟨b0, o0, none⟩ = some v0) (h1 : X.cell? ⟨b1, o1, none⟩ = some v1) (h2 : X.cell? ⟨b2, o2, none⟩ = some v2) (l0 : b0 < B) (l1 : b1 < B) (l2 : b2 < B) :
    w'.cell? ⟨b0, o0, none⟩ = some v0 ∧ w'.cell? ⟨b1, o1, none⟩ = some v1 ∧ w'.cell? ⟨b2, o2, none⟩ = some v2 ∧ Below B X w' :=
  ⟨(hB.cell (p := ⟨b0, o0, none⟩) l0).trans h0, (hB.cell (p := ⟨b1, o1, none⟩) l1).trans h1, (hB.cell (p := ⟨b2, o2, none⟩) l2).trans h2, hB⟩
/-- what used hands back -/
def UsedR (P : List Bk) (t : Int) (l : List Bk) (us : List Us) (w : World) (e : Ending) (w' : World) : Prop := (∃ A1 c1 A2 c2 n2, e = .returned (.tuple #[budV (runS (t, l) (us.take 20)).1 A1 P.length c1, .slice A2 n2 c2, .bool true]) ∧ RdB w' A1 P.length (runS (t, l) (us.take 20)).2 ∧ n2 = (us.take 20).length ∧ Reads w' w'.heap.size 3 A2 n2 ((runT (t, l) (us.take 20)).flatMap encT)) ∧ Below w.heap.size w w'
theorem results_cell_tmp2 {P : Program} {fn : Func} {p q r : Tmp} {ty : TypeId} (h : fn.results = #[.cell p ty, .tmp q, .tmp r]) (tmps : Array Value) (w : World) (g : Nat) (t : TypeId) (cs : Array Value) (d : TypeDesc)
    (hp : tmps.getD p undef = .pointer (some ⟨g, 0, none⟩)) (hg : Blk w g t cs)
    (hu : P.underlying ty = some d) (hd : (match d with | .struct _ | .array _ _ => true | _ => false) = true) (hi : (P.info? ty).map (·.size) = some cs.size) :
    (results fn tmps).run P w = .ok (.tuple #[.agg cs, tmps.getD q undef, tmps.getD r undef]) w := by
  have hp' : tmps[p]?.getD undef = .pointer (some ⟨g, 0, none⟩) := by simpa using hp
  simp [results, h, hp', asAddr, run_loadVar_row w g t ty cs (0, 0) d hg hu hd hi]
set_option maxRecDepth 100000 in
set_option maxHeartbeats 2000000 in
theorem used_any (P : List Bk) (t : Int) (A : Option Addr) (c : Nat) (l : List Bk) (B : Option Addr) (m d : Nat) (us : List Us) (w : World) (hR : RdB w A l.length l) (hU : RdU w B m us) (hu : OkU us) (hg : Good P (t, l)) (hP : P.length ≤ 8) (ht : t ≤ 1000000) (hm : m ≤ 9223372036854775807) :
    Calls Try.prog 26 #[budV t A l.length c, .slice B m d] w (UsedR P t l us w) := by
  have hlen : us.length = m := hU.count encU_len (by omega)
  subst hlen
  obtain ⟨i0, hi0, hz0, hz1, hz2⟩ := info_parts info56
  have HI := Lib.hid (And.intro hi0 (And.intro hz0 (And.intro hz1 hz2)))
  have HG := Lib.hid hg
  have hl := hg.len
  dsimp only at hl
  have ht0 := (checkL_zero hg.ok).2.1
  dsimp only at ht0
  clear hi0 hz0 hz1 hz2 hg
  rw [hl] at hR ⊢
  have hb0 : Below w.heap.size w ((w.alloc (.cells #[.int .i64 t, .slice A P.length c] 24)).alloc (.cells #[.int .i64 0, .slice none 0 0] 24)) := ((Below.refl _ w).alloc (Nat.le_refl _) _).alloc (by simp) _
  have hk1 := (Blk.new w 24 #[.int .i64 t, .slice A P.length c]).alloc (.cells #[.int .i64 0, .slice none 0 0] 24)
  have hk2 := Blk.new (w.alloc (.cells #[.int .i64 t, .slice A P.length c] 24)) 24 #[.int .i64 0, .slice none 0 0]
  rw [World.size_alloc] at hk2
  have hsz : ((w.alloc (.cells #[.int .i64 t, .slice A P.length c] 24)).alloc (.cells #[.int .i64 0, .slice none 0 0] 24)).heap.size = w.heap.size + 2 := by simp
  go_enter Try.func26, Try.ntmps26
  go_wp2_with fail
  generalize ((w.alloc (.cells #[.int .i64 t, .slice A P.length c] 24)).alloc (.cells #[.int .i64 0, .slice none 0 0] 24)) = W0 at *
  go_loopw [7, 8] (fun v i wr => ∃ (k : Nat) (Ak : Option Addr) (ck : Nat), k ≤ us.length ∧ k ≤ 20 ∧ i = .int .i64 k ∧ wr.ownsRow (w.heap.size + 2) 56 3 v k ((runT (t, l) (us.take k)).flatMap encT) ∧ Blk wr w.heap.size 24 #[.int .i64 (runS (t, l) (us.take k)).1, .slice Ak P.length ck] ∧ RdB wr Ak P.length (runS (t, l) (us.take k)).2 ∧ Blk wr (w.heap.size + 1) 24 #[.int .i64 0, .slice none 0 0] ∧ Below w.heap.size w wr) (fun _ i _ => us.length - (intOf i).toNat)
  case atStart => exact ⟨0, A, c, by omega, by omega, rfl, World.ownsRow_nil _ _ 56 3, hk1, hR.up hb0, hk2, hb0⟩
  case round =>
    obtain ⟨k, Ak, ck, hk, hk20, rfl, hown, hKb, hRk, hKr, hbr⟩ := hrel
    have hend : Hid (¬ (k < us.length ∧ k < 20) → us.take k = us.take 20) := fun hx => by
      rcases Nat.lt_or_ge k us.length with h | h
      · rw [show k = 20 by omega]
      · rw [List.take_of_length_le h, List.take_of_length_le (by omega)]
    by_cases hlt : k < us.length ∧ k < 20
    · obtain ⟨hlt, hl20⟩ := hlt
      have hgr := (HG.out.run (us.take k) (by simp; omega))
      have htk : (us.take k).length = k := by simp; omega
      rw [htk] at hgr
      obtain ⟨hgd, hlo, hhi⟩ := hgr
      dsimp only at hlo hhi
      obtain ⟨b, off, rfl, hbl, hc⟩ := hU.elems3 encU_len (by omega)
      obtain ⟨d0, d1, d2⟩ := hc k hlt _ _ _ rfl
      obtain ⟨p0, p1, p2⟩ := hu us[k] (List.getElem_mem hlt)
      have e0 := (hbr.cell (p := ⟨b, off + k * 3, none⟩) hbl).trans d0
      have e1 := (hbr.cell (p := ⟨b, off + k * 3 + 1, none⟩) hbl).trans d1
      have e2 := (hbr.cell (p := ⟨b, off + k * 3 + 2, none⟩) hbl).trans d2
      have HS := Lib.hid (And.intro (runS_take (t, l) us k hlt) (runT_take (t, l) us k hlt))
      clear hc d0 d1 d2 hend
      have hgn := hgd.n (u := us[k]) (by omega)
      have hga := hgd.advok (u := us[k]) (by omega)
      have hgk := hgd.k (u := us[k])
      have hLl := useL_len (runS (t, l) (us.take k)) us[k]
      have hsl := hgd.len
      have hwb := useW_bd us[k]
      have hUW : Hid (useW us[k] = (us[k].wait : Int) % 6) := rfl
      have hUK : Hid (useK (runS (t, l) (us.take k)) us[k] = us[k].bucket % P.length) := by rw [Hid, useK, hsl]
      have hUN : Hid (useN (runS (t, l) (us.take k)) us[k] = (us[k].want : Int) % (availL (useL (runS (t, l) (us.take k)) us[k]) (useK (runS (t, l) (us.take k)) us[k]) + 1)) := rfl
      have HGD := Lib.hid hgd
      have hpos := hgd.pos
      clear hgd
      generalize us[k] = u at *
      obtain ⟨⟨tk, lk⟩, hsk⟩ : ∃ s, runS (t, l) (us.take k) = s := ⟨_, rfl⟩
      rw [hsk] at HS HGD hgn hga hgk hLl hsl hUK hUN hKb hRk hlo hhi
      clear hsk
      dsimp only at hLl hsl hgk hKb hRk hlo hhi
      have hLP : (useL (tk, lk) u).length = P.length := hLl.trans hsl
      have z0 : wr.cell? ⟨w.heap.size, 0, none⟩ = some (.int .i64 tk) := hKb.cell 0
      have z1 : wr.cell? ⟨w.heap.size, 1, none⟩ = some (.slice Ak P.length ck) := hKb.cell 1
      have HK := Lib.hid (And.intro hown (And.intro hKb (And.intro hRk hKr)))
      have hzl := hKb.lt
      have hzl2 := hKr.lt
      clear hown hKb hRk hKr
      have f1 : (u.wait : Int).tmod 6 = (u.wait : Int) % 6 := Int.tmod_eq_emod_of_nonneg (by omega)
      have f2 : IntKind.i64.wrap ((u.wait : Int) % 6) = (u.wait : Int) % 6 := IntWalk.i64_in _ (by omega)
      have f3 : IntKind.i64.wrap (tk + (u.wait : Int) % 6) = tk + (u.wait : Int) % 6 := IntWalk.i64_in _ (by omega)
      have hkl : (k : Int) < us.length := by omega
      have hk2 : (k : Int) < 20 := by omega
      go_wp2_with fail
      have hbw := hbr.size
      have hbl2 : b < wr.heap.size := by omega
      go_cut [9, 10] from 27 to 41 (fun s9 s10 wx => UsCut wr (tk + useW u) P.length (useL (tk, lk) u) s9 s10 wx)
      case first =>
        go_region_held3 (fun w' => w'.cell? ⟨b, off + k * 3, none⟩ = some (.int .u8 (u.wait : Int)) ∧ w'.cell? ⟨w.heap.size, 0, none⟩ = some (.int .i64 tk) ∧ w'.cell? ⟨w.heap.size, 1, none⟩ = some (.slice Ak P.length ck) ∧ Below wr.heap.size wr w')
          (((refine three_cells ?_ e0 z0 z1 hbl2 hzl hzl); (first
            | exact (Below.refl _ wr).drew
            | exact ((Below.refl _ wr).drew.trans hb')
            | exact ((Below.refl _ wr).drew.trans hb').drew
            | exact ((Below.refl _ wr).drew.trans hb').alloc hb'.size _
            | exact (((Below.refl _ wr).drew.trans hb').alloc hb'.size _).drew
            | exact (Below.refl _ wr).drew.alloc (Nat.le_refl _) _
            | exact ((Below.refl _ wr).drew.alloc (Nat.le_refl _) _).drew
            | exact ((Below.refl _ wr).drew.alloc (Nat.le_refl _) _).trans (hb'.mono (sz_le _ _))
            | exact (((Below.refl _ wr).drew.alloc (Nat.le_refl _) _).trans (hb'.mono (sz_le _ _))).setCell (Nat.le_refl _) _
            | exact ((((Below.refl _ wr).drew.alloc (Nat.le_refl _) _).trans (hb'.mono (sz_le _ _))).setCell (Nat.le_refl _) _).setCell (Nat.le_refl _) _)))
          (first
            | (go_at_call 17; refine (advance_fr tk ((u.wait : Int) % 6) Ak P.length ck lk _ (HK.out.2.2.1.up ?_) (by omega) HGD.out.ok (by omega) (by omega)).mono ?_; (first | exact (Below.refl _ wr).drew | exact ((Below.refl _ wr).alloc (Nat.le_refl _) _).drew); rintro e w' ⟨⟨A1, c1, rfl, hR1⟩, hb'⟩; obtain ⟨hcc, hff⟩ := bcell hb'))
        · go_wp2_with fail
          go_meet
          exact us_way1 hb' hR1
        · go_wp2_with fail
          go_meet
          exact us_way2 hb' hR1
      case rest =>
        obtain ⟨g9, A1, c1, rfl, rfl, hK9, hR1, hg9, hbx⟩ := hcut
        obtain ⟨tn, htn⟩ : ∃ x, tk + useW u = x := ⟨_, rfl⟩
        obtain ⟨ln, hln⟩ : ∃ x, useL (tk, lk) u = x := ⟨_, rfl⟩
        obtain ⟨kk, hkk⟩ : ∃ x, useK (tk, lk) u = x := ⟨_, rfl⟩
        obtain ⟨nn, hnn⟩ : ∃ x, useN (tk, lk) u = x := ⟨_, rfl⟩
        have hus : useS (tk, lk) u = (tn, takeP nn ln (pathL ln kk)) := by rw [← htn, ← hnn, ← hln, ← hkk]; rfl
        have hut : useT (tk, lk) u = (tn, kk, nn) := by rw [← htn, ← hkk, ← hnn]; rfl
        try dsimp only at hga
        rw [htn] at hK9 hga
        rw [hln, hkk] at hUN
        rw [hnn] at hUN hgn
        rw [hkk] at hUK hgk hgn
        rw [hln] at hR1 hga hgn hLP hLl
        rw [hus, hut] at HS
        have hT := Lib.hid (And.intro htn (And.intro hln (And.intro hkk hnn)))
        have htn1 : 0 ≤ tn ∧ tn ≤ 2000000 := by omega
        clear htn hln hkk hnn hus hut
        have y0 : wc.cell? ⟨g9, 0, none⟩ = some (.int .i64 tn) := hK9.cell 0
        have y1 : wc.cell? ⟨g9, 1, none⟩ = some (.slice A1 P.length c1) := hK9.cell 1
        have e1' := (hbx.cell (p := ⟨b, off + k * 3 + 1, none⟩) hbl2).trans e1
        have e2' := (hbx.cell (p := ⟨b, off + k * 3 + 2, none⟩) hbl2).trans e2
        have hkP : kk < P.length := by rw [← hsl]; exact hgk
        obtain ⟨mo, hmo⟩ : ∃ x, availL ln kk = x := ⟨_, rfl⟩
        have hav := fun w9 h9 => avail_fr tn kk A1 P.length c1 ln w9 h9 (by omega) hga hkP
        have htf := fun w9 h9 => take_fr tn nn kk A1 P.length c1 ln w9 h9 (by omega) hga hkP hgn.1 hgn.2
        have hmb : mo ≤ 1073741824 := by rw [← hmo]; exact availL_le hga kk
        have hmo0 : 0 ≤ mo := by rw [← hmo]; exact availL_nn hga kk (by rw [hLP]; exact hkP)
        rw [hmo] at hav hUN hgn
        have HC := Lib.hid (And.intro hav htf)
        clear hav htf hmo
        obtain ⟨hn0, hn1⟩ := hgn
        have b1 : IntKind.i64.wrap (u.bucket : Int) = u.bucket := IntWalk.i64_in _ (by omega)
        have b2 : (u.bucket : Int).tmod (P.length : Int) = (kk : Int) := by rw [Int.tmod_eq_emod_of_nonneg (by omega), hUK.out]; rfl
        have b3 : ((P.length : Int) == 0) = false := by rw [beq_eq_false_iff_ne]; omega
        have b4 : ¬ (P.length : Int) = 0 := by omega
        have b5 : (u.want : Int).tmod (mo + 1) = nn := by rw [Int.tmod_eq_emod_of_nonneg (by omega), hUN.out]
        have b6 : IntKind.i64.wrap (u.want : Int) = u.want := IntWalk.i64_in _ (by omega)
        have b7 : IntKind.i64.wrap (mo + 1) = mo + 1 := IntWalk.i64_in _ (by omega)
        have b8 : ((mo + 1 : Int) == 0) = false := by rw [beq_eq_false_iff_ne]; omega
        have b9 : ¬ (mo + 1 : Int) = 0 := by omega
        have hz9 := hK9.lt
        have HX := Lib.hid (And.intro hK9 (And.intro hR1 hbx))
        clear hK9 hR1 hbx e0 e1 e2 z0 z1
        go_wp2_with fail
        go_quiet (fail)
        go_wp2_with fail
        have hx1 : Below wc.heap.size wc (wc.drewN nq) := below_drewN (Below.refl _ _) _
        refine (HC.out.1 _ (HX.out.2.1.up hx1)).mono ?_
        rintro e wa ⟨rfl, hba⟩
        obtain ⟨hca, _⟩ := bcell hba
        have hx2 := hx1.trans (hba.mono (Nat.le_refl _))
        have e2a := (hx2.cell (p := ⟨b, off + k * 3 + 2, none⟩) (Nat.lt_of_lt_of_le hbl2 HX.out.2.2.size)).trans e2'
        have y0a := (hx2.cell (p := ⟨g9, 0, none⟩) hz9).trans y0
        have y1a := (hx2.cell (p := ⟨g9, 1, none⟩) hz9).trans y1
        have hmn : ¬ mo < 0 := by omega
        clear hca
        go_wp2_with fail
        refine (HC.out.2 _ (HX.out.2.1.up hx2)).mono ?_
        rintro e wd ⟨⟨Ad, cd, rfl, hRd, hfr⟩, hbd⟩
        have hx3 := hx2.trans (hbd.mono hx2.size)
        have y0d := (hx3.cell (p := ⟨g9, 0, none⟩) hz9).trans y0
        have y1d := (hx3.cell (p := ⟨g9, 1, none⟩) hz9).trans y1
        have hxr : Below wr.heap.size wr wd := HX.out.2.2.trans (hx3.mono HX.out.2.2.size)
        have hwd9 : g9 < wd.heap.size := Nat.lt_of_lt_of_le hz9 hx3.size
        have hKw := HK.out.2.1.below hxr hzl
        have t0 : wd.cell? ⟨w.heap.size, 0, none⟩ = some (.int .i64 tk) := hKw.cell 0
        have t1 : wd.cell? ⟨w.heap.size, 1, none⟩ = some (.slice Ak P.length ck) := hKw.cell 1
        have tf0 : wd.frozen? ⟨w.heap.size, 0, none⟩ = false := hKw.frozen 0
        have tf1 : wd.frozen? ⟨w.heap.size, 1, none⟩ = false := hKw.frozen 1
        have hrowd := own_keep HK.out.1 (fun g hg => hxr.block g (own_lt HK.out.1 g hg))
        have hwl := hKw.lt
        have hwa : wr.heap.size ≤ wa.heap.size := Nat.le_trans HX.out.2.2.size hx2.size
        have hwd : wr.heap.size ≤ wd.heap.size := hxr.size
        have HD := Lib.hid (And.intro hRd (And.intro hfr (And.intro hKw hrowd)))
        clear hRd hfr hKw hrowd e2a y0a y1a
        have he : Reads ((wd.alloc (.cells #[.int .i64 tn, .slice Ad P.length cd] 24)).alloc (.cells #[.int .i64 tn, .int .i64 (kk : Int), .int .i64 nn] 56)) (wd.heap.size + 1 + 1) 3 (some ⟨wd.heap.size + 1, 0, none⟩) 1 [.int .i64 tn, .int .i64 (kk : Int), .int .i64 nn] := by
          have := elem_reads (wd.alloc (.cells #[.int .i64 tn, .slice Ad P.length cd] 24)) #[.int .i64 tn, .int .i64 (kk : Int), .int .i64 nn] 56
          rw [World.size_alloc] at this
          exact this
        have HE := Lib.hid he
        have hge := own_block_ge HD.out.2.2.2
        have hlw := own_lt HK.out.1
        have HGE := Lib.hid (And.intro hge hlw)
        clear he hge hlw
        go_wp2_with (at_builtin; go_must (refine wpList_append_any _ rfl (.tmp 105) (.tmp 111) _ rfl (w.heap.size + 2) 56 i0 _ 3 24 Try.underlying52 HI.out.1 HI.out.2.1 HI.out.2.2.1 HI.out.2.2.2 rfl (by omega) u7 k ((runT (t, l) (us.take k)).flatMap encT) (by rfl) (own_alloc (own_alloc HD.out.2.2.2 _) _) _ _ 1 1 [.int .i64 tn, .int .i64 (kk : Int), .int .i64 nn] (by rfl) HE.out (by simp [Value.oneCell']) (by simp only [maxLen]; omega) (by omega) (by simp; omega) ?_; intro v2 w2 hown2 hgr2 _; have hs2 := hgr2.size; simp only [World.size_alloc] at hs2; have hkd := ((Blk.new wd 24 #[.int .i64 tn, .slice Ad P.length cd]).alloc (.cells #[.int .i64 tn, .int .i64 (kk : Int), .int .i64 nn] 56)).grown hgr2 (fun e => by have h9 := HGE.out.2 _ e.symm; omega); have hkw := ((HD.out.2.2.1.alloc (.cells #[.int .i64 tn, .slice Ad P.length cd] 24)).alloc (.cells #[.int .i64 tn, .int .i64 (kk : Int), .int .i64 nn] 56)).grown hgr2 (fun e => by have h9 := HGE.out.1 _ e.symm; omega); have m0 := hkd.cell 0; have m1 := hkd.cell 1; have n0 := hkw.cell 0; have n1 := hkw.cell 1; have nf0 := hkw.frozen 0; have nf1 := hkw.frozen 1; have HW2 := Lib.hid (And.intro hown2 (And.intro hgr2 (And.intro hkd hkw))); clear hown2 hgr2 hkd hkw))
        have hw0 : (w2.setCell ⟨w.heap.size, 0, none⟩ (.int .i64 tn)).setCell ⟨w.heap.size, 1, none⟩ (.slice Ad P.length cd) = (w2.setCell ⟨w.heap.size, 0, none⟩ (.int .i64 tn)).setCell ⟨w.heap.size, 1, none⟩ (.slice Ad P.length cd) := rfl
        have hown3 : ((w2.setCell ⟨w.heap.size, 0, none⟩ (.int .i64 tn)).setCell ⟨w.heap.size, 1, none⟩ (.slice Ad P.length cd)).ownsRow (w.heap.size + 2) 56 3 v2 (k + 1) ((runT (t, l) (us.take (k + 1))).flatMap encT) := by
          rw [HS.out.2, List.flatMap_append]
          have hne : ∀ i, v2.ownBlock ≠ some (⟨w.heap.size, i, none⟩ : Addr).block := fun i e => by have := own_block_ge HW2.out.1 _ e; dsimp only at this; omega
          exact own_far (own_far HW2.out.1 (hne 0) _) (hne 1) _
        have hkb3 : Blk ((w2.setCell ⟨w.heap.size, 0, none⟩ (.int .i64 tn)).setCell ⟨w.heap.size, 1, none⟩ (.slice Ad P.length cd)) w.heap.size 24 #[.int .i64 (runS (t, l) (us.take (k + 1))).1, .slice Ad P.length cd] := by
          rw [HS.out.1]
          exact (HW2.out.2.2.2.set_ 0 (.int .i64 tn)).set_ 1 (.slice Ad P.length cd)
        have hsz3 : ((w2.setCell ⟨w.heap.size, 0, none⟩ (.int .i64 tn)).setCell ⟨w.heap.size, 1, none⟩ (.slice Ad P.length cd)).heap.size = w2.heap.size := size_set2 _ _ _ _ _
        have hgb : ∀ j, j < wd.heap.size → some j ≠ u7.ownBlock → w2.heap[j]? = wd.heap[j]? := fun j hj hn => (HW2.out.2.1.block j (by simp; omega) hn).trans ((Below.heap_alloc _ _ _ (by simp; omega)).trans (Below.heap_alloc _ _ _ hj))
        have hrd3 : RdB ((w2.setCell ⟨w.heap.size, 0, none⟩ (.int .i64 tn)).setCell ⟨w.heap.size, 1, none⟩ (.slice Ad P.length cd)) Ad P.length (runS (t, l) (us.take (k + 1))).2 := by
          rw [HS.out.1]
          refine rdB_kept HD.out.1 (by rw [hsz3]; omega) (fun ad had hlt => ?_)
          have hf := HD.out.2.1 ad had
          exact ((Below.heap_setCell _ _ _ _ (by dsimp only; omega)).trans (Below.heap_setCell _ _ _ _ (by dsimp only; omega))).trans (hgb _ hlt (fun e => by have := HGE.out.2 _ e.symm; omega))
        have hkr3 : Blk ((w2.setCell ⟨w.heap.size, 0, none⟩ (.int .i64 tn)).setCell ⟨w.heap.size, 1, none⟩ (.slice Ad P.length cd)) (w.heap.size + 1) 24 #[.int .i64 0, .slice none 0 0] := by
          have h8 := HK.out.2.2.2.below hxr hzl2
          have h9 : Blk w2 (w.heap.size + 1) 24 #[.int .i64 0, .slice none 0 0] := (hgb _ (by omega) (fun e => by have := HGE.out.1 _ e.symm; omega)).trans h8
          exact (h9.far (by dsimp only; omega) _).far (by dsimp only; omega) _
        have hbf3 : Below w.heap.size w ((w2.setCell ⟨w.heap.size, 0, none⟩ (.int .i64 tn)).setCell ⟨w.heap.size, 1, none⟩ (.slice Ad P.length cd)) := by
          have h8 : Below w.heap.size w wd := hbr.trans (hxr.mono hbw)
          exact (((((h8.alloc h8.size _).alloc (by simp; omega) _).grown HW2.out.2.1 (by simp; omega) (fun k9 e => by have := HGE.out.1 _ e; omega))).setCell (p := ⟨w.heap.size, 0, none⟩) (Nat.le_refl _) _).setCell (p := ⟨w.heap.size, 1, none⟩) (Nat.le_refl _) _
        refine ⟨⟨k + 1, Ad, cd, by omega, by omega, by go_num, hown3, hkb3, hrd3, hkr3, hbf3⟩, ?_⟩
        simp [intOf]; omega
    · have htl := hend.out hlt
      rw [htl] at hown hKb hRk
      have htk : k = (us.take 20).length := by rw [← htl]; simp; omega
      obtain ⟨A2, c2, rfl, _, _, hr2⟩ := own_slice hown
      have z0 : wr.cell? ⟨w.heap.size, 0, none⟩ = some (.int .i64 (runS (t, l) (us.take 20)).1) := hKb.cell 0
      have z1 : wr.cell? ⟨w.heap.size, 1, none⟩ = some (.slice Ak P.length ck) := hKb.cell 1
      have r0 : wr.cell? ⟨w.heap.size + 1, 0, none⟩ = some (.int .i64 0) := hKr.cell 0
      have r1 : wr.cell? ⟨w.heap.size + 1, 1, none⟩ = some (.slice none 0 0) := hKr.cell 1
      have rf0 : wr.frozen? ⟨w.heap.size + 1, 0, none⟩ = false := hKr.frozen 0
      have rf1 : wr.frozen? ⟨w.heap.size + 1, 1, none⟩ = false := hKr.frozen 1
      have HZ := Lib.hid (And.intro hr2 (And.intro hRk (And.intro hKr (And.intro htk hown))))
      have fin : ∀ tp : Array Value, tp.getD 4 undef = .pointer (some ⟨w.heap.size + 1, 0, none⟩) → tp.getD 5 undef = .slice A2 k c2 → tp.getD 6 undef = .bool true →
          bodyPost Try.prog Try.f26 (UsedR P t l us w) .ret { tmps := tp, defers := [] } ((wr.setCell ⟨w.heap.size + 1, 0, none⟩ (.int .i64 (runS (t, l) (us.take 20)).1)).setCell ⟨w.heap.size + 1, 1, none⟩ (.slice Ak P.length ck)) := by
        intro tp h4 h5 h6
        have hK3 := (hKr.set_ 0 (.int .i64 (runS (t, l) (us.take 20)).1)).set_ 1 (.slice Ak P.length ck)
        refine bodyPost_ret (results_cell_tmp2 rfl _ _ _ _ _ _ h4 hK3 Try.underlying24 rfl info24) rfl ?_
        rw [h5, h6]
        have hsz := size_set2 wr ⟨w.heap.size + 1, 0, none⟩ ⟨w.heap.size + 1, 1, none⟩ (.int .i64 (runS (t, l) (us.take 20)).1) (.slice Ak P.length ck)
        have hne : ∀ i, (Value.slice A2 k c2).ownBlock ≠ some (⟨w.heap.size + 1, i, none⟩ : Addr).block := fun i e => by have := own_block_ge hown _ e; dsimp only at this; omega
        refine ⟨⟨Ak, ck, A2, c2, k, rfl, rdB_far hKr hRk (fun p h1 _ => (World.cell?_of_block (Below.heap_setCell _ _ _ _ h1)).trans (World.cell?_of_block (Below.heap_setCell _ _ _ _ h1))) (by rw [hsz]; exact Nat.le_refl _), htk, Reads.of_own (own_far (own_far hown (hne 0) _) (hne 1) _)⟩, ?_⟩
        exact (hbr.setCell (p := ⟨w.heap.size + 1, 0, none⟩) (Nat.le_succ _) _).setCell (p := ⟨w.heap.size + 1, 1, none⟩) (Nat.le_succ _) _
      have FIN := Lib.hid fin
      clear fin
      clear hend htl htk hr2 hKb hRk hKr hown HZ
      have hnot : ¬ ((k : Int) < us.length ∧ (k : Int) < 20) := by omega
      have HNOT := Lib.hid hnot
      clear hnot hlt
      by_cases hc1 : k < us.length
      · have hc2 : ¬ (k : Int) < 20 := by have := HNOT.out; omega
        go_wp2_with fail
        exact FIN.out _ rfl rfl rfl
      · go_wp2_with fail
        exact FIN.out _ rfl rfl rfl
end Go.Proofs.Ytehfnanhamaenaa
