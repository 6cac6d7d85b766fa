/- The walks of Deliver, Next, Cut, Restore of the link; of SamePayloads. Conditions: at most 4096 flights, sizes as named. -/
import Derived.Test.YtjaoppopfeonhaaWm
namespace Go.Proofs.Ytjaoppopfeonhaa
open Go.RowKit
theorem info53e : (Try.prog.info? 37).map (fun i => (i.zero, i.size, i.bytes)) = some (some (.slice none 0 0), 1, 24) := by kernel_rfl
/-- payloads as values: slices -/
structure Pl where
  A : Option Addr
  c : Nat
  p : List Nat
def encPl (x : Pl) : Value := .slice x.A x.p.length x.c
def PlR (w : World) (x : Pl) : Prop := Reads w w.heap.size 1 x.A x.p.length (u8s x.p)
/-- payloads in memory -/
structure Pls (w : World) (A : Option Addr) (n : Nat) (l : List Pl) : Prop where
  rd : Reads w w.heap.size 1 A n (l.map encPl)
  pl : ∀ x ∈ l, PlR w x
theorem Pls.up {w w' : World} {A : Option Addr} {n : Nat} {l : List Pl} (h : Pls w A n l) (hb : Below w.heap.size w w') : Pls w' A n l := ⟨h.rd.up hb, fun x hx => Reads.up (h.pl x hx) hb⟩
theorem Pls.count {w : World} {A : Option Addr} {n : Nat} {l : List Pl} (h : Pls w A n l) : l.length = n := by have := h.rd.1; rw [List.length_map] at this; omega
set_option maxRecDepth 100000 in
set_option maxHeartbeats 1000000 in
theorem SamePayloads_true (A A' : Option Addr) (m c c' : Nat) (l l' : List Pl) (w : World) (hR : Pls w A m l) (hR' : Pls w A' m l') (hm : m ≤ 10000) (he : l.map Pl.p = l'.map Pl.p) :
    Calls Try.prog 27 #[.slice A m c, .slice A' m c'] w fun e w' => e = .returned (.bool true) ∧ Below w.heap.size w w' := by
  have HX := Lib.hid (And.intro hR (And.intro hR' (And.intro hR.count (And.intro hR'.count he))))
  clear hR hR' he
  go_enter Try.func27, Try.ntmps27
  go_wp2_with fail
  go_loopw [5] (fun i wr => ∃ k : Nat, k ≤ m ∧ i = .int .i64 k ∧ Below w.heap.size w wr) (fun i _ => m - (intOf i).toNat)
  case atStart => exact ⟨0, by omega, rfl, Below.refl _ _⟩
  case round =>
    obtain ⟨k, hk, rfl, hbw⟩ := hrel
    have HB := Lib.hid hbw
    clear hbw
    by_cases hlt : k < m
    · have hkl : k < l.length := by have := HX.out.2.2.1; omega
      have hkl' : k < l'.length := by have := HX.out.2.2.2.1; omega
      obtain ⟨b1, o1, rfl, _, hc1⟩ := (HX.out.1.rd.up HB.out).plain (by omega) (by omega)
      obtain ⟨b2, o2, rfl, _, hc2⟩ := (HX.out.2.1.rd.up HB.out).plain (by omega) (by omega)
      have d0 := hc1 k (encPl l[k]) (by simp [List.getElem?_eq_getElem hkl])
      have d1 := hc2 k (encPl l'[k]) (by simp [List.getElem?_eq_getElem hkl'])
      have hp1 := Reads.up (HX.out.1.pl _ (List.getElem_mem hkl)) HB.out
      have hp2 := Reads.up (HX.out.2.1.pl _ (List.getElem_mem hkl')) HB.out
      have hem : l[k].p = l'[k].p := by
        have := congrArg (fun x => x[k]?) HX.out.2.2.2.2
        simpa [List.getElem?_eq_getElem hkl, List.getElem?_eq_getElem hkl'] using this
      generalize l[k] = x at *
      generalize l'[k] = y at *
      obtain ⟨xA, xc, xp⟩ := x
      obtain ⟨yA, yc, yp⟩ := y
      dsimp only at hem
      subst hem
      unfold encPl at d0 d1
      dsimp only at d0 d1 hp1 hp2
      clear hc1 hc2
      have i0 : (k : Int) < m := by omega
      have r1 := run_str wr xp.length xc xA xp hp1
      have r2 := run_str wr xp.length yc yA xp hp2
      have r1d := run_str wr.drew xp.length xc xA xp hp1
      have r2d := run_str wr.drew xp.length yc yA xp hp2
      have HPP := Lib.hid (And.intro hp1 hp2)
      clear hp1 hp2
      have d0d : wr.drew.cell? ⟨b1, o1 + k, none⟩ = some (.slice xA xp.length xc) := d0
      have d1d : wr.drew.cell? ⟨b2, o2 + k, none⟩ = some (.slice yA xp.length yc) := d1
      go_wp2
      go_region
      go_wp2
      go_roundw
      case rel => exact ⟨k + 1, by omega, by go_num, HB.out.drew⟩
      case measure => simp [intOf]; omega
    · go_wp2
      go_ret
      exact ⟨rfl, HB.out⟩
/-- flights as a value -/
structure FlV (W : World) (low : Nat) (l : List Em) (v : Value) : Prop where
  val : ∃ A c es, v = .slice A (List.length es) c ∧ Evs W A es.length es ∧ es.map Ev.em = l ∧ es.length ≤ c ∧ c ≤ maxLen ∧ (∀ ad, 0 < es.length → A = some ad → low ≤ ad.block) ∧ NewP low es
/-- payloads as a value -/
structure PlV (W : World) (low : Nat) (l : List (List Nat)) (v : Value) : Prop where
  val : ∃ A c pl, v = .slice A (List.length pl) c ∧ Pls W A pl.length pl ∧ pl.map Pl.p = l ∧ pl.length ≤ c ∧ c ≤ maxLen ∧ (∀ ad, 0 < pl.length → A = some ad → low ≤ ad.block) ∧ (∀ x ∈ pl, ∀ ad, 0 < x.p.length → x.A = some ad → low ≤ ad.block)
theorem reads_far {W W' : World} {low size n : Nat} {A : Option Addr} {xs : List Value} (h : Reads W W.heap.size size A n xs) (hA : ∀ ad, 0 < n → A = some ad → low ≤ ad.block) (hk : ∀ g, low ≤ g → g < W.heap.size → W'.heap[g]? = W.heap[g]?) (hs : W.heap.size ≤ W'.heap.size) : Reads W' W'.heap.size size A n xs := by
  refine ⟨h.1, fun h0 => ?_⟩
  obtain ⟨ad, hA', hb, hc⟩ := h.2 h0
  refine ⟨ad, hA', Nat.lt_of_lt_of_le hb hs, fun j u hu => ?_⟩
  refine (World.cell?_of_block ?_).trans (hc j u hu)
  rw [block_of_add]
  exact hk _ (hA ad h0 hA') hb
theorem FlV.keep {W W' : World} {low : Nat} {l : List Em} {v : Value} (h : FlV W low l v) (hk : ∀ g, low ≤ g → g < W.heap.size → W'.heap[g]? = W.heap[g]?) (hs : W.heap.size ≤ W'.heap.size) : FlV W' low l v := by
  obtain ⟨A, c, es, h1, h2, h3, h4, h5, h6, h7⟩ := h.val
  exact ⟨A, c, es, h1, ⟨reads_far h2.rd h6 hk hs, fun e he => reads_far (h2.ev e he) (h7 e he) hk hs⟩, h3, h4, h5, h6, h7⟩
theorem PlV.keep {W W' : World} {low : Nat} {l : List (List Nat)} {v : Value} (h : PlV W low l v) (hk : ∀ g, low ≤ g → g < W.heap.size → W'.heap[g]? = W.heap[g]?) (hs : W.heap.size ≤ W'.heap.size) : PlV W' low l v := by
  obtain ⟨A, c, es, h1, h2, h3, h4, h5, h6, h7⟩ := h.val
  exact ⟨A, c, es, h1, ⟨reads_far h2.rd h6 hk hs, fun e he => reads_far (h2.pl e he) (h7 e he) hk hs⟩, h3, h4, h5, h6, h7⟩
theorem FlV.of_own {W : World} {base : Nat} {v : Value} {es : List Ev} (h : OwnE W base v es) (hn : NewP base es) : FlV W base (es.map Ev.em) v := by
  obtain ⟨A, c, rfl⟩ := h.form
  have he := h.evs
  exact ⟨A, c, es, rfl, he.1, rfl, he.2.2.1, he.2.2.2, own_addr h.own, hn⟩
theorem FlV.low {W : World} {a b : Nat} {l : List Em} {v : Value} (h : FlV W b l v) (hab : a ≤ b) : FlV W a l v := by
  obtain ⟨A, c, es, h1, h2, h3, h4, h5, h6, h7⟩ := h.val
  exact ⟨A, c, es, h1, h2, h3, h4, h5, fun ad h0 hA => Nat.le_trans hab (h6 ad h0 hA), fun e he ad h0 hA => Nat.le_trans hab (h7 e he ad h0 hA)⟩
theorem PlV.low {W : World} {a b : Nat} {l : List (List Nat)} {v : Value} (h : PlV W b l v) (hab : a ≤ b) : PlV W a l v := by
  obtain ⟨A, c, es, h1, h2, h3, h4, h5, h6, h7⟩ := h.val
  exact ⟨A, c, es, h1, h2, h3, h4, h5, fun ad h0 hA => Nat.le_trans hab (h6 ad h0 hA), fun e he ad h0 hA => Nat.le_trans hab (h7 e he ad h0 hA)⟩
theorem FlV.up {W W' : World} {low : Nat} {l : List Em} {v : Value} (h : FlV W low l v) (hb : Below W.heap.size W W') : FlV W' low l v := h.keep (fun g _ hg => hb.block g hg) hb.size
theorem PlV.up {W W' : World} {low : Nat} {l : List (List Nat)} {v : Value} (h : PlV W low l v) (hb : Below W.heap.size W W') : PlV W' low l v := h.keep (fun g _ hg => hb.block g hg) hb.size
theorem PlV.nil (W : World) (low : Nat) : PlV W low [] (.slice none 0 0) := ⟨none, 0, [], rfl, ⟨⟨rfl, fun h => absurd h (by simp)⟩, nofun⟩, rfl, by simp, by unfold maxLen; omega, fun ad h => absurd h (by simp), nofun⟩
/-- what Deliver answers -/
structure DelivR (w : World) (a : Lm × List (List Nat)) (e : Ending) (w' : World) : Prop where
  bel : Below w.heap.size w w'
  val : ∃ v u, e = .returned (.tuple #[.agg (lkV a.1 v), u]) ∧ FlV w' w.heap.size a.1.fl v ∧ PlV w' w.heap.size a.2 u
def Ev.pl (e : Ev) : Pl := ⟨e.A, e.c, e.p⟩
/-- what Deliver's loop has made -/
structure DvI (w : World) (low go : Nat) (cs C8 : Array Value) (es : List Ev) (k : Nat) (u : Value) (W : World) : Prop where
  b8 : Blk W (w.heap.size + 1) 26 C8
  bo : Blk W go 26 cs
  row : W.ownsRow low 37 1 u k ((es.take k).map (fun e => encPl e.pl))
  bel : Below w.heap.size w W
  ev : ∀ e ∈ es, EvR W e
theorem take_pl (es : List Ev) (k : Nat) : (es.take k).map (fun e => encPl e.pl) = ((es.take k).map Ev.pl).map encPl := by rw [List.map_map]; rfl
theorem encPl_one (l : List Pl) : ∀ u ∈ l.map encPl, u.oneCell' = true := by
  intro u hu
  obtain ⟨x, _, rfl⟩ := List.mem_map.1 hu
  rfl
theorem deliv_end {w W W2 : World} {low go k : Nat} {cs C8 C9 : Array Value} {es : List Ev} {u : Value} {mi ma ra : Int} {dn : Bool} {id nx : Int} {L : List Em} {A2 : Option Addr} {n2 c2 : Nat} {R : Lm × List (List Nat)}
    (hI : DvI w low go cs C8 es k u W) (_ : Blk W2 (w.heap.size + 1) 26 C8) (hbw : Below w.heap.size w W2) (hkp : ∀ g, g ≠ go → W2.heap[g]? = W.heap[g]?) (hsz : W2.heap.size = W.heap.size)
    (hlow : w.heap.size + 2 ≤ go ∧ go < low) (hev : es.map Ev.em = L ∧ (∀ e ∈ es, ∀ ad, 0 < e.p.length → e.A = some ad → w.heap.size + 2 ≤ ad.block ∧ ad.block < go)) (hRR : R = (⟨mi, ma, ra, dn, id, nx, L.drop k⟩, (L.take k).map Em.p))
    (hE : Evs W A2 n2 (es.drop k) ∧ n2 ≤ c2 ∧ c2 ≤ maxLen ∧ ∀ ad, 0 < n2 → A2 = some ad → w.heap.size + 2 ≤ ad.block ∧ ad.block < go) :
    DelivR w R (.returned (.tuple #[.agg #[.int .i64 mi, .int .i64 ma, .int .i64 ra, .bool dn, .int .i64 id, .int .i64 nx, .slice A2 n2 c2], u])) (W2.setRow (w.heap.size + 1) C9) := by
  subst hRR
  have hl2 : (es.drop k).length = n2 := hE.1.count
  have hkg : ∀ g, g ≠ go → g ≠ w.heap.size + 1 → (W2.setRow (w.heap.size + 1) C9).heap[g]? = W.heap[g]? := fun g h1 h2 => (setRow_other _ _ _ _ h2).trans (hkp g h1)
  have hss : (W2.setRow (w.heap.size + 1) C9).heap.size = W.heap.size := by simp [hsz]
  have rkeep : ∀ {size n : Nat} {A : Option Addr} {xs : List Value}, Reads W W.heap.size size A n xs → (∀ ad, 0 < n → A = some ad → ad.block ≠ go ∧ ad.block ≠ w.heap.size + 1) → Reads (W2.setRow (w.heap.size + 1) C9) (W2.setRow (w.heap.size + 1) C9).heap.size size A n xs := by
    intro size n A xs h hA
    refine ⟨h.1, fun h0 => ?_⟩
    obtain ⟨ad, hA', hb, hc⟩ := h.2 h0
    refine ⟨ad, hA', by omega, fun j u hu => ?_⟩
    refine (World.cell?_of_block ?_).trans (hc j u hu)
    rw [block_of_add]
    exact hkg _ (hA ad h0 hA').1 (hA ad h0 hA').2
  obtain ⟨A, c, rfl, hc1, hc2, hr⟩ := own_slice hI.row
  have hlk : ((es.take k).map Ev.pl).length = k := by have := hI.row.1; rw [List.length_map] at this; rw [List.length_map]; omega
  refine ⟨below_setRow hbw (by omega) _, .slice A2 n2 c2, .slice A k c, rfl, ⟨A2, c2, es.drop k, by rw [hl2], ⟨?_, fun e he => ?_⟩, by rw [List.map_drop, hev.1], by rw [hl2]; exact hE.2.1, hE.2.2.1, fun ad h0 hA => ?_, fun e he ad h0 hA => ?_⟩, ⟨A, c, (es.take k).map Ev.pl, by rw [hlk], ⟨?_, fun x hx => ?_⟩, ?_, by rw [hlk]; exact hc1, hc2, fun ad h0 hA => ?_, fun x hx ad h0 hA => ?_⟩⟩
  · rw [hl2]
    exact rkeep hE.1.rd (fun ad h0 hA => by have := hE.2.2.2 ad h0 hA; omega)
  · exact rkeep (hI.ev e (List.mem_of_mem_drop he)) (fun ad h0 hA => by have := hev.2 e (List.mem_of_mem_drop he) ad h0 hA; omega)
  · have := hE.2.2.2 ad (by omega) hA; omega
  · have := hev.2 e (List.mem_of_mem_drop he) ad h0 hA; omega
  · rw [hlk, ← take_pl]
    exact rkeep hr (fun ad h0 hA => by have := own_addr hI.row ad h0 hA; omega)
  · obtain ⟨e, he, rfl⟩ := List.mem_map.1 hx
    exact rkeep (hI.ev e (List.mem_of_mem_take he)) (fun ad h0 hA => by have := hev.2 e (List.mem_of_mem_take he) ad h0 hA; omega)
  · rw [List.map_map, ← hev.1, ← List.map_take, List.map_map]; rfl
  · have := own_addr hI.row ad (by omega) hA; omega
  · obtain ⟨e, he, rfl⟩ := List.mem_map.1 hx
    have := hev.2 e (List.mem_of_mem_take he) ad h0 hA; omega
end Go.Proofs.Ytjaoppopfeonhaa
