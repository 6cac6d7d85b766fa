/- The state of the laws: a throttle in its block, its marks, and the admitted writes in a row of their own. No condition. -/
import Derived.Test.YthkpkjigfaannaaWn
namespace Go.Proofs.Ythkpkjigfaannaa
open Go.RowKit
/-- append of one element that lies in the newest block, with what it leaves alone -/
theorem wpList_append_elemG {P : Program} {ops : Array Oper} {rest : List Oper} {o : Oper} {a : Act} {Q : Exit → Act → World → Prop} (w : World) (hgd : o.guard = none) (s x : Operand) (t : TypeId)
    (ho : o.op = .call { callee := .builtin .append, args := #[s, x], argTypes := #[t, t] })
    (base : Nat) (e : TypeId) (i : TypeInfo) (z : Value) (size bytes : Nat) (ht : P.underlying t = some (.slice e)) (hi : P.info? e = some i) (hz : i.zero = some z)
    (hsize : i.size = size) (hby : i.bytes = bytes) (hzs : z.cells.size = size) (hsz : 0 < size)
    (v : Value) (n : Nat) (xs : List Value) (us : Array Value) (hus : us.size = size) (hs : a.eval s = v) (hx : a.eval x = .slice (some ⟨w.heap.size, 0, none⟩) 1 1) (hown : w.ownsRow base e size v n xs)
    (h1 : ∀ u ∈ us.toList, u.oneCell' = true)
    (h63 : n + 1 ≤ maxLen) (hbytes : (n + 1) * bytes ≤ 140737488355328) (hbase : base ≤ w.heap.size)
    (h : ∀ v' w', w'.ownsRow base e size v' (n + 1) (xs ++ us.toList) → (w.alloc (.cells us e)).grownBy w' v.ownBlock → (v'.ownBlock = v.ownBlock ∨ v'.ownBlock = some (w.heap.size + 1)) → wpList P ops Q rest (a.put o.dst v') w') : wpList P ops Q (o :: rest) a (w.alloc (.cells us e)) := by
  have hr := elem_reads w us e
  rw [hus] at hr
  refine wpList_append_any _ hgd s x t ho base e i z size bytes ht hi hz hsize hby hzs hsz v n xs hs (hown.alloc _) _ _ 1 1 us.toList hx hr h1 h63 hbytes (by simp; omega) ?_
  intro v' w' h2 h3 h4
  exact h v' w' h2 h3 (by rw [World.size_alloc] at h4; exact h4)
theorem reads_grown {w w' : World} {B size n : Nat} {A : Option Addr} {xs : List Value} {row : Option Nat} (h : Reads w B size A n xs) (hB : B ≤ w.heap.size) (hg : w.grownBy w' row) (hne : 0 < n → ∀ ad, A = some ad → row ≠ some ad.block) : Reads w' B size A n xs := by
  refine ⟨h.1, fun hn => ?_⟩
  obtain ⟨ad, rfl, hb, hc⟩ := h.2 hn
  refine ⟨ad, rfl, hb, fun j u hu => ?_⟩
  have h2 : w'.heap[(ad.add j).block]? = w.heap[(ad.add j).block]? := by
    rw [block_of_add]
    exact hg.block ad.block (by omega) (fun q => hne hn ad rfl q.symm)
  have h3 := hc j u hu
  simp only [World.cell?] at h3 ⊢
  rw [h2]
  exact h3
structure AcI (w : World) (g : Nat) (T : Th) (A : Option Addr) (n c : Nat) (v : Value) (L : List Mk) (W : World) : Prop where
  aw : AwI w g T A n c W
  row : W.ownsRow (g + 1) 49 2 v L.length (L.flatMap encM)
  dif : 0 < n → ∀ ad, A = some ad → v.ownBlock ≠ some ad.block
theorem AcI.keep {w W W' : World} {g : Nat} {T : Th} {A : Option Addr} {n c : Nat} {v : Value} {L : List Mk} (h : AcI w g T A n c v L W) (hb : Below W.heap.size W W') : AcI w g T A n c v L W' :=
  ⟨h.aw.keep hb, own_below h.row hb, h.dif⟩
theorem own_far5 {W : World} {base g n : Nat} {v : Value} {xs : List Value} (h : W.ownsRow base 49 2 v n xs) (hg : g < base) {x y z u q : Value} :
    (((((W.setCell ⟨g, 0, none⟩ x).setCell ⟨g, 1, none⟩ y).setCell ⟨g, 2, none⟩ z).setCell ⟨g, 3, none⟩ u).setCell ⟨g, 4, none⟩ q).ownsRow base 49 2 v n xs := by
  have hne : v.ownBlock ≠ some g := fun e => by have := own_block_ge h g e; omega
  exact own_far (own_far (own_far (own_far (own_far h (p := ⟨g, 0, none⟩) hne _) (p := ⟨g, 1, none⟩) hne _) (p := ⟨g, 2, none⟩) hne _) (p := ⟨g, 3, none⟩) hne _) (p := ⟨g, 4, none⟩) hne _
theorem AcI.put {w W W' : World} {g : Nat} {T T' : Th} {A A' : Option Addr} {n c n' c' : Nat} {v : Value} {L : List Mk} (h : AcI w g T A n c v L W) (hb : Below W.heap.size W W') (hR : RdM W' A' n' T'.l) (hf : ∀ ad, A' = some ad → W.heap.size ≤ ad.block) :
    AcI w g T' A' n' c' v L (((((W'.setCell ⟨g, 0, none⟩ (.int .i64 T'.o)).setCell ⟨g, 1, none⟩ (.int .i64 T'.r)).setCell ⟨g, 2, none⟩ (.int .i64 T'.t)).setCell ⟨g, 3, none⟩ (.int .i64 T'.b)).setCell ⟨g, 4, none⟩ (.slice A' n' c')) :=
  ⟨h.aw.put hb hR hf, own_far5 (own_below h.row hb) (Nat.lt_succ_self g), fun _ ad e q => by have h1 := own_lt h.row ad.block q; have h2 := hf ad e; omega⟩
theorem AcI.new {w W : World} {g : Nat} {T : Th} {A : Option Addr} {n c : Nat} {v : Value} {L : List Mk} (h : AcI w g T A n c v L W) (x : Obj) : AcI w g T A n c v L (W.alloc x) := h.keep ((Below.refl _ W).alloc (Nat.le_refl _) x)
theorem AcI.grow {w W w' : World} {g : Nat} {T : Th} {A : Option Addr} {n c : Nat} {v v' : Value} {L : List Mk} (h : AcI w g T A n c v L W) {m : Mk}
    (h2 : w'.ownsRow (g + 1) 49 2 v' (L.length + 1) (L.flatMap encM ++ (#[Value.int .i64 m.t, .int .i64 m.n] : Array Value).toList)) (h3 : (W.alloc (.cells #[.int .i64 m.t, .int .i64 m.n] 49)).grownBy w' v.ownBlock) (h4 : v'.ownBlock = v.ownBlock ∨ v'.ownBlock = some (W.heap.size + 1)) :
    AcI w g T A n c v' (L ++ [m]) w' := by
  have hn := h.new (.cells #[.int .i64 m.t, .int .i64 m.n] 49)
  have hgn : v.ownBlock ≠ some g := fun e => by have := own_block_ge h.row g e; omega
  refine ⟨⟨hn.aw.blk.grown h3 (fun e => hgn e.symm), Reads.more (reads_grown hn.aw.rd (Nat.le_refl _) h3 h.dif) h3.size, h.aw.ne, hn.aw.bel.grown h3 hn.aw.bel.size (fun k e => by have h9 := own_block_ge h.row k e; have := h.aw.low; omega), h.aw.low⟩, ?_, fun hn0 ad e q => ?_⟩
  · rw [List.length_append, List.flatMap_append]
    exact h2
  · rcases h4 with h4 | h4
    · exact h.dif hn0 ad e (h4 ▸ q)
    · rw [h4] at q
      injection q with q
      obtain ⟨ad', e3, hlt, _⟩ := h.aw.rd.2 hn0
      rw [e] at e3
      injection e3 with e3
      rw [← e3] at hlt
      omega
end Go.Proofs.Ythkpkjigfaannaa
