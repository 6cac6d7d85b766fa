/- Words for memory: a slice that reads as a list of cells, a block that is known whole, owned rows; stores, loads and appends of whole rows. No condition. -/
import Derived.WalkKit
import Derived.WalkSpells
import Derived.WalkLawsBesides
import Derived.Outline
import Derived.Lib.Hide
import Derived.Handy
import Derived.Maps.AppendAt
import Derived.Deep.AppendLies
import Derived.Deep.Draws
import Derived.Deep.RegionHeld3
import Derived.Deep.QuietTactic
import Derived.BigQuiet
import Derived.Deep.DeepFit
import Derived.Deep.DeepMust
import Derived.Deep.LoopGhost
import Derived.OwnWalk
import Derived.RegionTactic
import Derived.ShutString
import Derived.Laws.Rows
import Derived.Laws.CopyRow
import Derived.Lib.AppendZerosOnto
import Derived.Lib.AppendZeros
import Derived.Lib.Overlaps
import Derived.ProofKit
import Derived.OpenShut
import Derived.ChangeOld
import Derived.Deep.Slices
import Derived.Deep.Fields
import Derived.ChangeSame
import Derived.Lib.SmallJoins
namespace Go.Proofs.Ytanmndhdhlmjgaa
open Go.RowKit
theorem block_of_add (a : Addr) (n : Nat) : (a.add n).block = a.block := by unfold Addr.add; split <;> rfl
theorem add_of_add (a : Addr) (i j : Nat) : (a.add i).add j = a.add (i + j) := by
  unfold Addr.add
  by_cases hi : i = 0 <;> by_cases hj : j = 0 <;> simp [hi, hj, Nat.add_assoc]
/-- the slice value with address A and length n holds the cells xs, below block B -/
def Reads (w : World) (B size : Nat) (A : Option Addr) (n : Nat) (xs : List Value) : Prop :=
  xs.length = n * size ∧ (0 < n → ∃ ad, A = some ad ∧ ad.block < B ∧ ∀ j u, xs[j]? = some u → w.cell? (ad.add j) = some u)
section
variable {w w' : World} {B B' size n : Nat} {A : Option Addr} {xs : List Value}
theorem Reads.none_ : Reads w B size A 0 [] := ⟨by simp, fun h => absurd h (by omega)⟩
theorem Reads.at_ {k : Nat} (h : Reads w B 1 A n xs) (hk : k < n) : ∃ ad u, A = some ad ∧ ad.block < B ∧ xs[k]? = some u ∧ w.cell? (ad.add k) = some u := by
  obtain ⟨ad, e, hb, hc⟩ := h.2 (by omega)
  have hl : k < xs.length := by have := h.1; omega
  exact ⟨ad, xs[k], e, hb, List.getElem?_eq_getElem hl, hc k _ (List.getElem?_eq_getElem hl)⟩
theorem Reads.keep (h : Reads w B size A n xs) (hk : ∀ p : Addr, p.block < B → w'.cell? p = w.cell? p) : Reads w' B size A n xs :=
  ⟨h.1, fun hn => by
    obtain ⟨ad, e, hb, hc⟩ := h.2 hn
    exact ⟨ad, e, hb, fun j u hu => (hk _ (by rw [block_of_add]; exact hb)).trans (hc j u hu)⟩⟩
theorem Reads.more (h : Reads w B size A n xs) (hB : B ≤ B') : Reads w B' size A n xs :=
  ⟨h.1, fun hn => by
    obtain ⟨ad, e, hb, hc⟩ := h.2 hn
    exact ⟨ad, e, by omega, hc⟩⟩
theorem Reads.below (h : Reads w B size A n xs) (hb : Below B w w') : Reads w' B size A n xs := h.keep fun _ hp => hb.cell hp
theorem Reads.drew (h : Reads w B size A n xs) : Reads w.drew B size A n xs := h
theorem Reads.drewN (h : Reads w B size A n xs) (k : Nat) : Reads (w.drewN k) B size A n xs := h
theorem Reads.alloc (h : Reads w B size A n xs) (hB : B ≤ w.heap.size) (o : Obj) : Reads (w.alloc o) B size A n xs := h.keep fun p hp => World.cell?_alloc_lt w o p (by omega)
theorem Reads.setCell (h : Reads w B size A n xs) {p : Addr} (hB : B ≤ p.block) (u : Value) : Reads (w.setCell p u) B size A n xs :=
  h.keep fun q hq => World.cell?_setCell_other w p q u (fun e => by subst e; omega)
theorem Reads.grown (h : Reads w B size A n xs) {row : Option Nat} (hg : w.grownBy w' row) (hB : B ≤ w.heap.size) (hr : ∀ g, row = some g → B ≤ g) : Reads w' B size A n xs :=
  h.keep fun p hp => World.cell?_of_block (hg.block p.block (by omega) (fun e => by have := hr _ e.symm; omega))
theorem Reads.cut (h : Reads w B size A n xs) {k cap : Nat} (hk : k ≤ n) (hc : n ≤ cap) :
    Reads w B size (if cap = k then A else A.map (·.add (k * size))) (n - k) (xs.drop (k * size)) := by
  refine ⟨by rw [List.length_drop, h.1, Nat.sub_mul], fun hn => ?_⟩
  obtain ⟨ad, rfl, hb, hcell⟩ := h.2 (by omega)
  rw [if_neg (by omega)]
  refine ⟨ad.add (k * size), rfl, by rw [block_of_add]; exact hb, fun j u hu => ?_⟩
  rw [add_of_add]
  exact hcell _ u (by rw [← hu, List.getElem?_drop])
theorem Reads.take (h : Reads w B size A n xs) {k : Nat} (hk : k ≤ n) : Reads w B size A k (xs.take (k * size)) := by
  refine ⟨by rw [List.length_take, h.1]; exact Nat.min_eq_left (Nat.mul_le_mul_right _ hk), fun hn => ?_⟩
  obtain ⟨ad, rfl, hb, hcell⟩ := h.2 (by omega)
  refine ⟨ad, rfl, hb, fun j u hu => hcell j u ?_⟩
  rw [List.getElem?_take] at hu
  split at hu
  · exact hu
  · cases hu
theorem Reads.of_own {base : Nat} {e : TypeId} {c : Nat} (h : w.ownsRow base e size (.slice A n c) n xs) : Reads w w.heap.size size A n xs := by
  refine ⟨h.1, fun hn => ?_⟩
  obtain ⟨g, cap, hv, _, hlt⟩ := h.form hn
  have hA : A = some ⟨g, 0, none⟩ := by injection hv
  subst hA
  exact ⟨_, rfl, hlt, h.cells (g := g) rfl⟩
end
/-- block g is just the cells cs of element type t, none frozen -/
def Blk (w : World) (g : Nat) (t : TypeId) (cs : Array Value) : Prop := w.heap[g]? = some (.cells cs t (0, 0))
section
variable {w w' : World} {g : Nat} {t : TypeId} {cs : Array Value}
theorem Blk.lt (h : Blk w g t cs) : g < w.heap.size := by
  rcases Nat.lt_or_ge g w.heap.size with hlt | hge
  · exact hlt
  · unfold Blk at h; rw [Array.getElem?_eq_none hge] at h; cases h
theorem Blk.cell (h : Blk w g t cs) (i : Nat) : w.cell? ⟨g, i, none⟩ = cs[i]? := cell_of_row w g i cs t (0, 0) h
theorem Blk.frozen (h : Blk w g t cs) (i : Nat) : w.frozen? ⟨g, i, none⟩ = false := by
  unfold Blk at h
  simp [World.frozen?, h]
theorem Blk.new (w : World) (t : TypeId) (cs : Array Value) : Blk (w.alloc (.cells cs t)) w.heap.size t cs := heap_alloc_new w _
theorem Blk.drew (h : Blk w g t cs) : Blk w.drew g t cs := h
theorem Blk.drewN (h : Blk w g t cs) (n : Nat) : Blk (w.drewN n) g t cs := h
theorem Blk.alloc (h : Blk w g t cs) (o : Obj) : Blk (w.alloc o) g t cs := (Below.heap_alloc w o g h.lt).trans h
theorem Blk.set_ (h : Blk w g t cs) (i : Nat) (u : Value) : Blk (w.setCell ⟨g, i, none⟩ u) g t (cs.setIfInBounds i u) := by
  unfold Blk at h ⊢
  simp [World.setCell, Array.getElem?_modify, h]
theorem Blk.far (h : Blk w g t cs) {p : Addr} (hp : g ≠ p.block) (u : Value) : Blk (w.setCell p u) g t cs := (Below.heap_setCell w p u g hp).trans h
theorem Blk.below {B : Nat} (h : Blk w g t cs) (hb : Below B w w') (hg : g < B) : Blk w' g t cs := (hb.block g hg).trans h
theorem Blk.grown {row : Option Nat} (h : Blk w g t cs) (hb : w.grownBy w' row) (hg : some g ≠ row) : Blk w' g t cs := (hb.block g h.lt hg).trans h
theorem Blk.setRow (h : Blk w g t cs) (cs' : Array Value) : Blk (w.setRow g cs') g t cs' := setRow_heap _ _ _ _ _ _ h
theorem Blk.reads (h : Blk w g t cs) {size n : Nat} (hs : cs.size = n * size) : Reads w w.heap.size size (some ⟨g, 0, none⟩) n cs.toList := by
  refine ⟨by simpa using hs, fun _ => ⟨_, rfl, h.lt, fun j u hu => ?_⟩⟩
  have e : (⟨g, 0, none⟩ : Addr).add j = ⟨g, j, none⟩ := by unfold Addr.add; split <;> simp_all
  rw [e, h.cell]
  simpa using hu
end
theorem cell_new_l (W : World) (v : Value) (t : TypeId) : (W.alloc (.cells #[v] t)).cell? ⟨W.heap.size, 0, none⟩ = some v ∧ (W.alloc (.cells #[v] t)).frozen? ⟨W.heap.size, 0, none⟩ = false :=
  ⟨(Blk.new W t #[v]).cell 0, (Blk.new W t #[v]).frozen 0⟩
theorem reads_marked (w : World) (C : Array Value) (e : TypeId) (fr : Nat × Nat) : Reads (w.alloc (.cells C e fr)) (w.alloc (.cells C e fr)).heap.size 1 (some ⟨w.heap.size, 0, none⟩) C.size C.toList := by
  refine ⟨by simp, fun _ => ⟨_, rfl, by simp, fun j u hu => ?_⟩⟩
  have e : (⟨w.heap.size, 0, none⟩ : Addr).add j = ⟨w.heap.size, j, none⟩ := by unfold Addr.add; split <;> simp_all
  rw [e, cell_of_row _ _ _ _ _ _ (heap_alloc_new _ _)]
  simpa using hu
def u8s (l : List Nat) : List Value := l.map fun x : Nat => .int .u8 (x : Int)
theorem below_setRow {B : Nat} {a w : World} (h : Below B a w) {g : Nat} (hg : B ≤ g) (cs : Array Value) : Below B a (w.setRow g cs) :=
  h.trans ⟨rfl, rfl, rfl, by simp, fun j hj => setRow_other _ _ _ _ (by omega)⟩
theorem below_drewN {B : Nat} {a w : World} (h : Below B a w) (n : Nat) : Below B a (w.drewN n) := ⟨h.os, h.tape, h.output, h.size, h.block⟩
theorem wpList_store_row {P : Program} {ops : Array Oper} {rest : List Oper} {o : Oper} {a : Act} {w : World} {Q : Exit → Act → World → Prop} (hgd : o.guard = none) (ty : TypeId) (x y : Operand) (ho : o.op = .store ty x y)
    (g : Nat) (cells : Array Value) (hx : a.eval x = .pointer (some ⟨g, 0, none⟩)) (hy : a.eval y = .agg cells)
    (t : TypeId) (old : Array Value) (hg : w.heap[g]? = some (.cells old t (0, 0))) (hi : (P.info? ty).map (·.size) = some cells.size)
    (hold : old.size = cells.size) (h1 : cells.all (·.oneCell') = true)
    (h : wpList P ops Q rest (a.put o.dst undef) (w.setRow g cells)) : wpList P ops Q (o :: rest) a w :=
  wpList_plain hgd fun _ hK => wp_store_row ty x y ho g cells hx hy t old hg hi hold h1 (hK _ _ h)
section
variable {P : Program} (w : World)

theorem run_append_of_nil (base : Nat) (t ty e : TypeId) (i : TypeInfo) (size : Nat) (ht : P.underlying t = some (.slice e)) (hi : P.info? e = some i)
    (v : Value) (n : Nat) (xs : List Value) (hown : w.ownsRow base e size v n xs) (c : Nat) : (Builtin.append_ #[t, t] ty #[v, .slice none 0 c]).run P w = .ok v w := by
  rcases hown.2 with ⟨rfl, rfl⟩ | ⟨g, cap, cur, rfl, _, _, hnc, _⟩
  · simp [Builtin.append_, run_underlying ht, sizeOf, typeInfo, hi, Builtin.lenOf, Builtin.firstCells]
  · simp [Builtin.append_, run_underlying ht, sizeOf, typeInfo, hi, Builtin.lenOf, Builtin.firstCells, hnc, storeCells]

theorem run_append_any (base : Nat) (t ty e : TypeId) (i : TypeInfo) (z : Value) (size bytes : Nat) (ht : P.underlying t = some (.slice e)) (hi : P.info? e = some i) (hz : i.zero = some z)
    (hsize : i.size = size) (hby : i.bytes = bytes) (hzs : z.cells.size = size) (hsz : 0 < size)
    (v : Value) (n : Nat) (xs : List Value) (hown : w.ownsRow base e size v n xs)
    (B : Nat) (A : Option Addr) (m c : Nat) (news : List Value) (hr : Reads w B size A m news) (h1 : ∀ u ∈ news, u.oneCell' = true)
    (h63 : n + m ≤ maxLen) (hbytes : (n + m) * bytes ≤ 140737488355328) (hbase : base ≤ w.heap.size) :
    ∃ v' w', (Builtin.append_ #[t, t] ty #[v, .slice A m c]).run P w = .ok v' w' ∧ w'.ownsRow base e size v' (n + m) (xs ++ news) ∧ w.grownBy w' v.ownBlock ∧
      (v'.ownBlock = v.ownBlock ∨ v'.ownBlock = some w.heap.size) := by
  rcases A with _ | ad
  · have hm : m = 0 := by
      rcases Nat.eq_zero_or_pos m with h0 | h0
      · exact h0
      · obtain ⟨ad, h, _⟩ := hr.2 h0
        cases h
    subst hm
    have hn : news = [] := List.eq_nil_of_length_eq_zero (by simpa using hr.1)
    subst hn
    exact ⟨v, w, run_append_of_nil w base t ty e i size ht hi v n xs hown c, by simpa using hown, World.grownBy.refl w _, .inl rfl⟩
  · have hcells : ∀ j u, news[j]? = some u → w.cell? (ad.add j) = some u := by
      intro j u hu
      rcases Nat.eq_zero_or_pos m with h0 | h0
      · subst h0
        have hn : news = [] := List.eq_nil_of_length_eq_zero (by simpa using hr.1)
        subst hn
        simp at hu
      · obtain ⟨ad', h, _, hc⟩ := hr.2 h0
        injection h with h
        subst h
        exact hc j u hu
    obtain ⟨v', w', hrun, h2, h3, _, h5⟩ := run_append_own_at (P := P) w base t ty e i z size bytes ht hi hz hsize hby hzs hsz v n xs hown ad m c news hr.1 hcells h1 h63 hbytes hbase
    exact ⟨v', w', hrun, h2, h3, h5⟩

theorem wp_append_any {o : Oper} {a : Act} {K : Act → World → Prop} {Q : Exit → Act → World → Prop} (s x : Operand) (t : TypeId)
    (ho : o.op = .call { callee := .builtin .append, args := #[s, x], argTypes := #[t, t] })
    (base : Nat) (e : TypeId) (i : TypeInfo) (z : Value) (size bytes : Nat) (ht : P.underlying t = some (.slice e)) (hi : P.info? e = some i) (hz : i.zero = some z)
    (hsize : i.size = size) (hby : i.bytes = bytes) (hzs : z.cells.size = size) (hsz : 0 < size)
    (v : Value) (n : Nat) (xs : List Value) (hs : a.eval s = v) (hown : w.ownsRow base e size v n xs)
    (B : Nat) (A : Option Addr) (m c : Nat) (news : List Value) (hx : a.eval x = .slice A m c) (hr : Reads w B size A m news) (h1 : ∀ u ∈ news, u.oneCell' = true)
    (h63 : n + m ≤ maxLen) (hbytes : (n + m) * bytes ≤ 140737488355328) (hbase : base ≤ w.heap.size)
    (h : ∀ v' w', w'.ownsRow base e size v' (n + m) (xs ++ news) → w.grownBy w' v.ownBlock → (v'.ownBlock = v.ownBlock ∨ v'.ownBlock = some w.heap.size) → K (a.put o.dst v') w') : o.wp P a w K Q := by
  obtain ⟨v', w', hrun, h2, h3, h4⟩ := run_append_any (P := P) w base t o.type e i z size bytes ht hi hz hsize hby hzs hsz v n xs hown B A m c news hr h1 h63 hbytes hbase
  unfold Oper.wp execOp
  simp only [ho, resolve, invoke, builtin, Sem.run_bind, Sem.run_pure, Result.andThen_ok, List.map_toArray, List.map_cons, List.map_nil, hs, hx, hrun]
  exact h v' w' h2 h3 h4

theorem wpList_append_any {ops : Array Oper} {rest : List Oper} {o : Oper} {a : Act} {Q : Exit → Act → World → Prop} (hgd : o.guard = none) (s x : Operand) (t : TypeId)
    (ho : o.op = .call { callee := .builtin .append, args := #[s, x], argTypes := #[t, t] })
    (base : Nat) (e : TypeId) (i : TypeInfo) (z : Value) (size bytes : Nat) (ht : P.underlying t = some (.slice e)) (hi : P.info? e = some i) (hz : i.zero = some z)
    (hsize : i.size = size) (hby : i.bytes = bytes) (hzs : z.cells.size = size) (hsz : 0 < size)
    (v : Value) (n : Nat) (xs : List Value) (hs : a.eval s = v) (hown : w.ownsRow base e size v n xs)
    (B : Nat) (A : Option Addr) (m c : Nat) (news : List Value) (hx : a.eval x = .slice A m c) (hr : Reads w B size A m news) (h1 : ∀ u ∈ news, u.oneCell' = true)
    (h63 : n + m ≤ maxLen) (hbytes : (n + m) * bytes ≤ 140737488355328) (hbase : base ≤ w.heap.size)
    (h : ∀ v' w', w'.ownsRow base e size v' (n + m) (xs ++ news) → w.grownBy w' v.ownBlock → (v'.ownBlock = v.ownBlock ∨ v'.ownBlock = some w.heap.size) → wpList P ops Q rest (a.put o.dst v') w') : wpList P ops Q (o :: rest) a w :=
  wpList_plain hgd fun _ hK => wp_append_any w s x t ho base e i z size bytes ht hi hz hsize hby hzs hsz v n xs hs hown B A m c news hx hr h1 h63 hbytes hbase fun v' w' h2 h3 h4 => hK _ _ (h v' w' h2 h3 h4)

theorem step_append_any {ops : Array Oper} {o : Oper} {a : Act} {K : Act → World → Prop} {Q : Exit → Act → World → Prop} {E : Prop} (hgd : o.guard = none) (s x : Operand) (t : TypeId)
    (ho : o.op = .call { callee := .builtin .append, args := #[s, x], argTypes := #[t, t] })
    (base : Nat) (e : TypeId) (i : TypeInfo) (z : Value) (size bytes : Nat) (ht : P.underlying t = some (.slice e)) (hi : P.info? e = some i) (hz : i.zero = some z)
    (hsize : i.size = size) (hby : i.bytes = bytes) (hzs : z.cells.size = size) (hsz : 0 < size)
    (v : Value) (n : Nat) (xs : List Value) (hs : a.eval s = v) (hown : w.ownsRow base e size v n xs)
    (B : Nat) (A : Option Addr) (m c : Nat) (news : List Value) (hx : a.eval x = .slice A m c) (hr : Reads w B size A m news) (h1 : ∀ u ∈ news, u.oneCell' = true)
    (h63 : n + m ≤ maxLen) (hbytes : (n + m) * bytes ≤ 140737488355328) (hbase : base ≤ w.heap.size)
    (h : ∀ v' w', w'.ownsRow base e size v' (n + m) (xs ++ news) → w.grownBy w' v.ownBlock → (v'.ownBlock = v.ownBlock ∨ v'.ownBlock = some w.heap.size) → K (a.put o.dst v') w') :
    if Region.wanted o (yielded ops a.tmps) = true then Oper.wp P o a w K Q else E := by
  have hw : Region.wanted o (yielded ops a.tmps) = true := by simp [Region.wanted, hgd]
  rw [if_pos hw]
  exact wp_append_any w s x t ho base e i z size bytes ht hi hz hsize hby hzs hsz v n xs hs hown B A m c news hx hr h1 h63 hbytes hbase h
end
theorem own_slice {w : World} {base : Nat} {e : TypeId} {size : Nat} {v : Value} {n : Nat} {xs : List Value} (h : w.ownsRow base e size v n xs) : ∃ A c, v = .slice A n c ∧ n ≤ c ∧ c ≤ maxLen ∧ Reads w w.heap.size size A n xs := by
  rcases h.2 with ⟨rfl, rfl⟩ | ⟨g, cap, cur, rfl, _, _, hc, hm, _, _⟩
  · have : xs = [] := List.eq_nil_of_length_eq_zero (by simpa using h.1)
    subst this
    exact ⟨none, 0, rfl, Nat.le_refl _, Nat.zero_le _, Reads.none_⟩
  · exact ⟨_, _, rfl, hc, hm, Reads.of_own h⟩
theorem own_empty (w : World) (e : TypeId) (size : Nat) : (w.alloc (.cells #[] e)).ownsRow w.heap.size e size (.slice (some ⟨w.heap.size, 0, none⟩) 0 0) 0 [] :=
  ⟨by simp, .inr ⟨w.heap.size, 0, #[], rfl, Nat.le_refl _, heap_alloc_new _ _, Nat.le_refl _, by unfold maxLen; omega, by simp, by simp⟩⟩
theorem own_blk {w : World} {base : Nat} {e : TypeId} {size : Nat} {v : Value} {n : Nat} {xs : List Value} (h : w.ownsRow base e size v n xs) (hn : 0 < n) :
    ∃ g cap cur, v = .slice (some ⟨g, 0, none⟩) n cap ∧ base ≤ g ∧ Blk w g e cur ∧ n ≤ cap ∧ cap ≤ maxLen ∧ cur.size = cap * size ∧ cur.toList.take (n * size) = xs := by
  rcases h.2 with ⟨_, h0⟩ | ⟨g, cap, cur, h1, h2, h3, h4, h5, h6, h7⟩
  · omega
  · exact ⟨g, cap, cur, h1, h2, h3, h4, h5, h6, h7⟩
theorem Blk.reads_take {w : World} {g : Nat} {t : TypeId} {cs : Array Value} (h : Blk w g t cs) {size n : Nat} (hs : n * size ≤ cs.size) : Reads w w.heap.size size (some ⟨g, 0, none⟩) n (cs.toList.take (n * size)) := by
  refine ⟨by simp; omega, fun _ => ⟨_, rfl, h.lt, fun j u hu => ?_⟩⟩
  have e : (⟨g, 0, none⟩ : Addr).add j = ⟨g, j, none⟩ := by unfold Addr.add; split <;> simp_all
  rw [e, h.cell]
  rw [List.getElem?_take] at hu
  split at hu
  · simpa using hu
  · cases hu
theorem take_set {cur : Array Value} {n i : Nat} {xs : List Value} {u : Value} (h : cur.toList.take n = xs) : (cur.setIfInBounds i u).toList.take n = xs.set i u := by
  rw [← h, Array.toList_setIfInBounds]
  apply List.ext_getElem?
  intro j
  simp only [List.getElem?_take, List.getElem?_set, List.length_take, Array.length_toList]
  by_cases hj : j < n <;> by_cases hij : i = j <;> simp [hj, hij]
  · by_cases hc : j < cur.size
    · rw [if_pos hc, if_pos (by omega)]
    · rw [if_neg hc, if_neg (by omega)]
  · omega
theorem Reads.plain {w : World} {B size n : Nat} {A : Option Addr} {xs : List Value} (h : Reads w B size A n xs) (hn : 0 < n) (hs : 0 < size) :
    ∃ b off, A = some ⟨b, off, none⟩ ∧ b < B ∧ ∀ j u, xs[j]? = some u → w.cell? ⟨b, off + j, none⟩ = some u := by
  obtain ⟨⟨b, off, sp⟩, rfl, hb, hc⟩ := h.2 hn
  have hl : 0 < xs.length := by rw [h.1]; exact Nat.mul_pos hn hs
  have h0 := hc 0 _ (List.getElem?_eq_getElem hl)
  have hsp : sp = none := by
    cases sp with
    | none => rfl
    | some s =>
      exfalso
      simp [Addr.add, World.cell?] at h0
      split at h0 <;> simp_all
  subst hsp
  refine ⟨b, off, rfl, hb, fun j u hu => ?_⟩
  have := hc j u hu
  unfold Addr.add at this
  split at this
  · rename_i e; subst e; exact this
  · exact this
theorem run_index_arr {P : Program} {t e : TypeId} {n : Nat} {cs : Array Value} {k : IntKind} {i : Nat} {v : Value} {w : World} {d : TypeDesc} (h : P.underlying t = some (.array n e)) (he : P.underlying e = some d) (hd : (match d with | .struct _ | .array _ _ => true | _ => false) = false)
    (hs : (P.info? e).map (·.size) = some 1) (hi : i < n) (hv : cs[i]? = some v) : (Instr.index t (.agg cs) (.int k (i : Int))).run P w = .ok v w := by
  have hagg : (isAgg e).run P w = .ok false w := by
    unfold isAgg
    rw [Sem.run_bind, run_underlying he w]
    cases d <;> simp_all
  cases hq : P.info? e with
  | none => simp [hq] at hs
  | some q =>
    have hs1 : q.size = 1 := by simpa [hq] using hs
    simp [Instr.index, asIntOf, Sem.run_bind, run_underlying h, part, hagg, sizeOf, typeInfo, hq, hs1, hv]
    intro hc
    omega
theorem own_block_ge {w : World} {base : Nat} {e : TypeId} {size : Nat} {v : Value} {n : Nat} {xs : List Value} (h : w.ownsRow base e size v n xs) : ∀ k, v.ownBlock = some k → base ≤ k := by
  intro k hk
  rcases h.2 with ⟨rfl, _⟩ | ⟨g, cap, cur, rfl, hb, _⟩
  · simp [Value.ownBlock] at hk
  · simp [Value.ownBlock] at hk
    omega
theorem elem_reads (w : World) (us : Array Value) (e : TypeId) : Reads (w.alloc (.cells us e)) (w.heap.size + 1) us.size (some ⟨w.heap.size, 0, none⟩) 1 us.toList := by
  have h := (Blk.new w e us).reads (size := us.size) (n := 1) (by omega)
  exact h.more (by simp)
theorem wpList_append_elem {P : Program} {ops : Array Oper} {rest : List Oper} {o : Oper} {a : Act} {Q : Exit → Act → World → Prop} (w : World) (hgd : o.guard = none) (s x : Operand) (t : TypeId)
    (ho : o.op = .call { callee := .builtin .append, args := #[s, x], argTypes := #[t, t] })
    (base : Nat) (e : TypeId) (i : TypeInfo) (z : Value) (size bytes : Nat) (ht : P.underlying t = some (.slice e)) (hi : P.info? e = some i) (hz : i.zero = some z)
    (hsize : i.size = size) (hby : i.bytes = bytes) (hzs : z.cells.size = size) (hsz : 0 < size)
    (v : Value) (n : Nat) (xs : List Value) (us : Array Value) (hus : us.size = size) (hs : a.eval s = v) (hx : a.eval x = .slice (some ⟨w.heap.size, 0, none⟩) 1 1) (hown : w.ownsRow base e size v n xs)
    (h1 : ∀ u ∈ us.toList, u.oneCell' = true)
    (h63 : n + 1 ≤ maxLen) (hbytes : (n + 1) * bytes ≤ 140737488355328) (hbase : base ≤ w.heap.size)
    (h : ∀ v' w', w'.ownsRow base e size v' (n + 1) (xs ++ us.toList) → Below base w w' → wpList P ops Q rest (a.put o.dst v') w') : wpList P ops Q (o :: rest) a (w.alloc (.cells us e)) := by
  have hr := elem_reads w us e
  rw [hus] at hr
  refine wpList_append_any _ hgd s x t ho base e i z size bytes ht hi hz hsize hby hzs hsz v n xs hs (hown.alloc _) _ _ 1 1 us.toList hx hr h1 h63 hbytes (by simp; omega) ?_
  intro v' w' h2 h3 _
  exact h v' w' h2 (((Below.refl base w).alloc hbase _).grown h3 (by simp; omega) (own_block_ge hown))
theorem Reads.up {w w' : World} {size n : Nat} {A : Option Addr} {xs : List Value} (h : Reads w w.heap.size size A n xs) (hb : Below w.heap.size w w') : Reads w' w'.heap.size size A n xs := (h.below hb).more hb.size
theorem reads_sub {w : World} {B bb off : Nat} {xs : List Value} (hb : bb < B) (hc : ∀ j u, xs[j]? = some u → w.cell? ⟨bb, off + j, none⟩ = some u) (k m : Nat) (h : k + m ≤ xs.length) :
    Reads w B 1 (some ⟨bb, off + k, none⟩) m ((xs.drop k).take m) := by
  refine ⟨by simp; omega, fun _ => ⟨_, rfl, hb, fun j u hu => ?_⟩⟩
  have e : (⟨bb, off + k, none⟩ : Addr).add j = ⟨bb, off + (k + j), none⟩ := by
    unfold Addr.add
    split
    · rename_i h0; subst h0; rfl
    · simp [Nat.add_assoc]
  rw [e]
  refine hc (k + j) u ?_
  rw [List.getElem?_take] at hu
  split at hu
  · rwa [List.getElem?_drop] at hu
  · cases hu
theorem step_append_elem {P : Program} {ops : Array Oper} {o : Oper} {a : Act} {K : Act → World → Prop} {Q : Exit → Act → World → Prop} {E : Prop} (w : World) (hgd : o.guard = none) (s x : Operand) (t : TypeId)
    (ho : o.op = .call { callee := .builtin .append, args := #[s, x], argTypes := #[t, t] })
    (base : Nat) (e : TypeId) (i : TypeInfo) (z : Value) (size bytes : Nat) (ht : P.underlying t = some (.slice e)) (hi : P.info? e = some i) (hz : i.zero = some z)
    (hsize : i.size = size) (hby : i.bytes = bytes) (hzs : z.cells.size = size) (hsz : 0 < size)
    (v : Value) (n : Nat) (xs : List Value) (us : Array Value) (hus : us.size = size) (hs : a.eval s = v) (hx : a.eval x = .slice (some ⟨w.heap.size, 0, none⟩) 1 1) (hown : w.ownsRow base e size v n xs)
    (h1 : ∀ u ∈ us.toList, u.oneCell' = true)
    (h63 : n + 1 ≤ maxLen) (hbytes : (n + 1) * bytes ≤ 140737488355328) (hbase : base ≤ w.heap.size)
    (h : ∀ v' w', w'.ownsRow base e size v' (n + 1) (xs ++ us.toList) → Below base w w' → K (a.put o.dst v') w') :
    if Region.wanted o (yielded ops a.tmps) = true then Oper.wp P o a (w.alloc (.cells us e)) K Q else E := by
  have hr := elem_reads w us e
  rw [hus] at hr
  refine step_append_any _ hgd s x t ho base e i z size bytes ht hi hz hsize hby hzs hsz v n xs hs (hown.alloc _) _ _ 1 1 us.toList hx hr h1 h63 hbytes (by simp; omega) ?_
  intro v' w' h2 h3 _
  exact h v' w' h2 (((Below.refl base w).alloc hbase _).grown h3 (by simp; omega) (own_block_ge hown))
end Go.Proofs.Ytanmndhdhlmjgaa

/- Lists of elements of a fixed number of cells, read in memory. No condition. -/
namespace Go.Proofs.Ytanmndhdhlmjgaa
open Go.RowKit
theorem flatMap_len {α : Type} {E : α → List Value} {sz : Nat} (hE : ∀ a, (E a).length = sz) (l : List α) : (l.flatMap E).length = l.length * sz := by
  induction l with
  | nil => simp
  | cons a l ih => rw [List.flatMap_cons, List.length_append, ih, hE, List.length_cons, Nat.succ_mul]; omega
theorem flatMap_at {α : Type} {E : α → List Value} {sz : Nat} (hE : ∀ a, (E a).length = sz) (l : List α) (k j : Nat) (hk : k < l.length) (hj : j < sz) : (l.flatMap E)[k * sz + j]? = (E l[k])[j]? := by
  induction l generalizing k with
  | nil => simp at hk
  | cons a l ih =>
    rw [List.flatMap_cons]
    cases k with
    | zero => rw [List.getElem?_append_left (by rw [hE]; omega)]; simp
    | succ k =>
      rw [List.getElem?_append_right (by rw [hE, Nat.succ_mul]; omega), hE, show (k + 1) * sz + j - sz = k * sz + j by rw [Nat.succ_mul]; omega, ih k (by simpa using hk)]
      simp
theorem flatMap_set {α : Type} {E : α → List Value} {sz : Nat} (hE : ∀ a, (E a).length = sz) (l : List α) (k : Nat) (h : k < l.length) (b : α) (j : Nat) (u : Value) (hj : j < sz) (hb : (E l[k]).set j u = E b) : (l.flatMap E).set (k * sz + j) u = (l.set k b).flatMap E := by
  induction l generalizing k with
  | nil => simp at h
  | cons a l ih =>
    rw [List.flatMap_cons]
    cases k with
    | zero =>
      rw [List.set_append, if_pos (by rw [hE]; omega), List.set_cons_zero, List.flatMap_cons, ← hb]
      simp
    | succ k =>
      rw [List.set_append, if_neg (by rw [hE, Nat.succ_mul]; omega), hE, show (k + 1) * sz + j - sz = k * sz + j by rw [Nat.succ_mul]; omega, ih k (by simpa using h) (by simpa using hb), List.set_cons_succ, List.flatMap_cons]
section
variable {w : World} {A : Option Addr} {n sz : Nat} {α : Type} {E : α → List Value} {l : List α}
theorem Reads.count (h : Reads w w.heap.size sz A n (l.flatMap E)) (hE : ∀ a, (E a).length = sz) (hsz : 0 < sz) : l.length = n := by
  have := h.1
  rw [flatMap_len hE] at this
  exact Nat.eq_of_mul_eq_mul_right hsz this
theorem Reads.elems (h : Reads w w.heap.size sz A n (l.flatMap E)) (hE : ∀ a, (E a).length = sz) (hsz : 0 < sz) (hn : 0 < n) : ∃ b off, A = some ⟨b, off, none⟩ ∧ b < w.heap.size ∧
    ∀ k, (hk : k < l.length) → ∀ j u, (E l[k])[j]? = some u → w.cell? ⟨b, off + (k * sz + j), none⟩ = some u := by
  obtain ⟨b, off, e, hb, hc⟩ := Reads.plain h hn hsz
  refine ⟨b, off, e, hb, fun k hk j u hu => ?_⟩
  have hj : j < sz := by rw [← hE l[k]]; exact (List.getElem?_eq_some_iff.1 hu).1
  exact hc _ _ (by rw [flatMap_at hE l k j hk hj]; exact hu)
theorem Reads.elems3 {E : α → List Value} {l : List α} (h : Reads w w.heap.size 3 A n (l.flatMap E)) (hE : ∀ a, (E a).length = 3) (hn : 0 < n) : ∃ b off, A = some ⟨b, off, none⟩ ∧ b < w.heap.size ∧
    ∀ k, (hk : k < l.length) → ∀ u v x, E l[k] = [u, v, x] → w.cell? ⟨b, off + k * 3, none⟩ = some u ∧ w.cell? ⟨b, off + k * 3 + 1, none⟩ = some v ∧ w.cell? ⟨b, off + k * 3 + 2, none⟩ = some x := by
  obtain ⟨b, off, e, hb, hc⟩ := h.elems hE (by omega) hn
  refine ⟨b, off, e, hb, fun k hk u v x he => ⟨?_, ?_, ?_⟩⟩
  · exact hc k hk 0 u (by rw [he]; rfl)
  · rw [Nat.add_assoc]; exact hc k hk 1 v (by rw [he]; rfl)
  · rw [Nat.add_assoc]; exact hc k hk 2 x (by rw [he]; rfl)
end
end Go.Proofs.Ytanmndhdhlmjgaa

/- More words for owned rows: a store into one, what keeps one. No condition. -/
namespace Go.Proofs.Ytanmndhdhlmjgaa
open Go.RowKit
theorem own_keep {w w' : World} {base : Nat} {e : TypeId} {size : Nat} {v : Value} {n : Nat} {xs : List Value} (h : w.ownsRow base e size v n xs) (hk : ∀ g, v.ownBlock = some g → w'.heap[g]? = w.heap[g]?) : w'.ownsRow base e size v n xs := by
  refine ⟨h.1, ?_⟩
  rcases h.2 with h0 | ⟨g, cap, cur, rfl, h2, h3, h4⟩
  · exact .inl h0
  · exact .inr ⟨g, cap, cur, rfl, h2, (hk g rfl).trans h3, h4⟩
theorem own_lt {w : World} {base : Nat} {e : TypeId} {size : Nat} {v : Value} {n : Nat} {xs : List Value} (h : w.ownsRow base e size v n xs) : ∀ g, v.ownBlock = some g → g < w.heap.size := by
  intro g hg
  rcases h.2 with ⟨rfl, _⟩ | ⟨g', cap, cur, rfl, h2, h3, h4⟩
  · simp [Value.ownBlock] at hg
  · simp [Value.ownBlock] at hg
    subst hg
    exact Blk.lt (t := e) h3
theorem own_alloc {w : World} {base : Nat} {e : TypeId} {size : Nat} {v : Value} {n : Nat} {xs : List Value} (h : w.ownsRow base e size v n xs) (o : Obj) : (w.alloc o).ownsRow base e size v n xs :=
  own_keep h fun g hg => Below.heap_alloc w o g (own_lt h g hg)
theorem own_far {w : World} {base : Nat} {e : TypeId} {size : Nat} {v : Value} {n : Nat} {xs : List Value} (h : w.ownsRow base e size v n xs) {p : Addr} (hp : v.ownBlock ≠ some p.block) (u : Value) : (w.setCell p u).ownsRow base e size v n xs :=
  own_keep h fun g hg => Below.heap_setCell w p u g (fun e => hp (by rw [← e]; exact hg))
theorem own_below {w w' : World} {base : Nat} {e : TypeId} {size : Nat} {v : Value} {n : Nat} {xs : List Value} (h : w.ownsRow base e size v n xs) (hb : Below w.heap.size w w') : w'.ownsRow base e size v n xs :=
  own_keep h fun g hg => hb.block g (own_lt h g hg)
theorem own_drew {w : World} {base : Nat} {e : TypeId} {size : Nat} {v : Value} {n : Nat} {xs : List Value} (h : w.ownsRow base e size v n xs) : w.drew.ownsRow base e size v n xs := h
theorem own_base {w : World} {base base' : Nat} {e : TypeId} {size : Nat} {v : Value} {n : Nat} {xs : List Value} (h : w.ownsRow base e size v n xs) (hb : base' ≤ base) : w.ownsRow base' e size v n xs := by
  refine ⟨h.1, ?_⟩
  rcases h.2 with h0 | ⟨g, cap, cur, h1, h2, h3⟩
  · exact .inl h0
  · exact .inr ⟨g, cap, cur, h1, by omega, h3⟩
theorem own_set {w : World} {base : Nat} {e : TypeId} {size : Nat} {g n c : Nat} {xs : List Value} (h : w.ownsRow base e size (.slice (some ⟨g, 0, none⟩) n c) n xs) (j : Nat) (u : Value) : (w.setCell ⟨g, j, none⟩ u).ownsRow base e size (.slice (some ⟨g, 0, none⟩) n c) n (xs.set j u) := by
  refine ⟨by simpa using h.1, ?_⟩
  rcases h.2 with ⟨h0, _⟩ | ⟨g', cap, cur, h1, h2, h3, h4, h5, h6, h7⟩
  · cases h0
  · have hg : g = g' ∧ c = cap := by
      injection h1 with ha _ hc
      injection ha with ha
      injection ha with hg
      exact ⟨hg, hc⟩
    obtain ⟨rfl, rfl⟩ := hg
    exact .inr ⟨g, c, _, rfl, h2, Blk.set_ h3 j u, h4, h5, by rw [Array.size_setIfInBounds]; exact h6, take_set h7⟩
theorem own_cell {w : World} {base : Nat} {e : TypeId} {size : Nat} {g n c : Nat} {xs : List Value} (h : w.ownsRow base e size (.slice (some ⟨g, 0, none⟩) n c) n xs) (j : Nat) (u : Value) (hu : xs[j]? = some u) : w.cell? ⟨g, j, none⟩ = some u ∧ w.frozen? ⟨g, j, none⟩ = false := by
  rcases h.2 with ⟨h0, _⟩ | ⟨g', cap, cur, h1, h2, h3, h4, h5, h6, h7⟩
  · cases h0
  · have hg : g = g' := by
      injection h1 with ha _ hc
      injection ha with ha
      injection ha
    subst hg
    refine ⟨?_, Blk.frozen h3 j⟩
    rw [Blk.cell h3, ← hu, ← h7]
    have hj : j < xs.length := (List.getElem?_eq_some_iff.1 hu).1
    rw [← h7, List.length_take] at hj
    rw [List.getElem?_take_of_lt (by omega)]
    simp
theorem results_cell_tmp {P : Program} {fn : Func} {p q : Tmp} {ty : TypeId} (h : fn.results = #[.cell p ty, .tmp q]) (tmps : Array Value) (w : World) (g : Nat) (t : TypeId) (cs : Array Value) (d : TypeDesc)
    (hp : tmps.getD p undef = .pointer (some ⟨g, 0, none⟩)) (hg : Blk w g t cs)
    (hu : P.underlying ty = some d) (hd : (match d with | .struct _ | .array _ _ => true | _ => false) = true) (hi : (P.info? ty).map (·.size) = some cs.size) :
    (results fn tmps).run P w = .ok (.tuple #[.agg cs, tmps.getD q undef]) w := by
  have hp' : tmps[p]?.getD undef = .pointer (some ⟨g, 0, none⟩) := by simpa using hp
  simp [results, h, hp', asAddr, run_loadVar_row w g t ty cs (0, 0) d hg hu hd hi]
end Go.Proofs.Ytanmndhdhlmjgaa

/- A region that draws its order and ends in one operation that waits for all others: the others in whatever order, and then that one. No condition. -/
namespace Go.Proofs.Ytanmndhdhlmjgaa
open Go.RowKit
section
variable {P : Program} {pre : Array Oper} {z : Oper} {Q : Exit → Act → World → Prop} {md : Region.Mode}
/-- behind all others: the last one -/
def snocQ (P : Program) (pre : Array Oper) (z : Oper) (Q : Exit → Act → World → Prop) : Exit → Act → World → Prop
  | .normal, a, w => wpOp P (pre.push z) Q pre.size (Q .normal) a w
  | e, a, w => Q e a w
/-- edges and guards look back; each operation but the last is waited for by a later one -/
def snocB (md : Region.Mode) (pre : Array Oper) (z : Oper) : Bool :=
  ((List.range (pre.size + 1)).all fun j => match (pre.push z)[j]? with
    | none => true
    | some o => (o.after.all fun e => !Region.binds md e || decide (e.on < j)) && (match o.guard with | none => true | some (g, _) => decide (g < pre.size))) &&
  ((List.range pre.size).all fun i => (List.range (pre.size + 1)).any fun j => decide (i < j) && (match (pre.push z)[j]? with
    | none => false
    | some o => o.after.toList.any fun e => Region.binds md e && e.on == i))
structure Snoc (md : Region.Mode) (pre : Array Oper) (z : Oper) : Prop where
  back : ∀ (j : Nat) (o : Oper), (pre.push z)[j]? = some o → ∀ e ∈ o.after, Region.binds md e = true → e.on < j
  gd : ∀ (j : Nat) (o : Oper), (pre.push z)[j]? = some o → ∀ (g : Nat) (b : Bool), o.guard = some (g, b) → g < pre.size
  cov : ∀ i, i < pre.size → ∃ (j : Nat) (o : Oper), i < j ∧ (pre.push z)[j]? = some o ∧ ∃ e ∈ o.after, Region.binds md e = true ∧ e.on = i
theorem push_lt {j : Nat} {o : Oper} (h : (pre.push z)[j]? = some o) : j < pre.size + 1 := by
  have := (Array.getElem?_eq_some_iff.1 h).1
  simpa using this
theorem snoc_of (h : snocB md pre z = true) : Snoc md pre z := by
  unfold snocB at h
  rw [Bool.and_eq_true, List.all_eq_true, List.all_eq_true] at h
  obtain ⟨h1, h2⟩ := h
  refine ⟨fun j o ho e he hb => ?_, fun j o ho g b hg => ?_, fun i hi => ?_⟩
  · have := h1 j (List.mem_range.2 (push_lt ho))
    rw [ho] at this
    simp only [Bool.and_eq_true, Array.all_eq_true_iff_forall_mem, Bool.or_eq_true, decide_eq_true_eq] at this
    rcases this.1 e he with h | h
    · rw [hb] at h; cases h
    · exact h
  · have := h1 j (List.mem_range.2 (push_lt ho))
    rw [ho] at this
    simp only [Bool.and_eq_true] at this
    have := this.2
    rw [hg] at this
    simpa using this
  · have := h2 i (List.mem_range.2 hi)
    rw [List.any_eq_true] at this
    obtain ⟨j, _, hj⟩ := this
    simp only [Bool.and_eq_true, decide_eq_true_eq] at hj
    cases ho : (pre.push z)[j]? with
    | none => rw [ho] at hj; cases hj.2
    | some o =>
      rw [ho] at hj
      have h3 := hj.2
      simp only [List.any_eq_true, Bool.and_eq_true, beq_iff_eq] at h3
      obtain ⟨e, he, hb, heq⟩ := h3
      exact ⟨j, o, hj.1, ho, e, by simpa using he, hb, heq⟩
/-- the state of the others within the state of all -/
structure Cor (n : Nat) (l' l : Array Bool) : Prop where
  s' : l'.size = n
  s : l.size = n + 1
  eq : ∀ j, j < n → l.getD j false = l'.getD j false
  last : l.getD n false = false
def Down (md : Region.Mode) (pre : Array Oper) (l' : Array Bool) : Prop := ∀ (j : Nat) (o : Oper), l'.getD j false = true → pre[j]? = some o → ∀ e ∈ o.after, Region.binds md e = true → l'.getD e.on false = true
theorem getD_any {l : Array Bool} {j : Nat} (h : j < l.size) (d : Bool) : l.getD j d = l.getD j false := by
  simp [Array.getD, h]
theorem pre_at {i : Nat} (h : i < pre.size) : (pre.push z)[i]? = pre[i]? := by
  rw [Array.getElem?_push]
  split
  · omega
  · rfl
theorem ready_pre {l' l : Array Bool} (hs : Snoc md pre z) (hc : Cor pre.size l' l) {i : Nat} (hi : i < pre.size) : i ∈ Region.ready md (pre.push z) l ↔ i ∈ Region.ready md pre l' := by
  rw [mem_ready, mem_ready, pre_at hi]
  have e1 : l.getD i true = l'.getD i true := by
    rw [getD_any (by rw [hc.s]; omega), hc.eq i hi, ← getD_any (by rw [hc.s']; exact hi) true]
  rw [e1]
  refine and_congr_right fun _ => exists_congr fun o => and_congr_right fun ho => forall_congr' fun e => forall_congr' fun he => ?_
  have hb := hs.back i o (by rw [pre_at hi]; exact ho) e he
  refine forall_congr' fun hbi => ?_
  rw [hc.eq e.on (by have := hb hbi; omega)]
theorem all_listed {l' l : Array Bool} (hs : Snoc md pre z) (hc : Cor pre.size l' l) (hd : Down md pre l') (hr : pre.size ∈ Region.ready md (pre.push z) l) : ∀ i, i < pre.size → l'.getD i false = true := by
  obtain ⟨_, o, ho, hall⟩ := mem_ready.1 hr
  have key : ∀ d i, i < pre.size → pre.size - i ≤ d → l'.getD i false = true := by
    intro d
    induction d with
    | zero => intro i hi hd; omega
    | succ d ih =>
      intro i hi hid
      obtain ⟨j, oj, hij, hoj, e, he, hb, heq⟩ := hs.cov i hi
      by_cases hjn : j = pre.size
      · subst hjn
        rw [ho] at hoj
        injection hoj with hoj
        subst hoj
        have := hall e he hb
        rw [heq, hc.eq i hi] at this
        exact this
      · have hjl : j < pre.size := by have := push_lt hoj; omega
        have := hd j oj (ih j hjl (by omega)) (by rw [← pre_at (z := z) hjl]; exact hoj) e he hb
        rw [heq] at this
        exact this
  exact fun i hi => key _ i hi (Nat.le_refl _)
theorem ready_some {l' : Array Bool} (hs : Snoc md pre z) (hl : l'.size = pre.size) : ∀ i, i < pre.size → l'.getD i false = false → ∃ r, r ∈ Region.ready md pre l' := by
  intro i
  induction i using Nat.strongRecOn with
  | ind i ih =>
    intro hi hf
    by_cases h : ∃ e ∈ (pre[i]).after, Region.binds md e = true ∧ l'.getD e.on false = false
    · obtain ⟨e, he, hb, hef⟩ := h
      have := hs.back i pre[i] (by rw [pre_at hi]; exact Array.getElem?_eq_getElem hi) e he hb
      exact ih e.on this (by omega) hef
    · refine ⟨i, mem_ready.2 ⟨by rw [getD_any (by rw [hl]; exact hi)]; exact hf, pre[i], Array.getElem?_eq_getElem hi, fun e he hb => ?_⟩⟩
      cases hq : l'.getD e.on false
      · exact absurd ⟨e, he, hb, hq⟩ h
      · rfl
theorem ready_all {ops : Array Oper} {l : Array Bool} (hl : l.size = ops.size) (h : ∀ i, i < ops.size → l.getD i false = true) : Region.ready md ops l = [] := by
  refine List.eq_nil_iff_forall_not_mem.2 fun i hi => ?_
  obtain ⟨h0, o, ho, _⟩ := mem_ready.1 hi
  have hlt := (Array.getElem?_eq_some_iff.1 ho).1
  rw [getD_any (by rw [hl]; exact hlt), h i hlt] at h0
  cases h0
theorem last_ready {l' l : Array Bool} (hs : Snoc md pre z) (hc : Cor pre.size l' l) (h : ∀ i, i < pre.size → l'.getD i false = true) : pre.size ∈ Region.ready md (pre.push z) l := by
  refine mem_ready.2 ⟨by rw [getD_any (by rw [hc.s]; omega)]; exact hc.last, z, by simp, fun e he hb => ?_⟩
  have := hs.back pre.size z (by simp) e he hb
  rw [hc.eq e.on this]
  exact h e.on this
theorem done_all {l' l : Array Bool} (hc : Cor pre.size l' l) (h : ∀ i, i < pre.size → l'.getD i false = true) : Region.ready md (pre.push z) (l.setIfInBounds pre.size true) = [] := by
  refine ready_all (by simp [hc.s]) fun i hi => ?_
  have hi' : i < pre.size + 1 := by simpa using hi
  by_cases hin : i = pre.size
  · subst hin
    have : pre.size < l.size := by rw [hc.s]; omega
    simp [Array.getD, this]
  · rw [getD_set_ne false (Ne.symm hin), hc.eq i (by omega)]
    exact h i (by omega)
theorem Cor.set {l' l : Array Bool} {n i : Nat} (h : Cor n l' l) (hi : i < n) : Cor n (l'.setIfInBounds i true) (l.setIfInBounds i true) := by
  refine ⟨by simp [h.s'], by simp [h.s], fun j hj => ?_, by rw [getD_set_ne false (by omega)]; exact h.last⟩
  by_cases hij : i = j
  · subst hij
    have h1 : i < l.size := by rw [h.s]; omega
    have h2 : i < l'.size := by rw [h.s']; omega
    simp [Array.getD, h1, h2]
  · rw [getD_set_ne false hij, getD_set_ne false hij]
    exact h.eq j hj
theorem Down.set {l' : Array Bool} {i : Nat} (h : Down md pre l') (hi : i ∈ Region.ready md pre l') : Down md pre (l'.setIfInBounds i true) := by
  intro j o hj ho e he hb
  refine getD_set_true ?_
  by_cases hij : i = j
  · subst hij
    obtain ⟨_, o2, ho2, hall⟩ := mem_ready.1 hi
    rw [ho] at ho2
    injection ho2 with ho2
    subst ho2
    exact hall e he hb
  · rw [getD_set_ne false hij] at hj
    exact h j o hj ho e he hb
theorem wpOp_push {i : Nat} (hs : Snoc md pre z) (hi : i < pre.size) {K K' : Act → World → Prop} (hk : ∀ a w, K' a w → K a w) {a : Act} {w : World} (h : wpOp P pre (snocQ P pre z Q) i K' a w) : wpOp P (pre.push z) Q i K a w := by
  unfold wpOp at *
  rw [pre_at hi]
  have hpi := Array.getElem?_eq_getElem hi
  rw [hpi] at h ⊢
  dsimp only at h ⊢
  have hw : Region.wanted pre[i] (yielded (pre.push z) a.tmps) = Region.wanted pre[i] (yielded pre a.tmps) := by
    unfold Region.wanted
    cases hg : (pre[i]).guard with
    | none => rfl
    | some gb =>
      obtain ⟨g, b⟩ := gb
      have := hs.gd i pre[i] (by rw [pre_at hi, hpi]) g b hg
      simp only [yielded, pre_at this]
  rw [hw]
  split
  · next h9 =>
    rw [if_pos h9] at h
    refine h.imp (fun h => ?_) (fun h => ⟨h.1, h.2⟩)
    unfold Oper.wp at *
    generalize (execOp a.eval pre[i]).run P w = r at *
    cases r with
    | ok n w' =>
      cases n <;> simp only [Oper.upon] at h ⊢ <;>
        first
          | exact hk _ _ h
          | exact Calls.mono h (fun e w'' he => by cases e <;> first | exact hk _ _ he | exact he)
          | exact Rows.mono h (fun _ _ he => hk _ _ he)
    | halt x w' => cases x <;> simp only [Oper.upon] at h ⊢ <;> exact h
  · next h9 =>
    rw [if_neg h9] at h
    exact hk _ _ h
theorem snoc_any (hs : Snoc md pre z) : ∀ (fuel : Nat) (l' l : Array Bool) (a : Act) (w : World), Cor pre.size l' l → Down md pre l' → wpAny P md pre (snocQ P pre z Q) fuel l' a w → wpAny P md (pre.push z) Q (fuel + 1) l a w := by
  intro fuel
  have hnil : ∀ {l' : Array Bool}, l'.size = pre.size → Region.ready md pre l' = [] → ∀ i, i < pre.size → l'.getD i false = true := by
    intro l' hl hr i hi
    cases hq : l'.getD i false
    · obtain ⟨r, hrr⟩ := ready_some hs hl i hi hq
      rw [hr] at hrr
      cases hrr
    · rfl
  have hne : ∀ {l' l : Array Bool}, Cor pre.size l' l → Region.ready md (pre.push z) l = [] → False := by
    intro l' l hc hr
    by_cases h : ∃ i, i < pre.size ∧ l'.getD i false = false
    · obtain ⟨i, hi, hf⟩ := h
      obtain ⟨r, hrr⟩ := ready_some hs hc.s' i hi hf
      have hrl : r < pre.size := by
        obtain ⟨_, o, ho, _⟩ := mem_ready.1 hrr
        exact (Array.getElem?_eq_some_iff.1 ho).1
      have := (ready_pre hs hc hrl).2 hrr
      rw [hr] at this
      cases this
    · have hall : ∀ i, i < pre.size → l'.getD i false = true := fun i hi => by
        cases hq : l'.getD i false
        · exact absurd ⟨i, hi, hq⟩ h
        · rfl
      have := last_ready hs hc hall
      rw [hr] at this
      cases this
  have hlt : ∀ {l : Array Bool} {i : Nat}, i ∈ Region.ready md (pre.push z) l → i ≠ pre.size → i < pre.size := by
    intro l i hi hne
    obtain ⟨_, o, ho, _⟩ := mem_ready.1 hi
    have := push_lt ho
    omega
  induction fuel with
  | zero =>
    intro l' l a w hc hd h
    refine ⟨fun h0 => (hne hc h0).elim, fun i hi => ?_⟩
    have hall := hnil hc.s' h.1
    by_cases hin : i = pre.size
    · subst hin
      exact wpOp_mono (fun a w hq => ⟨done_all hc hall, hq⟩) h.2
    · have := (ready_pre hs hc (hlt hi hin)).1 hi
      rw [h.1] at this
      cases this
  | succ fuel ih =>
    intro l' l a w hc hd h
    refine ⟨fun h0 => (hne hc h0).elim, fun i hi => ?_⟩
    by_cases hin : i = pre.size
    · subst hin
      have hall := all_listed hs hc hd hi
      have h0 := h.1 (ready_all hc.s' hall)
      refine wpOp_mono (fun a w hq => ⟨fun _ => hq, fun j hj => ?_⟩) h0
      rw [done_all hc hall] at hj
      cases hj
    · have hil := hlt hi hin
      have hip := (ready_pre hs hc hil).1 hi
      exact wpOp_push hs hil (fun a w hq => ih _ _ a w (hc.set hil) (hd.set hip) hq) (h.2 i hip)
theorem getD_rep (n j : Nat) : (Array.replicate n false).getD j false = false := by
  simp only [Array.getD]
  split <;> simp
/-- the others in whatever order, under one condition on the world, and then the last one -/
theorem wp_region_snoc {id : Nat} {ops : Array Oper} {S : World → Prop} {a : Act} {w : World} (pre : Array Oper) (z : Oper) (hops : ops = pre.push z) (hm : P.follows .mixedOrders = true) (hB : snocB .any pre z = true)
    (hS : S w.drew) (h : S w.drew → wpAnyH P .any pre (snocQ P pre z Q) S pre.size (Array.replicate pre.size false) a w.drew) : (Code.region id ops true).wp P Q a w := by
  subst hops
  have hs := snoc_of hB
  refine wp_region_any hm ?_
  rw [Array.size_push]
  exact snoc_any hs pre.size _ _ a _ ⟨by simp, by simp, fun j hj => by rw [getD_rep, getD_rep], by rw [getD_rep]⟩ (fun j o hj => by rw [getD_rep] at hj; cases hj) (wpAny_of_held _ _ _ _ (h hS))
/-- the same, for a region that is written out -/
theorem wp_region_snoc_lit {id : Nat} {l : List Oper} {S : World → Prop} {a : Act} {w : World} (z : Oper) (hz : l.getLast? = some z) (hm : P.follows .mixedOrders = true) (hB : snocB .any l.dropLast.toArray z = true)
    (hS : S w.drew) (h : S w.drew → wpAnyH P .any l.dropLast.toArray (snocQ P l.dropLast.toArray z Q) S l.dropLast.length (Array.replicate l.dropLast.length false) a w.drew) : (Code.region id l.toArray true).wp P Q a w := by
  refine wp_region_snoc l.dropLast.toArray z ?_ hm hB hS (by simpa using h)
  have hl : l = l.dropLast ++ [z] := by
    have hne : l ≠ [] := by rintro rfl; simp at hz
    have := List.dropLast_concat_getLast hne
    rw [List.getLast?_eq_some_getLast hne] at hz
    injection hz with hz
    rw [hz] at this
    exact this.symm
  have h2 : l.toArray = (l.dropLast ++ [z]).toArray := by rw [← hl]
  rw [h2]
  simp
/-- the last one, unguarded, at its turn -/
theorem snocQ_normal {pre : Array Oper} {z : Oper} {a : Act} {w : World} (hg : z.guard = none) (h : wpList P #[z] Q [z] a w) : snocQ P pre z Q .normal a w := by
  unfold snocQ wpOp
  simp only [Array.getElem?_push_size]
  have hw : ∀ y, Region.wanted z y = true := fun y => by simp [Region.wanted, hg]
  unfold wpList at h
  rw [if_pos (hw _)] at h ⊢
  exact h
end
end Go.Proofs.Ytanmndhdhlmjgaa

/- A post turned at a panic. No condition. -/
namespace Go.Proofs.Ytanmndhdhlmjgaa
open Go.RowKit
/-- Q, but Pc at a panic -/
def PanQ (Q : Exit → Act → World → Prop) (Pc : List PanicEntry → Act → World → Prop) : Exit → Act → World → Prop
  | .panic ch, a, w => Pc ch a w
  | e, a, w => Q e a w
theorem wp_pan {P : Program} {c : Code} {Q : Exit → Act → World → Prop} {Pc : List PanicEntry → Act → World → Prop} {a : Act} {w : World} (hp : ∀ ch a w, Pc ch a w → Q (.panic ch) a w) (h : c.wp P (PanQ Q Pc) a w) : c.wp P Q a w :=
  Code.wp_mono (fun e a w h => by cases e <;> first | exact h | exact hp _ _ _ h) h
theorem panQ_normal {Q : Exit → Act → World → Prop} {Pc : List PanicEntry → Act → World → Prop} {a : Act} {w : World} (h : Q .normal a w) : PanQ Q Pc .normal a w := h
end Go.Proofs.Ytanmndhdhlmjgaa

/- copy, append with room and clear on a row that is known whole, elements of any size; append of zero elements onto a new row. No condition. -/
namespace Go.Proofs.Ytanmndhdhlmjgaa
open Go.RowKit
theorem grown_setRow (w : World) (g : Nat) (cs : Array Value) : w.grownBy (w.setRow g cs) (some g) := ⟨rfl, rfl, rfl, by simp, fun k _ hk => setRow_other w g k _ (fun e => hk (by rw [e]))⟩
section
variable {P : Program} (w : World)
theorem run_copy_rowS (dT sT ty elem : TypeId) (size g o dLen dCap : Nat) (a : Addr) (sLen sCap k : Nat) (cur : Array Value) (t : TypeId) (cs : List Value)
    (hu : P.underlying dT = some (.slice elem)) (hs : (P.info? elem).map (·.size) = some size)
    (hg : Blk w g t cur) (hk : Nat.min sLen dLen = k) (hn : cs.length = k * size)
    (hsrc : ∀ j v, cs[j]? = some v → w.cell? (a.add j) = some v) (hfit : o + cs.length ≤ cur.size) (h1 : ∀ v ∈ cs, v.oneCell' = true) :
    (Builtin.copy_ #[dT, sT] ty #[.slice (some ⟨g, o, none⟩) dLen dCap, .slice (some a) sLen sCap]).run P w =
      .ok (goInt k) (w.setRow g (cur.toList.take o ++ cs ++ cur.toList.drop (o + cs.length)).toArray) := by
  have hl := run_loadCells_list (P := P) w a cs hsrc
  have hst := run_storeCells_at P g o t cs 0 cur w hg (by simpa using hfit) h1
  cases hq : P.info? elem with
  | none => simp [hq] at hs
  | some i =>
    have hi : i.size = size := by simpa [hq] using hs
    simp [Builtin.copy_, run_underlying hu, Builtin.lenOf, Builtin.firstCells, sizeOf, typeInfo, hq, hi, hk, ← hn, hl, hst]
theorem run_copy_ex (dT sT elem : TypeId) (size g o dLen dCap : Nat) (a : Addr) (sLen sCap k : Nat) (cur : Array Value) (t : TypeId) (cs : List Value)
    (hu : P.underlying dT = some (.slice elem)) (hs : (P.info? elem).map (·.size) = some size)
    (hg : Blk w g t cur) (hk : Nat.min sLen dLen = k) (hn : cs.length = k * size)
    (hsrc : ∀ j v, cs[j]? = some v → w.cell? (a.add j) = some v) (hfit : o + cs.length ≤ cur.size) (h1 : ∀ v ∈ cs, v.oneCell' = true)
    (new : List Value) (hnew : cur.toList.take o ++ cs ++ cur.toList.drop (o + cs.length) = new) :
    ∃ w', (∀ ty, (Builtin.copy_ #[dT, sT] ty #[.slice (some ⟨g, o, none⟩) dLen dCap, .slice (some a) sLen sCap]).run P w = .ok (goInt k) w') ∧ Blk w' g t new.toArray ∧ w.grownBy w' (some g) ∧ w'.heap.size = w.heap.size :=
  ⟨_, fun ty => run_copy_rowS (P := P) w dT sT ty elem size g o dLen dCap a sLen sCap k cur t cs hu hs hg hk hn hsrc hfit h1, by rw [hnew]; exact hg.setRow _, grown_setRow w g _, by simp⟩
theorem wpList_copy_rowS {ops : Array Oper} {rest : List Oper} {o : Oper} {a : Act} {Q : Exit → Act → World → Prop} (hgd : o.guard = none) (d s : Operand) (dT sT : TypeId)
    (ho : o.op = .call { callee := .builtin .copy, args := #[d, s], argTypes := #[dT, sT] }) (elem : TypeId) (size : Nat) (hu : P.underlying dT = some (.slice elem)) (hs : (P.info? elem).map (·.size) = some size)
    (g off dLen dCap : Nat) (ad : Addr) (sLen sCap k : Nat) (hd : a.eval d = .slice (some ⟨g, off, none⟩) dLen dCap) (hx : a.eval s = .slice (some ad) sLen sCap)
    (cur : Array Value) (t : TypeId) (hg : Blk w g t cur) (cs : List Value) (hk : Nat.min sLen dLen = k) (hn : cs.length = k * size)
    (hsrc : ∀ j v, cs[j]? = some v → w.cell? (ad.add j) = some v) (hfit : off + cs.length ≤ cur.size) (h1 : ∀ v ∈ cs, v.oneCell' = true)
    (new : List Value) (hnew : cur.toList.take off ++ cs ++ cur.toList.drop (off + cs.length) = new)
    (h : ∀ w', Blk w' g t new.toArray → w.grownBy w' (some g) → w'.heap.size = w.heap.size → wpList P ops Q rest (a.put o.dst (goInt k)) w') : wpList P ops Q (o :: rest) a w := by
  have hrun := run_copy_rowS (P := P) w dT sT o.type elem size g off dLen dCap ad sLen sCap k cur t cs hu hs hg hk hn hsrc hfit h1
  refine wpList_plain hgd fun K hK => ?_
  unfold Oper.wp execOp
  simp only [ho, resolve, invoke, builtin, Sem.run_bind, Sem.run_pure, Result.andThen_ok, List.map_toArray, List.map_cons, List.map_nil, hd, hx, hrun]
  refine hK _ _ (h _ ?_ (grown_setRow w g _) (by simp))
  rw [hnew]
  exact hg.setRow _
theorem wpList_append_blk {ops : Array Oper} {rest : List Oper} {o : Oper} {a : Act} {Q : Exit → Act → World → Prop} (hgd : o.guard = none) (d s : Operand) (t : TypeId)
    (ho : o.op = .call { callee := .builtin .append, args := #[d, s], argTypes := #[t, t] }) (e : TypeId) (i : TypeInfo) (ht : P.underlying t = some (.slice e)) (hi : P.info? e = some i)
    (size g n cap : Nat) (hsize : i.size = size) (A : Addr) (m c : Nat) (hd : a.eval d = .slice (some ⟨g, 0, none⟩) n cap) (hx : a.eval s = .slice (some A) m c)
    (cur : Array Value) (hg : Blk w g e cur) (news : List Value) (hn : news.length = m * size) (hroom : n + m ≤ cap) (hfit : n * size + news.length ≤ cur.size)
    (hsrc : ∀ j v, news[j]? = some v → w.cell? (A.add j) = some v) (h1 : ∀ v ∈ news, v.oneCell' = true)
    (new : List Value) (hnew : cur.toList.take (n * size) ++ news ++ cur.toList.drop (n * size + news.length) = new)
    (h : ∀ w', Blk w' g e new.toArray → w.grownBy w' (some g) → w'.heap.size = w.heap.size → wpList P ops Q rest (a.put o.dst (.slice (some ⟨g, 0, none⟩) (n + m) cap)) w') : wpList P ops Q (o :: rest) a w := by
  subst hsize
  have hf := run_firstCells_some (P := P) w i.size m A m c news hn hsrc
  have hst := run_storeCells_at P g (n * i.size) e news 0 cur w hg (by rw [Nat.add_zero]; exact hfit) h1
  simp only [Nat.add_zero] at hst
  have hrun : (Builtin.append_ #[t, t] o.type #[.slice (some ⟨g, 0, none⟩) n cap, .slice (some A) m c]).run P w =
      .ok (.slice (some ⟨g, 0, none⟩) (n + m) cap) (w.setRow g (cur.toList.take (n * i.size) ++ news ++ cur.toList.drop (n * i.size + news.length)).toArray) := by
    simp [Builtin.append_, run_underlying ht, sizeOf, typeInfo, hi, Builtin.lenOf, hroom, hf, Addr.add_lit, hst]
  refine wpList_plain hgd fun K hK => ?_
  unfold Oper.wp execOp
  simp only [ho, resolve, invoke, builtin, Sem.run_bind, Sem.run_pure, Result.andThen_ok, List.map_toArray, List.map_cons, List.map_nil, hd, hx, hrun]
  refine hK _ _ (h _ ?_ (grown_setRow w g _) (by simp))
  rw [hnew]
  exact hg.setRow _
theorem run_clear_ex (t e : TypeId) (z : Value) (ht : P.underlying t = some (.slice e)) (hv : ∀ w, (zeroValue e).run P w = .ok z w)
    (g off n c : Nat) (hn : 0 < n) (cur : Array Value) (hg : Blk w g e cur)
    (zs : List Value) (hz : (Builtin.zeroCells z.cells n).toList = zs) (hfit : off + zs.length ≤ cur.size) (h1 : ∀ v ∈ zs, v.oneCell' = true)
    (new : List Value) (hnew : cur.toList.take off ++ zs ++ cur.toList.drop (off + zs.length) = new) :
    ∃ w', (∀ ty, (Builtin.clear_ #[t] ty #[.slice (some ⟨g, off, none⟩) n c]).run P w = .ok (.tuple #[]) w') ∧ Blk w' g e new.toArray ∧ w.grownBy w' (some g) := by
  have hst := run_storeCells_at P g off e zs 0 cur w hg (by rw [Nat.add_zero]; exact hfit) h1
  simp only [Nat.add_zero] at hst
  obtain ⟨m, rfl⟩ : ∃ m, n = m + 1 := ⟨n - 1, by omega⟩
  refine ⟨w.setRow g (cur.toList.take off ++ zs ++ cur.toList.drop (off + zs.length)).toArray, fun ty => ?_, by rw [hnew]; exact hg.setRow _, grown_setRow w g _⟩
  simp [Builtin.clear_, run_underlying ht, hv, hz, hst]
theorem wpList_clear_blk {ops : Array Oper} {rest : List Oper} {o : Oper} {a : Act} {Q : Exit → Act → World → Prop} (hgd : o.guard = none) (d : Operand) (t : TypeId)
    (ho : o.op = .call { callee := .builtin .clear, args := #[d], argTypes := #[t] }) (e : TypeId) (z : Value) (ht : P.underlying t = some (.slice e)) (hv : ∀ w, (zeroValue e).run P w = .ok z w)
    (g off n c : Nat) (hd : a.eval d = .slice (some ⟨g, off, none⟩) n c) (hn : 0 < n) (cur : Array Value) (hg : Blk w g e cur)
    (zs : List Value) (hz : (Builtin.zeroCells z.cells n).toList = zs) (hfit : off + zs.length ≤ cur.size) (h1 : ∀ v ∈ zs, v.oneCell' = true)
    (new : List Value) (hnew : cur.toList.take off ++ zs ++ cur.toList.drop (off + zs.length) = new)
    (h : ∀ w', Blk w' g e new.toArray → w.grownBy w' (some g) → w'.heap.size = w.heap.size → wpList P ops Q rest (a.put o.dst (.tuple #[])) w') : wpList P ops Q (o :: rest) a w := by
  have hst := run_storeCells_at P g off e zs 0 cur w hg (by rw [Nat.add_zero]; exact hfit) h1
  simp only [Nat.add_zero] at hst
  obtain ⟨m, rfl⟩ : ∃ m, n = m + 1 := ⟨n - 1, by omega⟩
  have hrun : (Builtin.clear_ #[t] o.type #[.slice (some ⟨g, off, none⟩) (m + 1) c]).run P w = .ok (.tuple #[]) (w.setRow g (cur.toList.take off ++ zs ++ cur.toList.drop (off + zs.length)).toArray) := by
    simp [Builtin.clear_, run_underlying ht, hv, hz, hst]
  refine wpList_plain hgd fun K hK => ?_
  unfold Oper.wp execOp
  simp only [ho, resolve, invoke, builtin, Sem.run_bind, Sem.run_pure, Result.andThen_ok, List.map_toArray, List.map_cons, List.map_nil, hd, hrun]
  refine hK _ _ (h _ ?_ (grown_setRow w g _) (by simp))
  rw [hnew]
  exact hg.setRow _
end
end Go.Proofs.Ytanmndhdhlmjgaa

/- Arguments opened in general: flat types (integers, bools, arrays and structs of these) and slices of flat types. No condition. -/
namespace Go.Proofs.Ytanmndhdhlmjgaa
open Go.RowKit Go.ChangeShapes Go.WideShapes Go.Deep
section
variable {P : Program} {H : Type} {enc : TypeId × Value → H} {w : World} {r : Reach} {b0 base : Nat} {spare : Nat → Bool} {held : Bool}
/-- the cells of type e are always the encoding of something -/
def Flat (P : Program) (e : TypeId) {α : Type} (E : α → List Value) : Prop :=
  ∀ {H : Type} {enc : TypeId × Value → H} {w : World} {base : Nat} {spare : Nat → Bool} {held : Bool} {fuel : Nat} {cs : List Value} {x : DataW H × List MemPlace},
    DataW.trod enc P w base spare held fuel e cs = some x → ∃ a, cs = E a
theorem chunks {α : Type} {E : α → List Value} {sz : Nat} : ∀ (n : Nat) (cs : List Value), cs.length = n * sz → (∀ i, i < n → ∃ a, (cs.drop (i * sz)).take sz = E a) → ∃ xs : List α, xs.length = n ∧ cs = xs.flatMap E
  | 0, cs, hl, _ => ⟨[], rfl, by simpa using hl⟩
  | n + 1, cs, hl, h => by
    obtain ⟨a, ha⟩ := h 0 (by omega)
    have hl2 : (cs.drop sz).length = n * sz := by rw [List.length_drop, hl, Nat.succ_mul]; omega
    obtain ⟨xs, hx, hc⟩ := chunks n (cs.drop sz) hl2 (fun i hi => by
      obtain ⟨b, hb⟩ := h (i + 1) (by omega)
      refine ⟨b, ?_⟩
      rw [List.drop_drop, show sz + i * sz = (i + 1) * sz by rw [Nat.succ_mul, Nat.add_comm]]
      exact hb)
    refine ⟨a :: xs, by simp [hx], ?_⟩
    rw [List.flatMap_cons, ← hc, ← ha]
    simp
theorem flat_array {α : Type} {E : α → List Value} {sz n : Nat} {t e : TypeId} (hE : Flat P e E) (hC : P.cellsOf e = sz) (hT : P.cellsOf t = n * sz) (ht : P.underlying t = some (.array n e)) :
    Flat P t (fun xs : { l : List α // l.length = n } => xs.1.flatMap E) := by
  intro H enc w base spare held fuel cs x h
  obtain ⟨xs, m, _, _, hl, _, hi⟩ := DataW.trod_array ht h
  obtain ⟨ys, hy, hc⟩ := chunks (E := E) (sz := sz) n cs (by rw [hl, hT]) (fun i hin => by
    have := hi i hin
    rw [hC] at this
    obtain ⟨y, hxy⟩ : ∃ y, xs[i]? = some y := ⟨xs[i], List.getElem?_eq_getElem (by omega)⟩
    rw [hxy] at this
    exact hE this)
  exact ⟨⟨ys, hy⟩, hc⟩
theorem flat_slice_cells {α : Type} {E : α → List Value} {sz : Nat} {t e : TypeId} {cs : List Value} {x : DataW H × List MemPlace} {fuel : Nat} (hE : Flat P e E) (hC : P.cellsOf e = sz) (hsz : 0 < sz) (hlen : ∀ a, (E a).length = sz) (ht : P.underlying t = some (.slice e))
    (hf : DataW.trod enc P w base spare held fuel t cs = some x) :
    ∃ (A : Option Addr) (n cap : Nat) (xs : List α), cs = [.slice A n cap] ∧ xs.length = n ∧ n ≤ cap ∧ cap ≤ maxLen ∧ Reads w w.heap.size sz A n (xs.flatMap E) := by
  rcases open_slice ht hf with ⟨hcs, _⟩ | ⟨a, len0, cap0, m, n, D, Pl, hcs, _, hl, hm, hmm, _, hi⟩
  · exact ⟨none, 0, 0, [], hcs, rfl, Nat.le_refl _, by unfold maxLen; omega, Reads.none_⟩
  · subst hcs
    have hml : len0 ≤ m := by rw [hmm]; split <;> omega
    rw [hC] at hi
    have hel : ∀ i, ∃ (y : α ⊕ Unit), i < len0 → ∃ z, y = .inl z ∧ ∀ j u, (E z)[j]? = some u → w.cell? ((a.add (i * sz)).add j) = some u := by
      intro i
      by_cases him : i < len0
      · obtain ⟨cs', hc, htr⟩ := hi i (by omega)
        obtain ⟨z, rfl⟩ := hE htr
        obtain ⟨_, hcl, hat⟩ := World.cells?_some hc
        refine ⟨.inl z, fun _ => ⟨z, rfl, fun j u hu => ?_⟩⟩
        have hj : j < sz := by rw [← hlen z]; exact (List.getElem?_eq_some_iff.1 hu).1
        rw [hat j hj, hu]
      · exact ⟨.inr (), fun hx => absurd hx him⟩
    have hf : ∃ f : Nat → α ⊕ Unit, ∀ i, i < len0 → ∃ z, f i = .inl z ∧ ∀ j u, (E z)[j]? = some u → w.cell? ((a.add (i * sz)).add j) = some u :=
      ⟨fun i => (hel i).choose, fun i hi => (hel i).choose_spec hi⟩
    obtain ⟨f, hf⟩ := hf
    have hxs : ∀ k, k ≤ len0 → ∃ xs : List α, xs.length = k ∧ ∀ i z, xs[i]? = some z → f i = .inl z := by
      intro k
      induction k with
      | zero => exact fun _ => ⟨[], rfl, by simp⟩
      | succ k ih =>
        intro hk
        obtain ⟨xs, hx, hz⟩ := ih (by omega)
        obtain ⟨z, hz1, _⟩ := hf k (by omega)
        refine ⟨xs ++ [z], by simp [hx], fun i y hy => ?_⟩
        rcases Nat.lt_or_ge i xs.length with hlt | hge
        · rw [List.getElem?_append_left hlt] at hy; exact hz i y hy
        · rw [List.getElem?_append_right hge] at hy
          have : i - xs.length = 0 := by
            rcases Nat.eq_zero_or_pos (i - xs.length) with h0 | h0
            · exact h0
            · rw [List.getElem?_eq_none (by simp; omega)] at hy; cases hy
          rw [this] at hy
          simp at hy
          subst hy
          have : i = k := by omega
          rw [this]; exact hz1
    obtain ⟨xs, hx, hz⟩ := hxs len0 (Nat.le_refl _)
    have hcell : ∀ i z, xs[i]? = some z → ∀ j u, (E z)[j]? = some u → w.cell? (a.add (i * sz + j)) = some u := by
      intro i z hiz j u hu
      have hil : i < len0 := by rw [← hx]; exact (List.getElem?_eq_some_iff.1 hiz).1
      obtain ⟨z', h1, h2⟩ := hf i hil
      rw [hz i z hiz] at h1
      cases h1
      rw [← add_of_add]
      exact h2 j u hu
    have hflen : ∀ ys : List α, (ys.flatMap E).length = ys.length * sz := by
      intro ys
      induction ys with
      | nil => simp
      | cons y ys ih => rw [List.flatMap_cons, List.length_append, hlen, ih, List.length_cons, Nat.succ_mul]; omega
    have hfget : ∀ (ys : List α) (q : Nat) (u : Value), (ys.flatMap E)[q]? = some u → ∃ y, ys[q / sz]? = some y ∧ (E y)[q % sz]? = some u := by
      intro ys
      induction ys with
      | nil => intro q u hq; simp at hq
      | cons y ys ih =>
        intro q u hq
        rw [List.flatMap_cons] at hq
        rcases Nat.lt_or_ge q sz with hlt | hge
        · rw [List.getElem?_append_left (by rw [hlen]; exact hlt)] at hq
          exact ⟨y, by rw [Nat.div_eq_of_lt hlt]; rfl, by rw [Nat.mod_eq_of_lt hlt]; exact hq⟩
        · rw [List.getElem?_append_right (by rw [hlen]; exact hge), hlen] at hq
          obtain ⟨y', h1, h2⟩ := ih (q - sz) u hq
          have e1 : q / sz = (q - sz) / sz + 1 := by rw [Nat.div_eq_sub_div hsz hge]
          have e2 : q % sz = (q - sz) % sz := by rw [Nat.mod_eq_sub_mod hge]
          exact ⟨y', by rw [e1]; simpa using h1, by rw [e2]; exact h2⟩
    refine ⟨some a, len0, cap0, xs, rfl, hx, hl, hm, by rw [hflen, hx], fun hn => ⟨a, rfl, ?_, fun q u hq => ?_⟩⟩
    · have h0 : xs[0]? = some (xs[0]'(by omega)) := List.getElem?_eq_getElem (by omega)
      have h1 : (E (xs[0]'(by omega)))[0]? = some ((E (xs[0]'(by omega)))[0]'(by rw [hlen]; exact hsz)) := List.getElem?_eq_getElem (by rw [hlen]; exact hsz)
      have := block_lt_of_cell (hcell 0 _ h0 0 _ h1)
      rwa [block_of_add] at this
    · obtain ⟨y, h1, h2⟩ := hfget xs q u hq
      have := hcell (q / sz) y h1 (q % sz) u h2
      rwa [Nat.mul_comm, Nat.div_add_mod] at this
theorem flat_slice {α : Type} {E : α → List Value} {sz : Nat} {t e : TypeId} {v : Value} {d : DataW H} {p : List MemPlace} (hE : Flat P e E) (hC : P.cellsOf e = sz) (hsz : 0 < sz) (hlen : ∀ a, (E a).length = sz) (ht : P.underlying t = some (.slice e))
    (hv : Value.okWide P w r b0 t v) (h : DataW.Trod enc P w base spare held t v d p) :
    ∃ (A : Option Addr) (n cap : Nat) (xs : List α), v = .slice A n cap ∧ xs.length = n ∧ n ≤ cap ∧ cap ≤ maxLen ∧ Reads w w.heap.size sz A n (xs.flatMap E) := by
  obtain ⟨a0, len0, cap0, rfl⟩ := okWide_slice ht hv
  obtain ⟨fuel, hf⟩ := h
  obtain ⟨A, n, cap, xs, hcs, h1, h2, h3, h4⟩ := flat_slice_cells hE hC hsz hlen ht hf
  simp [Value.cells] at hcs
  obtain ⟨rfl, rfl, rfl⟩ := hcs
  exact ⟨_, _, _, xs, rfl, h1, h2, h3, h4⟩
theorem flat_u8 {e : TypeId} (ht : P.underlying e = some (.int .u8)) : Flat P e (fun x : { n : Nat // n < 256 } => [.int .u8 (x.1 : Int)]) := by
  intro H enc w base spare held fuel cs x h
  obtain ⟨n, rfl, _, hw⟩ := DataW.trod_int ht h
  have hb := bounds_u8 hw
  exact ⟨⟨n.toNat, by omega⟩, by simp [Int.toNat_of_nonneg hb.1]⟩
theorem flat_u16 {e : TypeId} (ht : P.underlying e = some (.int .u16)) : Flat P e (fun x : { n : Nat // n < 65536 } => [.int .u16 (x.1 : Int)]) := by
  intro H enc w base spare held fuel cs x h
  obtain ⟨n, rfl, _, hw⟩ := DataW.trod_int ht h
  have hb := bounds_u16 hw
  exact ⟨⟨n.toNat, by omega⟩, by simp [Int.toNat_of_nonneg hb.1]⟩
theorem flat_u64 {e : TypeId} (ht : P.underlying e = some (.int .u64)) : Flat P e (fun x : { n : Nat // n < 18446744073709551616 } => [.int .u64 (x.1 : Int)]) := by
  intro H enc w base spare held fuel cs x h
  obtain ⟨n, rfl, _, hw⟩ := DataW.trod_int ht h
  have hb := bounds_u64 hw
  exact ⟨⟨n.toNat, by omega⟩, by simp [Int.toNat_of_nonneg hb.1]⟩
theorem flat_i64 {e : TypeId} (ht : P.underlying e = some (.int .i64)) : Flat P e (fun x : { n : Int // -9223372036854775808 ≤ n ∧ n ≤ 9223372036854775807 } => [.int .i64 x.1]) := by
  intro H enc w base spare held fuel cs x h
  obtain ⟨n, rfl, _, hw⟩ := DataW.trod_int ht h
  have hb := bounds_i64 hw
  exact ⟨⟨n, hb⟩, rfl⟩
theorem flat_bool {e : TypeId} (ht : P.underlying e = some .bool) : Flat P e (fun b : Bool => [.bool b]) := by
  intro H enc w base spare held fuel cs x h
  obtain ⟨b, rfl, _⟩ := DataW.trod_bool ht h
  exact ⟨b, rfl⟩
theorem okWide_arr {t e : TypeId} {n : Nat} {v : Value} (ht : P.underlying t = some (.array n e)) (h : Value.okWide P w r b0 t v) : ∃ cs, v = .agg cs ∧ cs.size = P.cellsOf t := by
  simp only [Value.okWide, ht] at h
  obtain ⟨cs, h1, h2, _⟩ := h
  exact ⟨cs, h1, h2⟩
theorem flat_arr_val {α : Type} {E : α → List Value} {t e : TypeId} {n : Nat} {v : Value} {d : DataW H} {p : List MemPlace} (hE : Flat P t E) (ht : P.underlying t = some (.array n e))
    (hv : Value.okWide P w r b0 t v) (h : DataW.Trod enc P w base spare held t v d p) : ∃ a, v = .agg (E a).toArray := by
  obtain ⟨cs, rfl, _⟩ := okWide_arr ht hv
  obtain ⟨fuel, hf⟩ := h
  obtain ⟨a, ha⟩ := hE hf
  refine ⟨a, ?_⟩
  rw [← ha]
  simp [Value.cells]
theorem flat_struct_val {α : Type} {E : α → List Value} {t : TypeId} {fs : Array Field} {v : Value} {d : DataW H} {p : List MemPlace} (hE : Flat P t E) (ht : P.underlying t = some (.struct fs))
    (hv : Value.okWide P w r b0 t v) (h : DataW.Trod enc P w base spare held t v d p) : ∃ a, v = .agg (E a).toArray := by
  obtain ⟨cs, rfl, _⟩ := okWide_struct ht hv
  obtain ⟨fuel, hf⟩ := h
  obtain ⟨a, ha⟩ := hE hf
  refine ⟨a, ?_⟩
  rw [← ha]
  simp [Value.cells]
/-- a struct by value, its fields' cells each with their own reading -/
theorem struct_fields {t : TypeId} {fs : Array Field} {v : Value} {d : DataW H} {p : List MemPlace} (ht : P.underlying t = some (.struct fs))
    (hv : Value.okWide P w r b0 t v) (h : DataW.Trod enc P w base spare held t v d p) : ∃ cs : List Value, v = .agg cs.toArray ∧ cs.length = P.cellsOf t ∧
      ∀ (i : Nat) (f : Field), fs[i]? = some f → ∃ (m : Nat) (x : DataW H × List MemPlace), DataW.trod enc P w base spare held m f.type ((cs.drop f.offset).take (P.cellsOf f.type)) = some x := by
  obtain ⟨cs, rfl, _⟩ := okWide_struct ht hv
  obtain ⟨fuel, hf⟩ := h
  obtain ⟨xs, m, _, _, hl, hlen, hi⟩ := DataW.trod_struct ht hf
  refine ⟨cs.toList, by simp, by simpa [Value.cells] using hl, fun i f hfi => ?_⟩
  have hil : i < fs.size := (Array.getElem?_eq_some_iff.1 hfi).1
  have := hi i f hfi
  rw [List.getElem?_eq_getElem (by omega)] at this
  exact ⟨m, _, by simpa [Value.cells] using this⟩
end
end Go.Proofs.Ytanmndhdhlmjgaa

/- Arguments opened in general: slices of structs that hold slices themselves. No condition. -/
namespace Go.Proofs.Ytanmndhdhlmjgaa
open Go.RowKit Go.ChangeShapes Go.WideShapes Go.Deep
section
variable {P : Program} {H : Type} {enc : TypeId × Value → H} {w : World} {r : Reach} {b0 base : Nat} {spare : Nat → Bool} {held : Bool}
/-- the cells of type e are always the encoding of something of which more is known in that world -/
def DeepE (P : Program) (e : TypeId) {α : Type} (E : α → List Value) (Q : World → α → Prop) : Prop :=
  ∀ {H : Type} {enc : TypeId × Value → H} {w : World} {base : Nat} {spare : Nat → Bool} {held : Bool} {fuel : Nat} {cs : List Value} {x : DataW H × List MemPlace},
    DataW.trod enc P w base spare held fuel e cs = some x → ∃ a, cs = E a ∧ Q w a
theorem deep_slice_cells {α : Type} {E : α → List Value} {sz : Nat} {t e : TypeId} {cs : List Value} {x : DataW H × List MemPlace} {fuel : Nat} {Q : World → α → Prop} (hE : DeepE P e E Q) (hC : P.cellsOf e = sz) (hsz : 0 < sz) (hlen : ∀ a, (E a).length = sz) (ht : P.underlying t = some (.slice e))
    (hf : DataW.trod enc P w base spare held fuel t cs = some x) :
    ∃ (A : Option Addr) (n cap : Nat) (xs : List α), cs = [.slice A n cap] ∧ xs.length = n ∧ n ≤ cap ∧ cap ≤ maxLen ∧ Reads w w.heap.size sz A n (xs.flatMap E) ∧ ∀ x ∈ xs, Q w x := by
  rcases open_slice ht hf with ⟨hcs, _⟩ | ⟨a, len0, cap0, m, n, D, Pl, hcs, _, hl, hm, hmm, _, hi⟩
  · exact ⟨none, 0, 0, [], hcs, rfl, Nat.le_refl _, by unfold maxLen; omega, Reads.none_, by simp⟩
  · subst hcs
    have hml : len0 ≤ m := by rw [hmm]; split <;> omega
    rw [hC] at hi
    have hel : ∀ i, ∃ (y : α ⊕ Unit), i < len0 → ∃ z, y = .inl z ∧ Q w z ∧ ∀ j u, (E z)[j]? = some u → w.cell? ((a.add (i * sz)).add j) = some u := by
      intro i
      by_cases him : i < len0
      · obtain ⟨cs', hc, htr⟩ := hi i (by omega)
        obtain ⟨z, rfl, hq⟩ := hE htr
        obtain ⟨_, hcl, hat⟩ := World.cells?_some hc
        refine ⟨.inl z, fun _ => ⟨z, rfl, hq, fun j u hu => ?_⟩⟩
        have hj : j < sz := by rw [← hlen z]; exact (List.getElem?_eq_some_iff.1 hu).1
        rw [hat j hj, hu]
      · exact ⟨.inr (), fun hx => absurd hx him⟩
    have hf : ∃ f : Nat → α ⊕ Unit, ∀ i, i < len0 → ∃ z, f i = .inl z ∧ Q w z ∧ ∀ j u, (E z)[j]? = some u → w.cell? ((a.add (i * sz)).add j) = some u :=
      ⟨fun i => (hel i).choose, fun i hi => (hel i).choose_spec hi⟩
    obtain ⟨f, hf⟩ := hf
    have hxs : ∀ k, k ≤ len0 → ∃ xs : List α, xs.length = k ∧ ∀ i z, xs[i]? = some z → f i = .inl z := by
      intro k
      induction k with
      | zero => exact fun _ => ⟨[], rfl, by simp⟩
      | succ k ih =>
        intro hk
        obtain ⟨xs, hx, hz⟩ := ih (by omega)
        obtain ⟨z, hz1, _, _⟩ := hf k (by omega)
        refine ⟨xs ++ [z], by simp [hx], fun i y hy => ?_⟩
        rcases Nat.lt_or_ge i xs.length with hlt | hge
        · rw [List.getElem?_append_left hlt] at hy; exact hz i y hy
        · rw [List.getElem?_append_right hge] at hy
          have : i - xs.length = 0 := by
            rcases Nat.eq_zero_or_pos (i - xs.length) with h0 | h0
            · exact h0
            · rw [List.getElem?_eq_none (by simp; omega)] at hy; cases hy
          rw [this] at hy
          simp at hy
          subst hy
          have : i = k := by omega
          rw [this]; exact hz1
    obtain ⟨xs, hx, hz⟩ := hxs len0 (Nat.le_refl _)
    have hcell : ∀ i z, xs[i]? = some z → ∀ j u, (E z)[j]? = some u → w.cell? (a.add (i * sz + j)) = some u := by
      intro i z hiz j u hu
      have hil : i < len0 := by rw [← hx]; exact (List.getElem?_eq_some_iff.1 hiz).1
      obtain ⟨z', h1, _, h2⟩ := hf i hil
      rw [hz i z hiz] at h1
      cases h1
      rw [← add_of_add]
      exact h2 j u hu
    have hflen : ∀ ys : List α, (ys.flatMap E).length = ys.length * sz := by
      intro ys
      induction ys with
      | nil => simp
      | cons y ys ih => rw [List.flatMap_cons, List.length_append, hlen, ih, List.length_cons, Nat.succ_mul]; omega
    have hfget : ∀ (ys : List α) (q : Nat) (u : Value), (ys.flatMap E)[q]? = some u → ∃ y, ys[q / sz]? = some y ∧ (E y)[q % sz]? = some u := by
      intro ys
      induction ys with
      | nil => intro q u hq; simp at hq
      | cons y ys ih =>
        intro q u hq
        rw [List.flatMap_cons] at hq
        rcases Nat.lt_or_ge q sz with hlt | hge
        · rw [List.getElem?_append_left (by rw [hlen]; exact hlt)] at hq
          exact ⟨y, by rw [Nat.div_eq_of_lt hlt]; rfl, by rw [Nat.mod_eq_of_lt hlt]; exact hq⟩
        · rw [List.getElem?_append_right (by rw [hlen]; exact hge), hlen] at hq
          obtain ⟨y', h1, h2⟩ := ih (q - sz) u hq
          have e1 : q / sz = (q - sz) / sz + 1 := by rw [Nat.div_eq_sub_div hsz hge]
          have e2 : q % sz = (q - sz) % sz := by rw [Nat.mod_eq_sub_mod hge]
          exact ⟨y', by rw [e1]; simpa using h1, by rw [e2]; exact h2⟩
    refine ⟨some a, len0, cap0, xs, rfl, hx, hl, hm, ⟨by rw [hflen, hx], fun hn => ⟨a, rfl, ?_, fun q u hq => ?_⟩⟩, fun x hxm => ?_⟩
    · have h0 : xs[0]? = some (xs[0]'(by omega)) := List.getElem?_eq_getElem (by omega)
      have h1 : (E (xs[0]'(by omega)))[0]? = some ((E (xs[0]'(by omega)))[0]'(by rw [hlen]; exact hsz)) := List.getElem?_eq_getElem (by rw [hlen]; exact hsz)
      have := block_lt_of_cell (hcell 0 _ h0 0 _ h1)
      rwa [block_of_add] at this
    · obtain ⟨y, h1, h2⟩ := hfget xs q u hq
      have := hcell (q / sz) y h1 (q % sz) u h2
      rwa [Nat.mul_comm, Nat.div_add_mod] at this
    · obtain ⟨i, hi1, hi2⟩ := List.getElem_of_mem hxm
      obtain ⟨z', h1, hq, _⟩ := hf i (by omega)
      rw [hz i x (by rw [List.getElem?_eq_getElem hi1, hi2])] at h1
      cases h1
      exact hq

theorem deep_slice {α : Type} {E : α → List Value} {Q : World → α → Prop} {sz : Nat} {t e : TypeId} {v : Value} {d : DataW H} {p : List MemPlace} (hE : DeepE P e E Q) (hC : P.cellsOf e = sz) (hsz : 0 < sz) (hlen : ∀ a, (E a).length = sz) (ht : P.underlying t = some (.slice e))
    (hv : Value.okWide P w r b0 t v) (h : DataW.Trod enc P w base spare held t v d p) :
    ∃ (A : Option Addr) (n cap : Nat) (xs : List α), v = .slice A n cap ∧ xs.length = n ∧ n ≤ cap ∧ cap ≤ maxLen ∧ Reads w w.heap.size sz A n (xs.flatMap E) ∧ ∀ x ∈ xs, Q w x := by
  obtain ⟨a0, len0, cap0, rfl⟩ := okWide_slice ht hv
  obtain ⟨fuel, hf⟩ := h
  obtain ⟨A, n, cap, xs, hcs, h1, h2, h3, h4⟩ := deep_slice_cells hE hC hsz hlen ht hf
  simp [Value.cells] at hcs
  obtain ⟨rfl, rfl, rfl⟩ := hcs
  exact ⟨_, _, _, xs, rfl, h1, h2, h3, h4⟩
/-- the cells of a struct, its fields' cells each with their own reading -/
theorem struct_cells {t : TypeId} {fs : Array Field} {fuel : Nat} {cs : List Value} {x : DataW H × List MemPlace} (ht : P.underlying t = some (.struct fs))
    (hf : DataW.trod enc P w base spare held fuel t cs = some x) : cs.length = P.cellsOf t ∧
      ∀ (i : Nat) (f : Field), fs[i]? = some f → ∃ (m : Nat) (x : DataW H × List MemPlace), DataW.trod enc P w base spare held m f.type ((cs.drop f.offset).take (P.cellsOf f.type)) = some x := by
  obtain ⟨xs, m, _, _, hl, hlen, hi⟩ := DataW.trod_struct ht hf
  refine ⟨hl, fun i f hfi => ?_⟩
  have hil : i < fs.size := (Array.getElem?_eq_some_iff.1 hfi).1
  have := hi i f hfi
  rw [List.getElem?_eq_getElem (by omega)] at this
  exact ⟨m, _, this⟩
end
end Go.Proofs.Ytanmndhdhlmjgaa
