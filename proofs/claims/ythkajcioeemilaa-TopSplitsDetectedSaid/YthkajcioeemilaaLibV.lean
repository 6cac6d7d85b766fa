/- A queue of one-cell values: a rest s[q:] of a row that nobody else has; append of one element, and the first one taken. No condition. -/
import Derived.Test.YthkajcioeemilaaLibC
import Derived.Test.YthkajcioeemilaaLibU
namespace Go.Proofs.Ythkajcioeemilaa
open Go.RowKit
structure QueB (W : World) (low : Nat) (e : TypeId) (g C n q : Nat) (cur : Array Value) (xs : List Value) : Prop where
  blk : Blk W g e cur
  size : cur.size = C
  qn : q ≤ n
  nC : n ≤ C
  cm : C ≤ maxLen
  xs : (cur.toList.take n).drop q = xs
  low : low ≤ g
def Que (W : World) (low : Nat) (e : TypeId) (v : Value) (b : Option Nat) (xs : List Value) : Prop :=
  (v = .slice none 0 0 ∧ b = none ∧ xs = []) ∨ ∃ g C n q cur ba, v = .slice (some ba) (n - q) (C - q) ∧ b = some g ∧ (ba = ⟨g, q, none⟩ ∨ C = q) ∧ QueB W low e g C n q cur xs
section
variable {W W' : World} {low : Nat} {e : TypeId} {v : Value} {b : Option Nat} {xs : List Value}
theorem Que.nil (W : World) (low : Nat) (e : TypeId) : Que W low e (.slice none 0 0) none [] := .inl ⟨rfl, rfl, rfl⟩
theorem Que.keep (h : Que W low e v b xs) (hk : ∀ g, b = some g → W'.heap[g]? = W.heap[g]?) : Que W' low e v b xs := by
  rcases h with h | ⟨g, C, n, q, cur, ba, h1, h2, h3, ⟨k1, k2, k3, k4, k5, k6, k7⟩⟩
  · exact .inl h
  · exact .inr ⟨g, C, n, q, cur, ba, h1, h2, h3, ⟨(hk g h2).trans k1, k2, k3, k4, k5, k6, k7⟩⟩
theorem Que.lt (h : Que W low e v b xs) : ∀ g, b = some g → g < W.heap.size ∧ low ≤ g := by
  rcases h with ⟨_, rfl, _⟩ | ⟨g, C, n, q, cur, ba, h1, rfl, h3, k⟩
  · intro g hg; cases hg
  · intro g' hg
    injection hg with hg
    subst hg
    exact ⟨k.blk.lt, k.low⟩
theorem Que.below (h : Que W low e v b xs) (hb : Below W.heap.size W W') : Que W' low e v b xs := h.keep fun g hg => hb.block g (h.lt g hg).1
theorem Que.alloc (h : Que W low e v b xs) (o : Obj) : Que (W.alloc o) low e v b xs := h.below ((Below.refl _ _).alloc (Nat.le_refl _) o)
theorem Que.far (h : Que W low e v b xs) {p : Addr} (hp : b ≠ some p.block) (u : Value) : Que (W.setCell p u) low e v b xs := h.keep fun g hg => Below.heap_setCell W p u g (fun e => hp (by rw [hg, e]))
theorem Que.form (h : Que W low e v b xs) : ∃ A c, v = .slice A xs.length c ∧ xs.length ≤ c ∧ c ≤ maxLen ∧ (0 < xs.length → ∃ g q, A = some ⟨g, q, none⟩ ∧ b = some g ∧ W.cell? ⟨g, q, none⟩ = xs[0]? ∧ 0 < c) := by
  rcases h with ⟨rfl, _, rfl⟩ | ⟨g, C, n, q, cur, ba, rfl, rfl, h3, k⟩
  · exact ⟨none, 0, rfl, Nat.le_refl _, Nat.zero_le _, fun h => absurd h (by simp)⟩
  · have hl : xs.length = n - q := by
      rw [← k.xs, List.length_drop, List.length_take, Array.length_toList, k.size]
      have := k.nC
      omega
    rw [hl]
    refine ⟨some ba, C - q, rfl, by have := k.nC; omega, by have := k.cm; omega, fun h0 => ?_⟩
    have hC : C ≠ q := by have := k.nC; omega
    refine ⟨g, q, by rw [h3.resolve_right hC], rfl, ?_, by have := k.nC; omega⟩
    rw [k.blk.cell, ← k.xs, List.getElem?_drop, List.getElem?_take, if_pos (by omega)]
    simp
/-- the first one is taken: the slice behind it -/
theorem Que.rest {A : Option Addr} {m c : Nat} {x : Value} (h : Que W low e (.slice A (m + 1) c) b (x :: xs)) {A' : Option Addr} (hA : ∀ g q, A = some ⟨g, q, none⟩ → c = 1 ∨ A' = some ⟨g, q + 1, none⟩) (hA2 : ∃ ba, A' = some ba) : Que W low e (.slice A' m (c - 1)) b xs := by
  rcases h with ⟨h, _⟩ | ⟨g, C, n, q, cur, ba, h1, h2, h3, k⟩
  · cases h
  · injection h1 with h1 h4 h5
    have hnC := k.nC
    have hqn := k.qn
    obtain ⟨ba', rfl⟩ := hA2
    have h6 := h3.resolve_right (by omega)
    subst h6
    subst h1
    have h7 := hA g q rfl
    refine .inr ⟨g, C, n, q + 1, cur, ba', by congr 1 <;> omega, h2, ?_, ⟨k.blk, k.size, by omega, hnC, k.cm, ?_, k.low⟩⟩
    · rcases h7 with h7 | h7
      · right; omega
      · left; injection h7
    · have := k.xs
      rw [← List.drop_drop, this]
      rfl
end
/-- an element is appended -/
theorem run_append_que {P : Program} (w : World) (t ty e : TypeId) (i : TypeInfo) (z : Value) (bytes : Nat) (ht : P.underlying t = some (.slice e)) (hi : P.info? e = some i) (hz : i.zero = some z)
    (hsize : i.size = 1) (hby : i.bytes = bytes) (hzs : z.cells.size = 1) (low : Nat) (v : Value) (b : Option Nat) (xs : List Value) (h : Que w low e v b xs) (hlow : low ≤ w.heap.size)
    (p : Nat) (x : Value) (hp : Blk w p e #[x]) (h1 : x.oneCell' = true) (hn : xs.length ≤ 1000000) (hbytes : bytes ≤ 64) :
    ∃ v' b' w', (Builtin.append_ #[t, t] ty #[v, .slice (some ⟨p, 0, none⟩) 1 1]).run P w = .ok v' w' ∧ Que w' low e v' b' (xs ++ [x]) ∧ w.grownBy w' b ∧ (b' = b ∨ b' = some w.heap.size) := by
  have hnews : ∀ j u, [x][j]? = some u → w.cell? ((⟨p, 0, none⟩ : Addr).add j) = some u := fun j u hu => by
    rw [Addr.add_lit, Nat.zero_add, hp.cell]
    simpa using hu
  have h1' : ∀ u ∈ [x], u.oneCell' = true := fun u hu => by rw [List.mem_singleton.1 hu]; exact h1
  rcases h with ⟨rfl, rfl, rfl⟩ | ⟨g, C, n, q, cur, ba, rfl, rfl, hba, k⟩
  · obtain ⟨v', w', hrun, h2, h3, _, h5⟩ := run_append_own_at (P := P) w low t ty e i z 1 bytes ht hi hz hsize hby hzs (by omega) (.slice none 0 0) 0 [] (World.ownsRow_nil w low e 1) ⟨p, 0, none⟩ 1 1 [x] (by simp) hnews h1' (by simp [maxLen]) (by omega) hlow
    obtain ⟨g, cap, cur, e1, e2, e3, e4, e5, e6, e7⟩ := own_blk h2 (by omega)
    refine ⟨v', some g, w', hrun, .inr ⟨g, cap, 1, 0, cur, ⟨g, 0, none⟩, e1, rfl, .inl rfl, ⟨e3, by rw [e6, Nat.mul_one], by omega, e4, e5, ?_, e2⟩⟩, h3, ?_⟩
    · simpa using e7
    · right
      rcases h5 with h5 | h5
      · rw [e1] at h5; cases h5
      · rw [e1] at h5; exact h5
  · have hnC := k.nC
    have hqn := k.qn
    have hcm := k.cm
    have hxl : xs.length = n - q := by
      rw [← k.xs, List.length_drop, List.length_take, Array.length_toList, k.size]
      omega
    by_cases hroom : n - q + 1 ≤ C - q
    · obtain rfl : ba = ⟨g, q, none⟩ := hba.resolve_right (by omega)
      have hf := run_firstCells_some (P := P) w 1 1 ⟨p, 0, none⟩ 1 1 [x] (by simp) hnews
      have hst := run_storeCells_at P g n e [x] 0 cur w k.blk (by simp [k.size]; omega) h1'
      simp only [Nat.add_zero] at hst
      have hqq : q + (n - q) = n := by omega
      have hr : (Builtin.append_ #[t, t] ty #[.slice (some ⟨g, q, none⟩) (n - q) (C - q), .slice (some ⟨p, 0, none⟩) 1 1]).run P w =
          .ok (.slice (some ⟨g, q, none⟩) (n - q + 1) (C - q)) (w.setRow g (cur.toList.take n ++ [x] ++ cur.toList.drop (n + [x].length)).toArray) := by
        simp [Builtin.append_, run_underlying ht, sizeOf, typeInfo, hi, hsize, Builtin.lenOf, hroom, hf, Addr.add_lit, hqq, hst]
      refine ⟨_, some g, _, hr, .inr ⟨g, C, n + 1, q, _, ⟨g, q, none⟩, by congr 1; omega, rfl, .inl rfl, ⟨k.blk.setRow _, ?_, by omega, by omega, hcm, ?_, k.low⟩⟩, ⟨rfl, rfl, rfl, by simp, fun j _ hk => setRow_other w g j _ (fun e => hk (by rw [e]))⟩, .inl rfl⟩
      · have h9 : (cur.toList.take n).length = n := by rw [List.length_take, Array.length_toList, k.size]; omega
        rw [List.size_toArray, List.length_append, List.length_append, h9, List.length_drop, Array.length_toList]
        have h8 := k.size
        show n + 1 + (cur.size - (n + 1)) = C
        omega
      · have h9 : (cur.toList.take n).length = n := by rw [List.length_take, Array.length_toList, k.size]; omega
        show ((cur.toList.take n ++ [x] ++ cur.toList.drop (n + 1)).take (n + 1)).drop q = xs ++ [x]
        rw [List.take_append_of_le_length (by rw [List.length_append, h9, List.length_singleton]; omega), List.take_of_length_le (by rw [List.length_append, h9, List.length_singleton]; omega), List.drop_append_of_le_length (by rw [h9]; omega), k.xs]
    · have hr := run_append_grow (P := P) w t ty e i z ht hi hz ba (n - q) (C - q) xs (by rw [hxl, hsize]; omega)
        (fun j u hu => by
          rcases hba with rfl | hba
          case inr =>
            have : xs = [] := List.eq_nil_of_length_eq_zero (by omega)
            rw [this] at hu
            cases hu
          rw [← k.xs, List.getElem?_drop, List.getElem?_take] at hu
          rw [Addr.add_lit, k.blk.cell]
          split at hu
          · simpa using hu
          · cases hu)
        ⟨p, 0, none⟩ 1 1 [x] (by simp [hsize]) hnews (by omega) (by omega)
        (growslice_fits (by omega) (by rw [hby]; have := Nat.mul_le_mul (show n - q + 1 ≤ 1000001 by omega) hbytes; omega))
      have hge := grownCap_ge w (n - q + 1) (C - q) e
      have hle := grownCap_le_maxLen w (n - q + 1) (C - q) e (by simp only [maxLen]; omega)
      refine ⟨_, some w.heap.size, _, hr, .inr ⟨w.heap.size, grownCap w (n - q + 1) (C - q) e, n - q + 1, 0, _, ⟨w.heap.size, 0, none⟩, rfl, rfl, .inl rfl, ⟨Blk.new w.drew e _, ?_, Nat.zero_le _, hge, hle, ?_, hlow⟩⟩, ⟨rfl, rfl, rfl, by simp, fun j hk _ => Below.heap_alloc w.drew _ j hk⟩, .inr rfl⟩
      · rw [Array.size_append, Array.size_append, size_zeroCells, hzs, List.size_toArray, List.size_toArray, hxl, List.length_singleton]
        omega
      · rw [Array.toList_append, Array.toList_append, List.drop_zero]
        show (xs ++ [x] ++ _).take (n - q + 1) = xs ++ [x]
        rw [List.take_append_of_le_length (by rw [List.length_append, hxl, List.length_singleton]; omega), List.take_of_length_le (by rw [List.length_append, hxl, List.length_singleton]; omega)]
/-- the same as an operation, behind the laying of the element -/
theorem wp_append_que {P : Program} {o : Oper} {a : Act} {K : Act → World → Prop} {Q : Exit → Act → World → Prop} (w : World) (s x : Operand) (t : TypeId)
    (ho : o.op = .call { callee := .builtin .append, args := #[s, x], argTypes := #[t, t] })
    (e : TypeId) (i : TypeInfo) (z : Value) (bytes : Nat) (ht : P.underlying t = some (.slice e)) (hi : P.info? e = some i) (hz : i.zero = some z)
    (hsize : i.size = 1) (hby : i.bytes = bytes) (hzs : z.cells.size = 1) (low : Nat) (v : Value) (b : Option Nat) (xs : List Value) (u : Value) (hs : a.eval s = v) (hx : a.eval x = .slice (some ⟨w.heap.size, 0, none⟩) 1 1) (h : Que w low e v b xs) (hlow : low ≤ w.heap.size)
    (h1 : u.oneCell' = true) (hn : xs.length ≤ 1000000) (hbytes : bytes ≤ 64)
    (hK : ∀ v' b' w', Que w' low e v' b' (xs ++ [u]) → (w.alloc (.cells #[u] e)).grownBy w' b → (b' = b ∨ b' = some (w.heap.size + 1)) → K (a.put o.dst v') w') : o.wp P a (w.alloc (.cells #[u] e)) K Q := by
  obtain ⟨v', b', w', hrun, h2, h3, h4⟩ := run_append_que (P := P) (w.alloc (.cells #[u] e)) t o.type e i z bytes ht hi hz hsize hby hzs low v b xs (h.alloc _) (by simp; omega) w.heap.size u (Blk.new w e #[u]) h1 hn hbytes
  unfold Oper.wp execOp
  simp only [ho, resolve, invoke, builtin, Sem.run_bind, Sem.run_pure, Result.andThen_ok, List.map_toArray, List.map_cons, List.map_nil, hs, hx, hrun]
  exact hK v' b' w' h2 h3 (by simpa using h4)
theorem wpList_append_que {P : Program} {ops : Array Oper} {rest : List Oper} {o : Oper} {a : Act} {Q : Exit → Act → World → Prop} (w : World) (hgd : o.guard = none) (s x : Operand) (t : TypeId)
    (ho : o.op = .call { callee := .builtin .append, args := #[s, x], argTypes := #[t, t] })
    (e : TypeId) (i : TypeInfo) (z : Value) (bytes : Nat) (ht : P.underlying t = some (.slice e)) (hi : P.info? e = some i) (hz : i.zero = some z)
    (hsize : i.size = 1) (hby : i.bytes = bytes) (hzs : z.cells.size = 1) (low : Nat) (v : Value) (b : Option Nat) (xs : List Value) (u : Value) (hs : a.eval s = v) (hx : a.eval x = .slice (some ⟨w.heap.size, 0, none⟩) 1 1) (h : Que w low e v b xs) (hlow : low ≤ w.heap.size)
    (h1 : u.oneCell' = true) (hn : xs.length ≤ 1000000) (hbytes : bytes ≤ 64)
    (hK : ∀ v' b' w', Que w' low e v' b' (xs ++ [u]) → (w.alloc (.cells #[u] e)).grownBy w' b → (b' = b ∨ b' = some (w.heap.size + 1)) → wpList P ops Q rest (a.put o.dst v') w') : wpList P ops Q (o :: rest) a (w.alloc (.cells #[u] e)) :=
  wpList_plain hgd fun _ hK' => wp_append_que w s x t ho e i z bytes ht hi hz hsize hby hzs low v b xs u hs hx h hlow h1 hn hbytes fun v' b' w' h2 h3 h4 => hK' _ _ (hK v' b' w' h2 h3 h4)
end Go.Proofs.Ythkajcioeemilaa
