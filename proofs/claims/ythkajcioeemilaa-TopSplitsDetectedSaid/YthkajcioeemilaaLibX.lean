/- A region that draws its order and ends in several operations, each of which waits for all before it. No condition. -/
import Derived.Test.YthkajcioeemilaaLibT
import Derived.Test.YthkajcioeemilaaLibV
namespace Go.Proofs.Ythkajcioeemilaa
open Go.RowKit
section
variable {P : Program} {Q : Exit → Act → World → Prop} {md : Region.Mode}
/-- behind the others: the last ones, one by one -/
def tailQ (P : Program) : Array Oper → List Oper → (Exit → Act → World → Prop) → Exit → Act → World → Prop
  | _, [], Q => Q
  | pre, z :: zs, Q => snocQ P pre z (tailQ P (pre.push z) zs Q)
def tailB (md : Region.Mode) : Array Oper → List Oper → Bool
  | _, [] => true
  | pre, z :: zs => snocB md pre z && tailB md (pre.push z) zs
theorem tail_any : ∀ (zs : List Oper) (pre : Array Oper), tailB md pre zs = true → ∀ (a : Act) (w : World),
    wpAny P md pre (tailQ P pre zs Q) pre.size (Array.replicate pre.size false) a w →
    wpAny P md (pre ++ zs.toArray) Q (pre ++ zs.toArray).size (Array.replicate (pre ++ zs.toArray).size false) a w
  | [], pre, _, a, w, h => by simpa [tailQ] using h
  | z :: zs, pre, hB, a, w, h => by
    simp only [tailB, Bool.and_eq_true] at hB
    have hs := snoc_of hB.1
    have h2 := snoc_any hs pre.size _ (Array.replicate (pre.push z).size false) a w ⟨by simp, by simp, fun j hj => by rw [getD_rep, getD_rep], by rw [getD_rep]⟩ (fun j o hj => by rw [getD_rep] at hj; cases hj) h
    have h3 := tail_any zs (pre.push z) hB.2 a w (by rw [Array.size_push] at h2 ⊢; exact h2)
    have he : pre.push z ++ zs.toArray = pre ++ (z :: zs).toArray := by
      apply Array.ext'
      simp
    rw [he] at h3
    exact h3
theorem wp_region_tail_lit {id : Nat} {l : List Oper} {S : World → Prop} {a : Act} {w : World} (n : Nat) (hm : P.follows .mixedOrders = true) (hB : tailB .any (l.take n).toArray (l.drop n) = true)
    (hS : S w.drew) (h : S w.drew → wpAnyH P .any (l.take n).toArray (tailQ P (l.take n).toArray (l.drop n) Q) S (l.take n).length (Array.replicate (l.take n).length false) a w.drew) : (Code.region id l.toArray true).wp P Q a w := by
  refine wp_region_any hm ?_
  have h1 := tail_any (P := P) (Q := Q) (l.drop n) (l.take n).toArray hB a w.drew (by simpa using wpAny_of_held _ _ _ _ (h hS))
  have he : (l.take n).toArray ++ (l.drop n).toArray = l.toArray := by
    apply Array.ext'
    simp
  rw [he] at h1
  exact h1
theorem tailQ_step {z : Oper} {zs : List Oper} {pre : Array Oper} {a : Act} {w : World} (hz : z.guard = none) (h : wpList P #[z] (tailQ P (pre.push z) zs Q) [z] a w) : tailQ P pre (z :: zs) Q .normal a w := snocQ_normal hz h
theorem tailQ_nil {pre : Array Oper} {a : Act} {w : World} (h : Q .normal a w) : tailQ P pre [] Q .normal a w := h
/-- an append to a queue, of an element that lies in a block of its own -/
theorem wp_append_queA {o : Oper} {a : Act} {K : Act → World → Prop} {Q : Exit → Act → World → Prop} (w : World) (s x : Operand) (t : TypeId)
    (ho : o.op = .call { callee := .builtin .append, args := #[s, x], argTypes := #[t, t] })
    (e : TypeId) (i : TypeInfo) (z : Value) (bytes : Nat) (ht : P.underlying t = some (.slice e)) (hi : P.info? e = some i) (hz : i.zero = some z)
    (hsize : i.size = 1) (hby : i.bytes = bytes) (hzs : z.cells.size = 1) (low : Nat) (v : Value) (b : Option Nat) (xs : List Value) (p : Nat) (u : Value) (hs : a.eval s = v) (hx : a.eval x = .slice (some ⟨p, 0, none⟩) 1 1) (h : Que w low e v b xs) (hlow : low ≤ w.heap.size)
    (hp : Blk w p e #[u]) (h1 : u.oneCell' = true) (hn : xs.length ≤ 1000000) (hbytes : bytes ≤ 64)
    (hK : ∀ v' b' w', Que w' low e v' b' (xs ++ [u]) → w.grownBy w' b → (b' = b ∨ b' = some w.heap.size) → K (a.put o.dst v') w') : o.wp P a w K Q := by
  obtain ⟨v', b', w', hrun, h2, h3, h4⟩ := run_append_que (P := P) w t o.type e i z bytes ht hi hz hsize hby hzs low v b xs h hlow p u hp h1 hn hbytes
  unfold Oper.wp execOp
  simp only [ho, resolve, invoke, builtin, Sem.run_bind, Sem.run_pure, Result.andThen_ok, List.map_toArray, List.map_cons, List.map_nil, hs, hx, hrun]
  exact hK v' b' w' h2 h3 h4
/-- a row of its own from the first cell on -/
theorem Que.of_blk {W : World} {low : Nat} {e : TypeId} {g : Nat} {cur : Array Value} (h : Blk W g e cur) (hl : low ≤ g) (hm : cur.size ≤ maxLen) : Que W low e (.slice (some ⟨g, 0, none⟩) cur.size cur.size) (some g) cur.toList :=
  .inr ⟨g, cur.size, cur.size, 0, cur, ⟨g, 0, none⟩, rfl, rfl, .inl rfl, ⟨h, rfl, Nat.zero_le _, Nat.le_refl _, hm, by rw [List.drop_zero]; exact List.take_of_length_le (by simp), hl⟩⟩
theorem Que.rd {W : World} {low : Nat} {e : TypeId} {v : Value} {b : Option Nat} {xs : List Value} (h : Que W low e v b xs) : ∃ A c, v = .slice A xs.length c ∧ Reads W W.heap.size 1 A xs.length xs ∧ ∀ ad, 0 < xs.length → A = some ad → b = some ad.block := by
  rcases h with ⟨rfl, _, rfl⟩ | ⟨g, C, n, q, cur, ba, rfl, rfl, h3, k⟩
  · exact ⟨none, 0, rfl, Reads.none_, fun ad h => absurd h (by simp)⟩
  · have hl : xs.length = n - q := by
      rw [← k.xs, List.length_drop, List.length_take, Array.length_toList, k.size]
      have := k.nC
      omega
    refine ⟨some ba, C - q, by rw [hl], ⟨by omega, fun h0 => ?_⟩, fun ad h0 he => ?_⟩
    · have hC : C ≠ q := by have := k.nC; omega
      obtain rfl := h3.resolve_right hC
      refine ⟨_, rfl, k.blk.lt, fun j u hj => ?_⟩
      rw [Addr.add_lit, k.blk.cell]
      rw [← k.xs, List.getElem?_drop, List.getElem?_take] at hj
      split at hj
      · simpa using hj
      · cases hj
    · have hC : C ≠ q := by have := k.nC; omega
      obtain rfl := h3.resolve_right hC
      injection he with he
      subst he
      rfl
end
end Go.Proofs.Ythkajcioeemilaa
