/- More words for memory: an owned row is a slice that reads. No condition. -/
import Derived.Test.YtncpafibcpphfaaLib
namespace Go.Proofs.Ytncpafibcpphfaa
open Go.RowKit
theorem own_slice {w : World} {base : Nat} {e : TypeId} {size : Nat} {v : Value} {n : Nat} {xs : List Value} (h : w.ownsRow base e size v n xs) : ∃ A c, v = .slice A n c ∧ n ≤ c ∧ c ≤ maxLen ∧ Reads w w.heap.size size A n xs := by
  rcases h.2 with ⟨rfl, rfl⟩ | ⟨g, cap, cur, rfl, _, _, hc, hm, _, _⟩
  · have : xs = [] := List.eq_nil_of_length_eq_zero (by simpa using h.1)
    subst this
    exact ⟨none, 0, rfl, Nat.le_refl _, Nat.zero_le _, Reads.none_⟩
  · exact ⟨_, _, rfl, hc, hm, Reads.of_own h⟩
theorem own_empty (w : World) (e : TypeId) (size : Nat) : (w.alloc (.cells #[] e)).ownsRow w.heap.size e size (.slice (some ⟨w.heap.size, 0, none⟩) 0 0) 0 [] :=
  ⟨by simp, .inr ⟨w.heap.size, 0, #[], rfl, Nat.le_refl _, heap_alloc_new _ _, Nat.le_refl _, by unfold maxLen; omega, by simp, by simp⟩⟩
theorem own_blk {w : World} {base : Nat} {e : TypeId} {size : Nat} {v : Value} {n : Nat} {xs : List Value} (h : w.ownsRow base e size v n xs) (hn : 0 < n) :
    ∃ g cap cur, v = .slice (some ⟨g, 0, none⟩) n cap ∧ base ≤ g ∧ Blk w g e cur ∧ n ≤ cap ∧ cap ≤ maxLen ∧ cur.size = cap * size ∧ cur.toList.take (n * size) = xs := by
  rcases h.2 with ⟨_, h0⟩ | ⟨g, cap, cur, h1, h2, h3, h4, h5, h6, h7⟩
  · omega
  · exact ⟨g, cap, cur, h1, h2, h3, h4, h5, h6, h7⟩
theorem Blk.reads_take {w : World} {g : Nat} {t : TypeId} {cs : Array Value} (h : Blk w g t cs) {size n : Nat} (hs : n * size ≤ cs.size) : Reads w w.heap.size size (some ⟨g, 0, none⟩) n (cs.toList.take (n * size)) := by
  refine ⟨by simp; omega, fun _ => ⟨_, rfl, h.lt, fun j u hu => ?_⟩⟩
  have e : (⟨g, 0, none⟩ : Addr).add j = ⟨g, j, none⟩ := by unfold Addr.add; split <;> simp_all
  rw [e, h.cell]
  rw [List.getElem?_take] at hu
  split at hu
  · simpa using hu
  · cases hu
theorem take_set {cur : Array Value} {n i : Nat} {xs : List Value} {u : Value} (h : cur.toList.take n = xs) : (cur.setIfInBounds i u).toList.take n = xs.set i u := by
  rw [← h, Array.toList_setIfInBounds]
  apply List.ext_getElem?
  intro j
  simp only [List.getElem?_take, List.getElem?_set, List.length_take, Array.length_toList]
  by_cases hj : j < n <;> by_cases hij : i = j <;> simp [hj, hij]
  · by_cases hc : j < cur.size
    · rw [if_pos hc, if_pos (by omega)]
    · rw [if_neg hc, if_neg (by omega)]
  · omega
theorem Reads.plain {w : World} {B size n : Nat} {A : Option Addr} {xs : List Value} (h : Reads w B size A n xs) (hn : 0 < n) (hs : 0 < size) :
    ∃ b off, A = some ⟨b, off, none⟩ ∧ b < B ∧ ∀ j u, xs[j]? = some u → w.cell? ⟨b, off + j, none⟩ = some u := by
  obtain ⟨⟨b, off, sp⟩, rfl, hb, hc⟩ := h.2 hn
  have hl : 0 < xs.length := by rw [h.1]; exact Nat.mul_pos hn hs
  have h0 := hc 0 _ (List.getElem?_eq_getElem hl)
  have hsp : sp = none := by
    cases sp with
    | none => rfl
    | some s =>
      exfalso
      simp [Addr.add, World.cell?] at h0
      split at h0 <;> simp_all
  subst hsp
  refine ⟨b, off, rfl, hb, fun j u hu => ?_⟩
  have := hc j u hu
  unfold Addr.add at this
  split at this
  · rename_i e; subst e; exact this
  · exact this
theorem run_index_arr {P : Program} {t e : TypeId} {n : Nat} {cs : Array Value} {k : IntKind} {i : Nat} {v : Value} {w : World} {d : TypeDesc} (h : P.underlying t = some (.array n e)) (he : P.underlying e = some d) (hd : (match d with | .struct _ | .array _ _ => true | _ => false) = false)
    (hs : (P.info? e).map (·.size) = some 1) (hi : i < n) (hv : cs[i]? = some v) : (Instr.index t (.agg cs) (.int k (i : Int))).run P w = .ok v w := by
  have hagg : (isAgg e).run P w = .ok false w := by
    unfold isAgg
    rw [Sem.run_bind, run_underlying he w]
    cases d <;> simp_all
  cases hq : P.info? e with
  | none => simp [hq] at hs
  | some q =>
    have hs1 : q.size = 1 := by simpa [hq] using hs
    simp [Instr.index, asIntOf, Sem.run_bind, run_underlying h, part, hagg, sizeOf, typeInfo, hq, hs1, hv]
    intro hc
    omega
theorem own_block_ge {w : World} {base : Nat} {e : TypeId} {size : Nat} {v : Value} {n : Nat} {xs : List Value} (h : w.ownsRow base e size v n xs) : ∀ k, v.ownBlock = some k → base ≤ k := by
  intro k hk
  rcases h.2 with ⟨rfl, _⟩ | ⟨g, cap, cur, rfl, hb, _⟩
  · simp [Value.ownBlock] at hk
  · simp [Value.ownBlock] at hk
    omega
theorem elem_reads (w : World) (us : Array Value) (e : TypeId) : Reads (w.alloc (.cells us e)) (w.heap.size + 1) us.size (some ⟨w.heap.size, 0, none⟩) 1 us.toList := by
  have h := (Blk.new w e us).reads (size := us.size) (n := 1) (by omega)
  exact h.more (by simp)
theorem wpList_append_elem {P : Program} {ops : Array Oper} {rest : List Oper} {o : Oper} {a : Act} {Q : Exit → Act → World → Prop} (w : World) (hgd : o.guard = none) (s x : Operand) (t : TypeId)
    (ho : o.op = .call { callee := .builtin .append, args := #[s, x], argTypes := #[t, t] })
    (base : Nat) (e : TypeId) (i : TypeInfo) (z : Value) (size bytes : Nat) (ht : P.underlying t = some (.slice e)) (hi : P.info? e = some i) (hz : i.zero = some z)
    (hsize : i.size = size) (hby : i.bytes = bytes) (hzs : z.cells.size = size) (hsz : 0 < size)
    (v : Value) (n : Nat) (xs : List Value) (us : Array Value) (hus : us.size = size) (hs : a.eval s = v) (hx : a.eval x = .slice (some ⟨w.heap.size, 0, none⟩) 1 1) (hown : w.ownsRow base e size v n xs)
    (h1 : ∀ u ∈ us.toList, u.oneCell' = true)
    (h63 : n + 1 ≤ maxLen) (hbytes : (n + 1) * bytes ≤ 140737488355328) (hbase : base ≤ w.heap.size)
    (h : ∀ v' w', w'.ownsRow base e size v' (n + 1) (xs ++ us.toList) → Below base w w' → wpList P ops Q rest (a.put o.dst v') w') : wpList P ops Q (o :: rest) a (w.alloc (.cells us e)) := by
  have hr := elem_reads w us e
  rw [hus] at hr
  refine wpList_append_any _ hgd s x t ho base e i z size bytes ht hi hz hsize hby hzs hsz v n xs hs (hown.alloc _) _ _ 1 1 us.toList hx hr h1 h63 hbytes (by simp; omega) ?_
  intro v' w' h2 h3 _
  exact h v' w' h2 (((Below.refl base w).alloc hbase _).grown h3 (by simp; omega) (own_block_ge hown))
theorem Reads.up {w w' : World} {size n : Nat} {A : Option Addr} {xs : List Value} (h : Reads w w.heap.size size A n xs) (hb : Below w.heap.size w w') : Reads w' w'.heap.size size A n xs := (h.below hb).more hb.size
theorem reads_sub {w : World} {B bb off : Nat} {xs : List Value} (hb : bb < B) (hc : ∀ j u, xs[j]? = some u → w.cell? ⟨bb, off + j, none⟩ = some u) (k m : Nat) (h : k + m ≤ xs.length) :
    Reads w B 1 (some ⟨bb, off + k, none⟩) m ((xs.drop k).take m) := by
  refine ⟨by simp; omega, fun _ => ⟨_, rfl, hb, fun j u hu => ?_⟩⟩
  have e : (⟨bb, off + k, none⟩ : Addr).add j = ⟨bb, off + (k + j), none⟩ := by
    unfold Addr.add
    split
    · rename_i h0; subst h0; rfl
    · simp [Nat.add_assoc]
  rw [e]
  refine hc (k + j) u ?_
  rw [List.getElem?_take] at hu
  split at hu
  · rwa [List.getElem?_drop] at hu
  · cases hu
end Go.Proofs.Ytncpafibcpphfaa
