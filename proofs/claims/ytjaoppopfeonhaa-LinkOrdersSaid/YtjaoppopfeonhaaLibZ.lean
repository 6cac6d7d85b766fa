/- copy, append with room and clear on a row that is known whole, elements of any size; append of zero elements onto a new row. No condition. -/
import Derived.Test.YtjaoppopfeonhaaLibC
import Derived.Laws.CopyRow
import Derived.Lib.AppendZerosOnto
import Derived.Lib.AppendZeros
import Derived.Lib.Overlaps
namespace Go.Proofs.Ytjaoppopfeonhaa
open Go.RowKit
theorem grown_setRow (w : World) (g : Nat) (cs : Array Value) : w.grownBy (w.setRow g cs) (some g) := ⟨rfl, rfl, rfl, by simp, fun k _ hk => setRow_other w g k _ (fun e => hk (by rw [e]))⟩
section
variable {P : Program} (w : World)
theorem run_copy_rowS (dT sT ty elem : TypeId) (size g o dLen dCap : Nat) (a : Addr) (sLen sCap k : Nat) (cur : Array Value) (t : TypeId) (cs : List Value)
    (hu : P.underlying dT = some (.slice elem)) (hs : (P.info? elem).map (·.size) = some size)
    (hg : Blk w g t cur) (hk : Nat.min sLen dLen = k) (hn : cs.length = k * size)
    (hsrc : ∀ j v, cs[j]? = some v → w.cell? (a.add j) = some v) (hfit : o + cs.length ≤ cur.size) (h1 : ∀ v ∈ cs, v.oneCell' = true) :
    (Builtin.copy_ #[dT, sT] ty #[.slice (some ⟨g, o, none⟩) dLen dCap, .slice (some a) sLen sCap]).run P w =
      .ok (goInt k) (w.setRow g (cur.toList.take o ++ cs ++ cur.toList.drop (o + cs.length)).toArray) := by
  have hl := run_loadCells_list (P := P) w a cs hsrc
  have hst := run_storeCells_at P g o t cs 0 cur w hg (by simpa using hfit) h1
  cases hq : P.info? elem with
  | none => simp [hq] at hs
  | some i =>
    have hi : i.size = size := by simpa [hq] using hs
    simp [Builtin.copy_, run_underlying hu, Builtin.lenOf, Builtin.firstCells, sizeOf, typeInfo, hq, hi, hk, ← hn, hl, hst]
theorem run_copy_ex (dT sT elem : TypeId) (size g o dLen dCap : Nat) (a : Addr) (sLen sCap k : Nat) (cur : Array Value) (t : TypeId) (cs : List Value)
    (hu : P.underlying dT = some (.slice elem)) (hs : (P.info? elem).map (·.size) = some size)
    (hg : Blk w g t cur) (hk : Nat.min sLen dLen = k) (hn : cs.length = k * size)
    (hsrc : ∀ j v, cs[j]? = some v → w.cell? (a.add j) = some v) (hfit : o + cs.length ≤ cur.size) (h1 : ∀ v ∈ cs, v.oneCell' = true)
    (new : List Value) (hnew : cur.toList.take o ++ cs ++ cur.toList.drop (o + cs.length) = new) :
    ∃ w', (∀ ty, (Builtin.copy_ #[dT, sT] ty #[.slice (some ⟨g, o, none⟩) dLen dCap, .slice (some a) sLen sCap]).run P w = .ok (goInt k) w') ∧ Blk w' g t new.toArray ∧ w.grownBy w' (some g) ∧ w'.heap.size = w.heap.size :=
  ⟨_, fun ty => run_copy_rowS (P := P) w dT sT ty elem size g o dLen dCap a sLen sCap k cur t cs hu hs hg hk hn hsrc hfit h1, by rw [hnew]; exact hg.setRow _, grown_setRow w g _, by simp⟩
theorem wpList_copy_rowS {ops : Array Oper} {rest : List Oper} {o : Oper} {a : Act} {Q : Exit → Act → World → Prop} (hgd : o.guard = none) (d s : Operand) (dT sT : TypeId)
    (ho : o.op = .call { callee := .builtin .copy, args := #[d, s], argTypes := #[dT, sT] }) (elem : TypeId) (size : Nat) (hu : P.underlying dT = some (.slice elem)) (hs : (P.info? elem).map (·.size) = some size)
    (g off dLen dCap : Nat) (ad : Addr) (sLen sCap k : Nat) (hd : a.eval d = .slice (some ⟨g, off, none⟩) dLen dCap) (hx : a.eval s = .slice (some ad) sLen sCap)
    (cur : Array Value) (t : TypeId) (hg : Blk w g t cur) (cs : List Value) (hk : Nat.min sLen dLen = k) (hn : cs.length = k * size)
    (hsrc : ∀ j v, cs[j]? = some v → w.cell? (ad.add j) = some v) (hfit : off + cs.length ≤ cur.size) (h1 : ∀ v ∈ cs, v.oneCell' = true)
    (new : List Value) (hnew : cur.toList.take off ++ cs ++ cur.toList.drop (off + cs.length) = new)
    (h : ∀ w', Blk w' g t new.toArray → w.grownBy w' (some g) → w'.heap.size = w.heap.size → wpList P ops Q rest (a.put o.dst (goInt k)) w') : wpList P ops Q (o :: rest) a w := by
  have hrun := run_copy_rowS (P := P) w dT sT o.type elem size g off dLen dCap ad sLen sCap k cur t cs hu hs hg hk hn hsrc hfit h1
  refine wpList_plain hgd fun K hK => ?_
  unfold Oper.wp execOp
  simp only [ho, resolve, invoke, builtin, Sem.run_bind, Sem.run_pure, Result.andThen_ok, List.map_toArray, List.map_cons, List.map_nil, hd, hx, hrun]
  refine hK _ _ (h _ ?_ (grown_setRow w g _) (by simp))
  rw [hnew]
  exact hg.setRow _
theorem wpList_append_blk {ops : Array Oper} {rest : List Oper} {o : Oper} {a : Act} {Q : Exit → Act → World → Prop} (hgd : o.guard = none) (d s : Operand) (t : TypeId)
    (ho : o.op = .call { callee := .builtin .append, args := #[d, s], argTypes := #[t, t] }) (e : TypeId) (i : TypeInfo) (ht : P.underlying t = some (.slice e)) (hi : P.info? e = some i)
    (size g n cap : Nat) (hsize : i.size = size) (A : Addr) (m c : Nat) (hd : a.eval d = .slice (some ⟨g, 0, none⟩) n cap) (hx : a.eval s = .slice (some A) m c)
    (cur : Array Value) (hg : Blk w g e cur) (news : List Value) (hn : news.length = m * size) (hroom : n + m ≤ cap) (hfit : n * size + news.length ≤ cur.size)
    (hsrc : ∀ j v, news[j]? = some v → w.cell? (A.add j) = some v) (h1 : ∀ v ∈ news, v.oneCell' = true)
    (new : List Value) (hnew : cur.toList.take (n * size) ++ news ++ cur.toList.drop (n * size + news.length) = new)
    (h : ∀ w', Blk w' g e new.toArray → w.grownBy w' (some g) → w'.heap.size = w.heap.size → wpList P ops Q rest (a.put o.dst (.slice (some ⟨g, 0, none⟩) (n + m) cap)) w') : wpList P ops Q (o :: rest) a w := by
  subst hsize
  have hf := run_firstCells_some (P := P) w i.size m A m c news hn hsrc
  have hst := run_storeCells_at P g (n * i.size) e news 0 cur w hg (by rw [Nat.add_zero]; exact hfit) h1
  simp only [Nat.add_zero] at hst
  have hrun : (Builtin.append_ #[t, t] o.type #[.slice (some ⟨g, 0, none⟩) n cap, .slice (some A) m c]).run P w =
      .ok (.slice (some ⟨g, 0, none⟩) (n + m) cap) (w.setRow g (cur.toList.take (n * i.size) ++ news ++ cur.toList.drop (n * i.size + news.length)).toArray) := by
    simp [Builtin.append_, run_underlying ht, sizeOf, typeInfo, hi, Builtin.lenOf, hroom, hf, Addr.add_lit, hst]
  refine wpList_plain hgd fun K hK => ?_
  unfold Oper.wp execOp
  simp only [ho, resolve, invoke, builtin, Sem.run_bind, Sem.run_pure, Result.andThen_ok, List.map_toArray, List.map_cons, List.map_nil, hd, hx, hrun]
  refine hK _ _ (h _ ?_ (grown_setRow w g _) (by simp))
  rw [hnew]
  exact hg.setRow _
theorem run_clear_ex (t e : TypeId) (z : Value) (ht : P.underlying t = some (.slice e)) (hv : ∀ w, (zeroValue e).run P w = .ok z w)
    (g off n c : Nat) (hn : 0 < n) (cur : Array Value) (hg : Blk w g e cur)
    (zs : List Value) (hz : (Builtin.zeroCells z.cells n).toList = zs) (hfit : off + zs.length ≤ cur.size) (h1 : ∀ v ∈ zs, v.oneCell' = true)
    (new : List Value) (hnew : cur.toList.take off ++ zs ++ cur.toList.drop (off + zs.length) = new) :
    ∃ w', (∀ ty, (Builtin.clear_ #[t] ty #[.slice (some ⟨g, off, none⟩) n c]).run P w = .ok (.tuple #[]) w') ∧ Blk w' g e new.toArray ∧ w.grownBy w' (some g) := by
  have hst := run_storeCells_at P g off e zs 0 cur w hg (by rw [Nat.add_zero]; exact hfit) h1
  simp only [Nat.add_zero] at hst
  obtain ⟨m, rfl⟩ : ∃ m, n = m + 1 := ⟨n - 1, by omega⟩
  refine ⟨w.setRow g (cur.toList.take off ++ zs ++ cur.toList.drop (off + zs.length)).toArray, fun ty => ?_, by rw [hnew]; exact hg.setRow _, grown_setRow w g _⟩
  simp [Builtin.clear_, run_underlying ht, hv, hz, hst]
theorem wpList_clear_blk {ops : Array Oper} {rest : List Oper} {o : Oper} {a : Act} {Q : Exit → Act → World → Prop} (hgd : o.guard = none) (d : Operand) (t : TypeId)
    (ho : o.op = .call { callee := .builtin .clear, args := #[d], argTypes := #[t] }) (e : TypeId) (z : Value) (ht : P.underlying t = some (.slice e)) (hv : ∀ w, (zeroValue e).run P w = .ok z w)
    (g off n c : Nat) (hd : a.eval d = .slice (some ⟨g, off, none⟩) n c) (hn : 0 < n) (cur : Array Value) (hg : Blk w g e cur)
    (zs : List Value) (hz : (Builtin.zeroCells z.cells n).toList = zs) (hfit : off + zs.length ≤ cur.size) (h1 : ∀ v ∈ zs, v.oneCell' = true)
    (new : List Value) (hnew : cur.toList.take off ++ zs ++ cur.toList.drop (off + zs.length) = new)
    (h : ∀ w', Blk w' g e new.toArray → w.grownBy w' (some g) → w'.heap.size = w.heap.size → wpList P ops Q rest (a.put o.dst (.tuple #[])) w') : wpList P ops Q (o :: rest) a w := by
  have hst := run_storeCells_at P g off e zs 0 cur w hg (by rw [Nat.add_zero]; exact hfit) h1
  simp only [Nat.add_zero] at hst
  obtain ⟨m, rfl⟩ : ∃ m, n = m + 1 := ⟨n - 1, by omega⟩
  have hrun : (Builtin.clear_ #[t] o.type #[.slice (some ⟨g, off, none⟩) (m + 1) c]).run P w = .ok (.tuple #[]) (w.setRow g (cur.toList.take off ++ zs ++ cur.toList.drop (off + zs.length)).toArray) := by
    simp [Builtin.clear_, run_underlying ht, hv, hz, hst]
  refine wpList_plain hgd fun K hK => ?_
  unfold Oper.wp execOp
  simp only [ho, resolve, invoke, builtin, Sem.run_bind, Sem.run_pure, Result.andThen_ok, List.map_toArray, List.map_cons, List.map_nil, hd, hrun]
  refine hK _ _ (h _ ?_ (grown_setRow w g _) (by simp))
  rw [hnew]
  exact hg.setRow _
end
end Go.Proofs.Ytjaoppopfeonhaa
