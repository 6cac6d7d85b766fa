/- append of one element onto the rest of an own row behind some index. No condition. -/
import Derived.Test.YthkajcioeemilaaLib
namespace Go.Proofs.Ythkajcioeemilaa
open Go.RowKit
section
variable {P : Program} (w : World)
theorem drop_app {xs us rest : List Value} {k : Nat} (h : k ≤ xs.length) : (xs ++ us ++ rest).drop k = xs.drop k ++ us ++ rest := by
  rw [List.append_assoc, List.drop_append_of_le_length h, List.append_assoc]
theorem run_append_sub (t ty e : TypeId) (i : TypeInfo) (z : Value) (size bytes : Nat) (ht : P.underlying t = some (.slice e)) (hi : P.info? e = some i) (hz : i.zero = some z)
    (hsize : i.size = size) (hby : i.bytes = bytes) (hzs : z.cells.size = size)
    (g C n q : Nat) (cur : Array Value) (hg : Blk w g e cur) (hcs : cur.size = C * size) (hqn : q ≤ n) (hnC : n ≤ C) (hC : C ≤ maxLen) (xs : List Value) (hx : cur.toList.take (n * size) = xs)
    (b : Nat) (us : Array Value) (hb : Blk w b e us) (hus : us.size = size) (h1 : ∀ u ∈ us.toList, u.oneCell' = true)
    (h63 : n + 1 ≤ maxLen) (hbytes : (n + 1) * bytes ≤ 140737488355328) (ba : Addr) (hba : ba = ⟨g, q * size, none⟩ ∨ C = q) :
    ∃ A' c' w', (Builtin.append_ #[t, t] ty #[.slice (some ba) (n - q) (C - q), .slice (some ⟨b, 0, none⟩) 1 1]).run P w = .ok (.slice A' (n - q + 1) c') w' ∧
      Reads w' w'.heap.size size A' (n - q + 1) (xs.drop (q * size) ++ us.toList) ∧ n - q + 1 ≤ c' ∧ c' ≤ maxLen ∧ w.grownBy w' (some g) ∧ ∀ ad, A' = some ad → ad.block = g ∨ ad.block = w.heap.size := by
  subst hsize hby
  have hxl : xs.length = n * i.size := by
    rw [← hx, List.length_take, Array.length_toList, hcs]
    exact Nat.min_eq_left (Nat.mul_le_mul_right _ hnC)
  have hqs : q * i.size ≤ n * i.size := Nat.mul_le_mul_right _ hqn
  have hq2 : q * i.size + (n - q) * i.size = n * i.size := by rw [← Nat.add_mul]; congr 1; omega
  have hnews : ∀ j v, us.toList[j]? = some v → w.cell? ((⟨b, 0, none⟩ : Addr).add j) = some v := fun j v hv => by
    rw [Addr.add_lit, Nat.zero_add, hb.cell]
    simpa using hv
  have hlen : (xs.drop (q * i.size) ++ us.toList).length = (n - q + 1) * i.size := by
    rw [List.length_append, List.length_drop, hxl, Array.length_toList, hus, Nat.add_mul]
    omega
  by_cases hroom : n - q + 1 ≤ C - q
  · obtain rfl : ba = ⟨g, q * i.size, none⟩ := hba.resolve_right (by omega)
    have hfit : q * i.size + (n - q) * i.size + us.toList.length ≤ cur.size := by
      rw [hq2, Array.length_toList, hus, hcs]
      have : (n + 1) * i.size ≤ C * i.size := Nat.mul_le_mul_right _ (by omega)
      rw [Nat.add_mul] at this
      omega
    have hf := run_firstCells_some (P := P) w i.size 1 ⟨b, 0, none⟩ 1 1 us.toList (by rw [Array.length_toList, hus, Nat.one_mul]) hnews
    have hst := run_storeCells_at P g (n * i.size) e us.toList 0 cur w hg (by rw [Nat.add_zero, ← hq2]; exact hfit) h1
    simp only [Nat.add_zero] at hst
    have hr : (Builtin.append_ #[t, t] ty #[.slice (some ⟨g, q * i.size, none⟩) (n - q) (C - q), .slice (some ⟨b, 0, none⟩) 1 1]).run P w =
        .ok (.slice (some ⟨g, q * i.size, none⟩) (n - q + 1) (C - q)) (w.setRow g (cur.toList.take (n * i.size) ++ us.toList ++ cur.toList.drop (n * i.size + us.toList.length)).toArray) := by
      simp [Builtin.append_, run_underlying ht, sizeOf, typeInfo, hi, Builtin.lenOf, hroom, hf, Addr.add_lit, hq2, hst]
    refine ⟨_, _, _, hr, ?_, hroom, by omega, ⟨rfl, rfl, rfl, by simp, fun k _ hk => setRow_other w g k _ (fun e => hk (by rw [e]))⟩, fun ad he => by injection he with he; exact .inl (by rw [← he])⟩
    refine ⟨hlen, fun _ => ⟨_, rfl, by simpa using hg.lt, fun j u hu => ?_⟩⟩
    rw [Addr.add_lit, (hg.setRow _).cell]
    rw [hx]
    have hd : (xs ++ us.toList ++ cur.toList.drop (n * i.size + us.toList.length)).drop (q * i.size) = xs.drop (q * i.size) ++ us.toList ++ cur.toList.drop (n * i.size + us.toList.length) := drop_app (by omega)
    have h9 : ((xs ++ us.toList ++ cur.toList.drop (n * i.size + us.toList.length)).drop (q * i.size))[j]? = some u := by
      rw [hd, List.getElem?_append_left (List.getElem?_eq_some_iff.1 hu).1]
      exact hu
    rw [List.getElem?_drop] at h9
    simpa using h9
  · have hr := run_append_grow (P := P) w t ty e i z ht hi hz ba (n - q) (C - q) (xs.drop (q * i.size)) (by rw [List.length_drop, hxl]; omega)
      (fun j v hv => by
        rcases hba with rfl | hba
        case inr =>
          have h0 : (xs.drop (q * i.size)) = [] := List.drop_eq_nil_of_le (by rw [hxl]; exact Nat.mul_le_mul_right _ (by omega))
          rw [h0] at hv
          simp at hv
        rw [List.getElem?_drop, ← hx, List.getElem?_take] at hv
        rw [Addr.add_lit, hg.cell]
        split at hv
        · simpa using hv
        · cases hv)
      ⟨b, 0, none⟩ 1 1 us.toList (by rw [Array.length_toList, hus, Nat.one_mul]) hnews (by omega) (by simp only [maxLen] at h63; omega)
      (growslice_fits (by omega) (Nat.le_trans (Nat.mul_le_mul_right _ (by omega)) hbytes))
    refine ⟨_, _, _, hr, ?_, grownCap_ge w _ _ e, grownCap_le_maxLen w _ _ e (by omega), ⟨rfl, rfl, rfl, by simp, fun k hk _ => Below.heap_alloc w.drew _ k hk⟩, fun ad he => by injection he with he; exact .inr (by rw [← he])⟩
    refine ⟨hlen, fun _ => ⟨_, rfl, by simp, fun j u hu => ?_⟩⟩
    rw [Addr.add_lit, Nat.zero_add]
    have hk := Blk.new w.drew e ((xs.drop (q * i.size)).toArray ++ us.toList.toArray ++ Builtin.zeroCells z.cells (grownCap w (n - q + 1) (C - q) e - (n - q + 1)))
    rw [show w.heap.size = w.drew.heap.size from rfl, hk.cell]
    rw [← Array.getElem?_toList]
    simp only [Array.toList_append]
    rw [List.getElem?_append_left (by simpa using (List.getElem?_eq_some_iff.1 hu).1)]
    simpa using hu
/-- the same as an operation -/
theorem wp_append_sub {o : Oper} {a : Act} {K : Act → World → Prop} {Q : Exit → Act → World → Prop} (s x : Operand) (t : TypeId)
    (ho : o.op = .call { callee := .builtin .append, args := #[s, x], argTypes := #[t, t] })
    (e : TypeId) (i : TypeInfo) (z : Value) (size bytes : Nat) (ht : P.underlying t = some (.slice e)) (hi : P.info? e = some i) (hz : i.zero = some z)
    (hsize : i.size = size) (hby : i.bytes = bytes) (hzs : z.cells.size = size)
    (g C n q : Nat) (cur : Array Value) (hg : Blk w g e cur) (hcs : cur.size = C * size) (hqn : q ≤ n) (hnC : n ≤ C) (hC : C ≤ maxLen) (xs : List Value) (hx : cur.toList.take (n * size) = xs)
    (b : Nat) (us : Array Value) (hb : Blk w b e us) (hus : us.size = size) (h1 : ∀ u ∈ us.toList, u.oneCell' = true)
    (h63 : n + 1 ≤ maxLen) (hbytes : (n + 1) * bytes ≤ 140737488355328)
    (ba : Addr) (d d' : Nat) (hs : a.eval s = .slice (some ba) d d') (hx2 : a.eval x = .slice (some ⟨b, 0, none⟩) 1 1) (hba : ba = ⟨g, q * size, none⟩ ∨ C = q) (hd : d = n - q) (hd' : d' = C - q)
    (h : ∀ A' c' w', Reads w' w'.heap.size size A' (n - q + 1) (xs.drop (q * size) ++ us.toList) → n - q + 1 ≤ c' → c' ≤ maxLen → w.grownBy w' (some g) → (∀ ad, A' = some ad → ad.block = g ∨ ad.block = w.heap.size) → K (a.put o.dst (.slice A' (n - q + 1) c')) w') :
    Oper.wp P o a w K Q := by
  subst hd hd'
  obtain ⟨A', c', w', hrun, h2, h3, h4, h5, h6⟩ := run_append_sub (P := P) w t o.type e i z size bytes ht hi hz hsize hby hzs g C n q cur hg hcs hqn hnC hC xs hx b us hb hus h1 h63 hbytes ba hba
  unfold Oper.wp execOp
  simp only [ho, resolve, invoke, builtin, Sem.run_bind, Sem.run_pure, Result.andThen_ok, List.map_toArray, List.map_cons, List.map_nil, hs, hx2, hrun]
  exact h A' c' w' h2 h3 h4 h5 h6
theorem Reads.far {w : World} {B size n : Nat} {A : Option Addr} {xs : List Value} (h : Reads w B size A n xs) {p : Addr} (hp : ∀ ad, A = some ad → ad.block ≠ p.block) (u : Value) : Reads (w.setCell p u) B size A n xs := by
  refine ⟨h.1, fun hn => ?_⟩
  obtain ⟨ad, rfl, hb, hc⟩ := h.2 hn
  refine ⟨ad, rfl, hb, fun j v hv => ?_⟩
  have hne := hp ad rfl
  have := Below.heap_setCell w p u (ad.add j).block (by rw [block_of_add]; exact hne)
  simp only [World.cell?, this]
  exact hc j v hv
end
end Go.Proofs.Ythkajcioeemilaa
