/- The walk of slices.Insert at rows of their own. Conditions: one element is put in, at most 10000 elements. -/
import Derived.Test.YtanmndhdhlmjgaaVf
import Derived.Test.YtanmndhdhlmjgaaLib
import Derived.StillTailTactics
namespace Go.Proofs.Ytanmndhdhlmjgaa
open Go.RowKit
theorem ins_room {cur xs us : List Value} {n q : Nat} (hx : cur.take (n * 2) = xs) (hl : (n + 1) * 2 ≤ cur.length) (hq : q < n) (hus : us.length = 2) (r1 r2 : List Value)
    (h1 : cur.take ((q + 1) * 2) ++ xs.drop (q * 2) ++ cur.drop ((q + 1) * 2 + (xs.drop (q * 2)).length) = r1) (h2 : r1.take (q * 2) ++ us ++ r1.drop (q * 2 + us.length) = r2) :
    r2.length = cur.length ∧ r2.take ((n + 1) * 2) = xs.take (q * 2) ++ us ++ xs.drop (q * 2) := by
  have hxl : xs.length = n * 2 := by rw [← hx, List.length_take]; omega
  have hl1 : r1.length = cur.length := by rw [← h1]; simp [hxl]; omega
  refine ⟨by rw [← h2]; simp [hl1, hus]; omega, ?_⟩
  apply List.ext_getElem?
  intro j
  rw [← h2, ← h1, ← hx]
  simp only [List.getElem?_take, List.getElem?_append, List.getElem?_drop, List.length_take, List.length_append, List.length_drop, hus]
  repeat' split
  all_goals first
    | rfl
    | omega
    | (congr 1; omega)
    | (rw [List.getElem?_eq_none (by omega)])
    | (rw [eq_comm, List.getElem?_eq_none (by omega)])
theorem ins_new {row xs us : List Value} {n q : Nat} (hx : row.take (q * 2) = xs.take (q * 2)) (hxl : xs.length = n * 2) (hl : (n + 1) * 2 ≤ row.length) (hq : q < n) (hus : us.length = 2) (r1 r2 : List Value)
    (h1 : row.take (q * 2) ++ us ++ row.drop (q * 2 + us.length) = r1) (h2 : r1.take ((q + 1) * 2) ++ xs.drop (q * 2) ++ r1.drop ((q + 1) * 2 + (xs.drop (q * 2)).length) = r2) :
    r2.length = row.length ∧ r2.take ((n + 1) * 2) = xs.take (q * 2) ++ us ++ xs.drop (q * 2) := by
  have hl1 : r1.length = row.length := by rw [← h1]; simp [hus]; omega
  refine ⟨by rw [← h2]; simp [hl1, hxl]; omega, ?_⟩
  rw [← hx]
  apply List.ext_getElem?
  intro j
  rw [← h2, ← h1]
  simp only [List.getElem?_take, List.getElem?_append, List.getElem?_drop, List.length_take, List.length_append, List.length_drop, hus, hxl]
  repeat' split
  all_goals first
    | rfl
    | omega
    | (congr 1; omega)
    | (rw [List.getElem?_eq_none (by omega)])
    | (rw [eq_comm, List.getElem?_eq_none (by omega)])
structure InsR (w : World) (base : Nat) (v : Value) (n : Nat) (new : List Value) (e : Ending) (w' : World) : Prop where
  val : ∃ v', e = .returned v' ∧ w'.ownsRow base 84 2 v' (n + 1) new ∧ (v'.ownBlock = v.ownBlock ∨ v'.ownBlock = some w.heap.size)
  grown : w.grownBy w' v.ownBlock
theorem size84 : (Try.prog.info? 84).map (·.size) = some 2 := by kernel_rfl
theorem sizeOf84 (w : World) : (Go.sizeOf 84).run Try.prog w = .ok 2 w := by
  obtain ⟨i2, hi2, _, hs, _⟩ := info_parts info84
  simp [Go.sizeOf, typeInfo, hi2, hs]
set_option maxRecDepth 100000 in
set_option maxHeartbeats 2000000 in
theorem Insert_end (base : Nat) (v : Value) (n : Nat) (xs : List Value) (vb : Nat) (us : Array Value) (w : World) (hown : w.ownsRow base 84 2 v n xs) (hv : Blk w vb 84 us) (hus : us.size = 2)
    (h1u : ∀ u ∈ us.toList, u.oneCell' = true) (hn : n ≤ 10000) (hbase : base ≤ w.heap.size) :
    Calls Try.prog 90 #[v, .int .i64 n, .slice (some ⟨vb, 0, none⟩) 1 1] w (InsR w base v n (xs ++ us.toList)) := by
  obtain ⟨i2, hi2, hy0, hy1, hy2⟩ := info_parts info84
  have HI := Lib.hid (And.intro hi2 (And.intro hy0 (And.intro hy1 hy2)))
  clear hi2 hy0 hy1 hy2
  obtain ⟨A, c, rfl, hnc, hcm, _⟩ := own_slice hown
  have hr := hv.reads (size := 2) (n := 1) (by omega)
  have HX := Lib.hid (And.intro hown (And.intro hr (And.intro h1u hcm)))
  clear hown hr h1u hv hcm
  by_cases hcn : c = n
  · subst hcn
    go_enter Try.func90, Try.ntmps90
    go_wp2_with (at_builtin; go_must (refine wpList_append_any w rfl (.tmp 23) (.tmp 24) _ rfl base 84 i2 _ 2 32 Try.underlying31 HI.out.1 HI.out.2.1 HI.out.2.2.1 HI.out.2.2.2 rfl (by omega) _ c xs rfl HX.out.1 w.heap.size (some ⟨vb, 0, none⟩) 1 1 us.toList rfl HX.out.2.1 HX.out.2.2.1 (by simp only [maxLen]; omega) (by omega) hbase ?_; intro v1 w1 ho1 hg1 hv1))
    go_ret
    exact ⟨⟨v1, rfl, ho1, hv1⟩, hg1⟩
  · go_enter Try.func90, Try.ntmps90
    go_wp2_with (at_builtin; go_must (refine wpList_append_any w rfl (.tmp 23) (.tmp 24) _ rfl base 84 i2 _ 2 32 Try.underlying31 HI.out.1 HI.out.2.1 HI.out.2.2.1 HI.out.2.2.2 rfl (by omega) _ n xs rfl HX.out.1 w.heap.size (some ⟨vb, 0, none⟩) 1 1 us.toList rfl HX.out.2.1 HX.out.2.2.1 (by simp only [maxLen]; omega) (by omega) hbase ?_; intro v1 w1 ho1 hg1 hv1))
    go_ret
    exact ⟨⟨v1, rfl, ho1, hv1⟩, hg1⟩
set_option maxRecDepth 100000 in
set_option maxHeartbeats 2000000 in
theorem Insert_room (base g n cap q : Nat) (cur : Array Value) (xs : List Value) (vb : Nat) (us : Array Value) (w : World) (hg : Blk w g 84 cur) (hcs : cur.size = cap * 2) (hx : cur.toList.take (n * 2) = xs) (hv : Blk w vb 84 us) (hus : us.size = 2)
    (h1u : ∀ u ∈ us.toList, u.oneCell' = true) (h1x : ∀ u ∈ xs, u.oneCell' = true) (hq : q < n) (hn : n ≤ 10000) (hroom : n + 1 ≤ cap) (hcm : cap ≤ maxLen) (hne : vb ≠ g) (hbase : base ≤ g) :
    Calls Try.prog 90 #[.slice (some ⟨g, 0, none⟩) n cap, .int .i64 q, .slice (some ⟨vb, 0, none⟩) 1 1] w (InsR w base (.slice (some ⟨g, 0, none⟩) n cap) n (xs.take (q * 2) ++ us.toList ++ xs.drop (q * 2))) := by
  obtain ⟨new, hnew⟩ : ∃ new, xs.take (q * 2) ++ us.toList ++ xs.drop (q * 2) = new := ⟨_, rfl⟩
  rw [hnew]
  have hxl : xs.length = n * 2 := by rw [← hx, List.length_take, Array.length_toList, hcs]; omega
  have hov : ∀ lb cb, (callFunc 91 #[.slice (some ⟨vb, 0, none⟩) 1 1, .slice (some ⟨g, (q + 1) * 2, none⟩) lb cb]).run Try.prog w = .ok (.value (.bool false)) w := fun lb cb => by
    rw [run_callFunc_extern Try.func91 (by kernel_rfl) (by kernel_rfl) (by kernel_rfl) (e := Extern.SlicesOverlaps.overlaps #[31, 31] #[4]) (by kernel_rfl),
      Lib.run_overlaps_apart w 31 4 84 Try.underlying31 2 sizeOf84 ⟨vb, 0, none⟩ ⟨g, (q + 1) * 2, none⟩ 1 1 lb cb hne 84 84 us.size cur.size (by unfold World.shape?; rw [show w.heap[vb]? = _ from hv]) (by unfold World.shape?; rw [show w.heap[g]? = _ from hg]) (by omega) (hv.frozen 0) (hv.frozen _)]
    rfl
  obtain ⟨r1, h1⟩ : ∃ r1, cur.toList.take ((q + 1) * 2) ++ xs.drop (q * 2) ++ cur.toList.drop ((q + 1) * 2 + (xs.drop (q * 2)).length) = r1 := ⟨_, rfl⟩
  obtain ⟨r2, h2⟩ : ∃ r2, r1.take (q * 2) ++ us.toList ++ r1.drop (q * 2 + us.toList.length) = r2 := ⟨_, rfl⟩
  have hfin := ins_room hx (by rw [Array.length_toList, hcs]; omega) hq (by rw [Array.length_toList, hus]) r1 r2 h1 h2
  rw [hnew] at hfin
  clear hnew
  have hl1 : r1.length = cur.size := by rw [← h1]; simp [hxl]; omega
  have HX := Lib.hid (And.intro hg (And.intro hcs (And.intro hx (And.intro hv (And.intro hus (And.intro h1u (And.intro h1x (And.intro hxl (And.intro h1 (And.intro h2 (And.intro hfin hl1)))))))))))
  clear hg hcs hx hv hus h1u h1x hxl h1 h2 hfin hl1
  have b1 : ¬ ((q : Int) = (n : Int)) := by omega
  have b2 : ¬ (cap : Int) < (n : Int) + 1 := by omega
  have b3 : (q : Int) < n := by omega
  have b4 : (n : Int) + 1 ≤ cap := by omega
  have b5 : ¬ cap = q := by omega
  have b6 : ¬ cap = q + 1 := by omega
  have b7 : q ≤ n := by omega
  have b8 : (q : Int) ≤ (n : Int) + 1 := by omega
  have b9 : (q : Int) ≤ (n : Int) := by omega
  unfold maxLen at hcm
  have w1 : IntKind.i64.wrap ((q : Int) + 1) = (q : Int) + 1 := by rw [IntWalk.i64_in _ (by omega)]
  have w2 : ((q : Int) + 1).toNat = q + 1 := by omega
  have w3 : (0 : Int) ≤ (q : Int) + 1 := by omega
  have w4 : (q : Int) + 1 ≤ (n : Int) + 1 := by omega
  go_enter Try.func90, Try.ntmps90
  go_wp2_with (simp only [hov])
  go_still_tail 8, (by kernel_rfl)
  change wpList _ _ _ _ _ w.drew
  refine wpList_copy_rowS w.drew rfl (.tmp 73) (.tmp 76) 31 31 rfl 84 2 Try.underlying31 size84 g ((q + 1) * 2) _ _ ⟨g, q * 2, none⟩ _ _ (n - q) rfl rfl cur 84 HX.out.1.drew (xs.drop (q * 2)) (by simp only [Nat.min_def]; split <;> omega) (by rw [List.length_drop, HX.out.2.2.2.2.2.2.2.1, Nat.sub_mul]) ?_ (by rw [List.length_drop, HX.out.2.2.2.2.2.2.2.1, HX.out.2.1]; omega) (fun u hu => HX.out.2.2.2.2.2.2.1 u (List.mem_of_mem_drop hu)) r1 HX.out.2.2.2.2.2.2.2.2.1 ?_
  · intro j u hu
    rw [Addr.add_lit, World.cell?_drew, HX.out.1.cell]
    rw [List.getElem?_drop, ← HX.out.2.2.1, List.getElem?_take] at hu
    split at hu
    · simpa using hu
    · cases hu
  intro V hg1 hgr1 hs1
  have hv1 : Blk V vb 84 us := HX.out.2.2.2.1.drew.grown hgr1 (by simpa using hne)
  have hlt : vb < w.heap.size := HX.out.2.2.2.1.lt
  have HV := Lib.hid (And.intro hg1 (And.intro hgr1 hv1))
  clear hg1 hgr1 hs1 hv1 hlt hov
  obtain ⟨V2, hrun, hg2, hgr2, hs2⟩ := run_copy_ex (P := Try.prog) V 31 31 84 2 g (q * 2) (n + 1 - q) (cap - q) ⟨vb, 0, none⟩ 1 1 1 r1.toArray 84 us.toList Try.underlying31 size84 HV.out.1 (by simp only [Nat.min_def]; split <;> omega) (by rw [Array.length_toList, HX.out.2.2.2.2.1]) (fun j u hu => by rw [Addr.add_lit, Nat.zero_add, HV.out.2.2.cell]; simpa using hu) (by rw [List.size_toArray, HX.out.2.2.2.2.2.2.2.2.2.2.2, Array.length_toList, HX.out.2.2.2.2.1, HX.out.2.1]; omega) HX.out.2.2.2.2.2.1 r2 HX.out.2.2.2.2.2.2.2.2.2.1
  have HV2 := Lib.hid (And.intro hg2 hgr2)
  clear hg2 hgr2 hs2
  go_wp2_with fail
  go_ret
  have hfin := HX.out.2.2.2.2.2.2.2.2.2.2.1
  have hcs := HX.out.2.1
  refine ⟨⟨_, rfl, ⟨?_, .inr ⟨g, cap, r2.toArray, rfl, hbase, HV2.out.1, hroom, by unfold maxLen; omega, by rw [List.size_toArray, hfin.1, Array.length_toList, hcs], by simpa using hfin.2⟩⟩, .inl rfl⟩, ?_⟩
  · rw [← hfin.2, List.length_take, hfin.1, Array.length_toList, hcs]
    omega
  · show w.grownBy V2 (some g)
    have hd : w.grownBy w.drew (some g) := ⟨rfl, rfl, rfl, Nat.le_refl _, fun _ _ _ => rfl⟩
    exact (hd.trans HV.out.2.1).trans HV2.out.2
theorem zero84 : (Builtin.zeroCells (Value.agg #[.int .i64 0, .slice none 0 0]).cells 1).toList = [.int .i64 0, .slice none 0 0] := by kernel_rfl
set_option maxRecDepth 100000 in
set_option maxHeartbeats 2000000 in
theorem Insert_grow (base g n q : Nat) (cur : Array Value) (xs : List Value) (vb : Nat) (us : Array Value) (w : World) (hg : Blk w g 84 cur) (hcs : cur.size = n * 2) (hx : cur.toList.take (n * 2) = xs) (hv : Blk w vb 84 us) (hus : us.size = 2)
    (h1u : ∀ u ∈ us.toList, u.oneCell' = true) (h1x : ∀ u ∈ xs, u.oneCell' = true) (hq : q < n) (hn : n ≤ 10000) (hbase : base ≤ w.heap.size) :
    Calls Try.prog 90 #[.slice (some ⟨g, 0, none⟩) n n, .int .i64 q, .slice (some ⟨vb, 0, none⟩) 1 1] w (InsR w base (.slice (some ⟨g, 0, none⟩) n n) n (xs.take (q * 2) ++ us.toList ++ xs.drop (q * 2))) := by
  obtain ⟨new, hnew⟩ : ∃ new, xs.take (q * 2) ++ us.toList ++ xs.drop (q * 2) = new := ⟨_, rfl⟩
  rw [hnew]
  have hxl : xs.length = n * 2 := by rw [← hx, List.length_take, Array.length_toList, hcs]; omega
  obtain ⟨i2, hi2, hy0, hy1, hy2⟩ := info_parts info84
  have hik : q + (n + 1 - q) = n + 1 := by omega
  have hold : (Builtin.firstCells i2.size q (.slice (some ⟨g, 0, none⟩) q n)).run Try.prog w.drew = .ok (xs.take (q * 2)).toArray w.drew := by
    rw [hy1]
    refine run_firstCells_some w.drew 2 q ⟨g, 0, none⟩ q n (xs.take (q * 2)) (by rw [List.length_take]; omega) (fun j v hj => ?_)
    rw [Addr.add_lit, Nat.zero_add]
    show w.cell? _ = _
    rw [hg.cell]
    rw [List.getElem?_take] at hj
    split at hj
    · rw [← hx, List.getElem?_take] at hj
      split at hj
      · simpa using hj
      · cases hj
    · cases hj
  have hrz : ∀ ty, (Builtin.append_ #[31, 3] ty #[.slice (some ⟨g, 0, none⟩) q n, .int .i64 ((n + 1 - q : Nat) : Int)]).run Try.prog w =
      .ok (.slice (some ⟨w.heap.size, 0, none⟩) (n + 1) (grownCap w (n + 1) n 84)) (w.drew.alloc (.cells ((xs.take (q * 2)).toArray ++ Builtin.zeroCells (Value.agg #[.int .i64 0, .slice none 0 0]).cells (n + 1 - q) ++ Builtin.zeroCells (Value.agg #[.int .i64 0, .slice none 0 0]).cells (grownCap w (n + 1) n 84 - (n + 1))) 84)) := fun ty => by
    have h := Lib.run_append_grow_zeros w 31 3 ty 84 i2 _ .i64 .i64 Try.underlying31 Try.underlying3 hi2 hy0 (some ⟨g, 0, none⟩) q n (xs.take (q * 2)) hold (n + 1 - q) (by omega) (by omega) (by omega) (by omega) (by rw [hy2]; omega) (by rw [hy2, hik]; exact growslice_fits (by omega) (by omega))
    rw [hik] at h
    exact h
  have hGn : n + 1 ≤ grownCap w (n + 1) n 84 := grownCap_ge w _ _ _
  have hG63 : grownCap w (n + 1) n 84 ≤ maxLen := grownCap_le_maxLen w (n + 1) n 84 (by unfold maxLen; omega)
  obtain ⟨G, hG⟩ : ∃ G, grownCap w (n + 1) n 84 = G := ⟨_, rfl⟩
  rw [hG] at hrz hGn hG63
  obtain ⟨ROW, hROW⟩ : ∃ ROW : Array Value, (xs.take (q * 2)).toArray ++ Builtin.zeroCells (Value.agg #[.int .i64 0, .slice none 0 0]).cells (n + 1 - q) ++ Builtin.zeroCells (Value.agg #[.int .i64 0, .slice none 0 0]).cells (G - (n + 1)) = ROW := ⟨_, rfl⟩
  rw [hROW] at hrz
  have hRs : ROW.size = G * 2 := by
    rw [← hROW]
    simp [Builtin.zeroCells, Value.cells, hxl]
    omega
  have hRt : ROW.toList.take (q * 2) = xs.take (q * 2) := by
    rw [← hROW, Array.toList_append, Array.toList_append, List.append_assoc, List.take_append_of_le_length (by simp; omega)]
    simp [List.take_take]
  have hB : Blk (w.drew.alloc (.cells ROW 84)) w.heap.size 84 ROW := Blk.new w.drew 84 ROW
  have hgB : Blk (w.drew.alloc (.cells ROW 84)) g 84 cur := hg.drew.alloc _
  have hvB : Blk (w.drew.alloc (.cells ROW 84)) vb 84 us := hv.drew.alloc _
  have hg0 : w.grownBy (w.drew.alloc (.cells ROW 84)) none := ⟨rfl, rfl, rfl, by rw [World.size_alloc]; show w.heap.size ≤ w.heap.size + 1; omega, fun k hk _ => Below.heap_alloc w.drew _ k hk⟩
  obtain ⟨r1, h1⟩ : ∃ r1, ROW.toList.take (q * 2) ++ us.toList ++ ROW.toList.drop (q * 2 + us.toList.length) = r1 := ⟨_, rfl⟩
  obtain ⟨r2, h2⟩ : ∃ r2, r1.take ((q + 1) * 2) ++ xs.drop (q * 2) ++ r1.drop ((q + 1) * 2 + (xs.drop (q * 2)).length) = r2 := ⟨_, rfl⟩
  have hfin := ins_new hRt hxl (by rw [Array.length_toList, hRs]; omega) hq (by rw [Array.length_toList, hus]) r1 r2 h1 h2
  rw [hnew] at hfin
  have hl1 : r1.length = ROW.size := by rw [← h1]; simp [hus]; omega
  have hgl := hg.lt
  have hvl := hv.lt
  generalize (w.drew.alloc (.cells ROW 84)) = W1 at *
  obtain ⟨W2, hrunA, hB2, hgr2, hsz2⟩ := run_copy_ex (P := Try.prog) W1 31 31 84 2 w.heap.size (q * 2) (n + 1 - q) (G - q) ⟨vb, 0, none⟩ 1 1 1 ROW 84 us.toList Try.underlying31 size84 hB (by simp only [Nat.min_def]; split <;> omega) (by rw [Array.length_toList, hus]) (fun j u hu => by rw [Addr.add_lit, Nat.zero_add, hvB.cell]; simpa using hu) (by rw [Array.length_toList, hus, hRs]; omega) h1u r1 h1
  have hgB2 : Blk W2 g 84 cur := hgB.grown hgr2 (by intro e; injection e with e; omega)
  have HX := Lib.hid (And.intro hg0 (And.intro hgr2 (And.intro hgB2 (And.intro hB2 (And.intro hfin (And.intro hl1 (And.intro hRs (And.intro hx (And.intro hxl (And.intro h2 (And.intro h1x (And.intro hG63 hcs))))))))))))
  clear hg0 hgr2 hgB2 hB2 hfin hl1 hRs hx hxl h2 h1x hcs hnew hi2 hy0 hy1 hy2 hik hold hG hROW hRt hB hgB hvB h1 hg hv hus h1u hsz2
  unfold maxLen at hG63
  have b1 : ¬ ((q : Int) = (n : Int)) := by omega
  have b2 : (n : Int) < (n : Int) + 1 := by omega
  have b3 : (q : Int) < n := by omega
  have b5 : ¬ n = q := by omega
  have b5' : ¬ G = q := by omega
  have b6 : ¬ G = q + 1 := by omega
  have b7 : q ≤ n := by omega
  have b8 : (q : Int) ≤ (n : Int) + 1 := by omega
  have b9 : (q : Int) ≤ (n : Int) := by omega
  have w0 : (n : Int) + 1 - (q : Int) = ((n + 1 - q : Nat) : Int) := by omega
  have w1 : IntKind.i64.wrap ((q : Int) + 1) = (q : Int) + 1 := by rw [IntWalk.i64_in _ (by omega)]
  have w2 : ((q : Int) + 1).toNat = q + 1 := by omega
  have w3 : (0 : Int) ≤ (q : Int) + 1 := by omega
  have w4 : (q : Int) + 1 ≤ (n : Int) + 1 := by omega
  rw [← w0] at hrz
  clear w0
  go_enter Try.func90, Try.ntmps90
  go_wp2_with (at_builtin; refine Lib.wpList_append_run _ rfl _ _ _ _ rfl _ _ rfl rfl _ _ (hrz _) ?_)
  go_still_tail 8, (by kernel_rfl)
  change wpList _ _ _ _ _ W2.drew
  refine wpList_copy_rowS W2.drew rfl (.tmp 50) (.tmp 53) 31 31 rfl 84 2 Try.underlying31 size84 w.heap.size ((q + 1) * 2) _ _ ⟨g, q * 2, none⟩ _ _ (n - q) rfl rfl r1.toArray 84 HX.out.2.2.2.1.drew (xs.drop (q * 2)) (by simp only [Nat.min_def]; split <;> omega) (by rw [List.length_drop, HX.out.2.2.2.2.2.2.2.2.1, Nat.sub_mul]) ?_ (by rw [List.length_drop, HX.out.2.2.2.2.2.2.2.2.1, List.size_toArray, HX.out.2.2.2.2.2.1, HX.out.2.2.2.2.2.2.1]; omega) (fun u hu => HX.out.2.2.2.2.2.2.2.2.2.2.1 u (List.mem_of_mem_drop hu)) r2 HX.out.2.2.2.2.2.2.2.2.2.1 ?_
  · intro j u hu
    rw [Addr.add_lit, World.cell?_drew, HX.out.2.2.1.cell]
    rw [List.getElem?_drop, ← HX.out.2.2.2.2.2.2.2.1, List.getElem?_take] at hu
    split at hu
    · simpa using hu
    · cases hu
  intro V hg3 hgr3 hs3
  have HV := Lib.hid (And.intro hg3 hgr3)
  clear hg3 hgr3 hs3 hrz hrunA
  go_wp2_with fail
  go_ret
  have hfin := HX.out.2.2.2.2.1
  have hRs := HX.out.2.2.2.2.2.2.1
  refine ⟨⟨_, rfl, ⟨?_, .inr ⟨w.heap.size, G, r2.toArray, rfl, hbase, HV.out.1, hGn, by unfold maxLen; omega, by rw [List.size_toArray, hfin.1, Array.length_toList, hRs], by simpa using hfin.2⟩⟩, .inr rfl⟩, ?_⟩
  · rw [← hfin.2, List.length_take, hfin.1, Array.length_toList, hRs]
    omega
  · have hd : W2.grownBy W2.drew (some w.heap.size) := ⟨rfl, rfl, rfl, Nat.le_refl _, fun _ _ _ => rfl⟩
    have h3 : w.grownBy V none := (HX.out.1).andThen ((HX.out.2.1.trans hd).trans HV.out.2) (fun j hj => by injection hj with hj; left; omega)
    exact h3.but _
/-- one element put into a row of its own -/
theorem Insert_any (base q : Nat) (v : Value) (n : Nat) (xs : List Value) (vb : Nat) (us : Array Value) (w : World) (hown : w.ownsRow base 84 2 v n xs) (hv : Blk w vb 84 us) (hus : us.size = 2)
    (h1u : ∀ u ∈ us.toList, u.oneCell' = true) (h1x : ∀ u ∈ xs, u.oneCell' = true) (hq : q ≤ n) (hn : n ≤ 10000) (hne : v.ownBlock ≠ some vb) (hbase : base ≤ w.heap.size) :
    Calls Try.prog 90 #[v, .int .i64 q, .slice (some ⟨vb, 0, none⟩) 1 1] w (InsR w base v n (xs.take (q * 2) ++ us.toList ++ xs.drop (q * 2))) := by
  rcases Nat.lt_or_ge q n with hlt | hge
  · obtain ⟨g, cap, cur, rfl, hb, hg, hc, hm, hs, hx⟩ := own_blk hown (by omega)
    have hne' : vb ≠ g := fun e => hne (by rw [e]; rfl)
    rcases Nat.lt_or_ge n cap with h | h
    · exact Insert_room base g n cap q cur xs vb us w hg hs hx hv hus h1u h1x hlt hn (by omega) hm hne' hb
    · obtain rfl : n = cap := by omega
      exact Insert_grow base g n q cur xs vb us w hg hs hx hv hus h1u h1x hlt hn hbase
  · obtain rfl : q = n := by omega
    have hxl : xs.length = q * 2 := hown.1
    rw [List.take_of_length_le (by omega), List.drop_of_length_le (by omega), List.append_nil]
    exact Insert_end base v q xs vb us w hown hv hus h1u hn hbase
end Go.Proofs.Ytanmndhdhlmjgaa

/- The walk of BinarySearchFunc. Conditions: ordered, small. -/
namespace Go.Proofs.Ytanmndhdhlmjgaa
open Go.RowKit
set_option maxHeartbeats 400000 in
theorem cmp_any (s t : Int) (A : Option Addr) (n c : Nat) (w : World) (hs : 0 ≤ s ∧ s ≤ 4294967296) (ht : 0 ≤ t ∧ t ≤ 4294967296) :
    Calls Try.prog 89 #[.agg #[.int .i64 s, .slice A n c], .int .i64 t] w fun e w' => e = .returned (.int .i64 (s - t)) ∧ Below w.heap.size w w' := by
  go_enter Try.func89, Try.ntmps89
  go_wp2_with fail
  go_ret
  exact ⟨rfl, (Below.refl _ _).alloc (Nat.le_refl _) _⟩
/-- the place of a number in an ordered list -/
structure PlaceR (l : List Ae) (t : Int) (q : Nat) (f : Bool) : Prop where
  le : q ≤ l.length
  lo : ∀ j y, j < q → l[j]? = some y → y.seq < t
  hi : ∀ j y, q ≤ j → l[j]? = some y → t ≤ y.seq
  at_ : f = decide (∃ y, l[q]? = some y ∧ y.seq = t)
set_option maxRecDepth 100000 in
set_option maxHeartbeats 4000000 in
theorem Search_any (v : Value) (t : Int) (base : Nat) (l : List Ae) (w : World) (hV : Vec encA AeR 84 2 w base v l) (hm : l.length ≤ 10000) (ht : 0 ≤ t ∧ t ≤ 4294967296)
    (hb : ∀ e ∈ l, 0 ≤ e.seq ∧ e.seq ≤ 4294967296) (ho : ∀ (i j : Nat) (x y : Ae), i < j → l[i]? = some x → l[j]? = some y → x.seq < y.seq) :
    Calls Try.prog 88 #[v, .int .i64 t, .func (.func 89) #[] #[]] w fun e w' => ∃ q f, e = .returned (.tuple #[.int .i64 (q : Nat), .bool f]) ∧ PlaceR l t q f ∧ Below w.heap.size w w' := by
  obtain ⟨m, hlen⟩ : ∃ m, l.length = m := ⟨_, rfl⟩
  have HL := Lib.hid hlen
  have HV := Lib.hid (And.intro hV (And.intro hb ho))
  obtain ⟨A, c, rfl, hlc, hcm, -⟩ := hV.val
  rw [hlen] at hm hlc ⊢
  clear hlen hV hb ho
  go_enter Try.func88, Try.ntmps88
  go_wp2_with fail
  go_loopw [9, 10, 11] (fun a b d wr => ∃ i j : Nat, i ≤ j ∧ j ≤ m ∧ a = .int .i64 i ∧ b = .int .i64 j ∧ (∀ k y, k < i → l[k]? = some y → y.seq < t) ∧ (∀ k y, j ≤ k → l[k]? = some y → t ≤ y.seq) ∧ Below w.heap.size w wr) (fun a b _ _ => (intOf b).toNat - (intOf a).toNat)
  case atStart => exact ⟨0, m, by omega, by omega, rfl, rfl, fun j y hj => by omega, (fun (k : Nat) (y : Ae) hk hy => by rw [List.getElem?_eq_none (by rw [HL.out]; exact hk)] at hy; cases hy), Below.refl _ _⟩
  case round =>
    obtain ⟨i, j, hij, hjm, rfl, rfl, hlo, hhi, hb⟩ := hrel
    have HF := Lib.hid (And.intro hlo hhi)
    clear hlo hhi
    by_cases hlt : i < j
    · have ii : (i : Int) < j := by omega
      obtain ⟨k, hk⟩ : ∃ k, (i + j) / 2 = k := ⟨_, rfl⟩
      have hki : i ≤ k := by omega
      have hkj : k < j := by omega
      have hkm : (k : Int) < m := by omega
      have hkl : k < l.length := by rw [HL.out]; omega
      obtain ⟨b, off, c2, hv2, _, _, hbw, hc⟩ := HV.out.1.at_ (fun _ => rfl) (by omega) (by omega)
      injection hv2 with hA hn2 hc2
      subst hA hc2
      clear hn2
      have d0 : wr.cell? ⟨b, off + (i + j) / 2 * 2, none⟩ = some (.int .i64 l[k].seq) := by rw [hk]; exact (hb.cell (p := ⟨b, off + k * 2, none⟩) hbw).trans (hc k hkl 0 _ rfl)
      have d1 : wr.cell? ⟨b, off + (i + j) / 2 * 2 + 1, none⟩ = some (.slice l[k].A l[k].p.length l[k].c) := by rw [hk]; exact (hb.cell (p := ⟨b, off + k * 2 + 1, none⟩) hbw).trans (hc k hkl 1 _ rfl)
      have HS : Hid (l[k]? = some l[k]) := List.getElem?_eq_getElem hkl
      have hsq := HV.out.2.1 l[k] (List.getElem_mem hkl)
      clear hc
      generalize l[k] = x at *
      obtain ⟨sq, pA, pc, p⟩ := x
      dsimp only at d0 d1 hsq
      have HB := Lib.hid hb
      clear hb
      have HK := Lib.hid (And.intro hk (And.intro hki hkj))
      clear hk hki hkj hkl
      go_wp2_with fail
      refine (cmp_any sq t pA p.length pc wr hsq ht).mono ?_
      rintro e w1 ⟨rfl, hb1⟩
      have hbb := HB.out.trans (hb1.mono HB.out.size)
      have HX := Lib.hid (And.intro hbb hb1)
      clear hbb hb1
      by_cases hl : sq < t
      · have hl' : sq - t < 0 := by omega
        go_wp2_with fail
        go_roundw
        case rel =>
          refine ⟨k + 1, j, by have := HK.out; omega, by omega, by have h6 := HK.out.1; go_num, rfl, fun a y ha hy => ?_, HF.out.2, HX.out.1⟩
          rcases Nat.lt_or_ge a k with h | h
          · exact Int.lt_trans (HV.out.2.2 a k y _ h hy HS.out) hl
          · obtain rfl : a = k := by omega
            rw [HS.out] at hy
            injection hy with hy
            rw [← hy]
            exact hl
        case measure => simp [intOf]; have := HK.out; omega
      · have hl' : ¬ sq - t < 0 := by omega
        go_wp2_with fail
        go_roundw
        case rel =>
          refine ⟨i, k, by have := HK.out; omega, by have := HK.out; omega, rfl, by have h6 := HK.out.1; go_num, HF.out.1, fun a y ha hy => ?_, HX.out.1⟩
          rcases Nat.lt_or_ge k a with h | h
          · have h2 := HV.out.2.2 k a _ y h HS.out hy
            dsimp only at h2
            omega
          · obtain rfl : a = k := by omega
            rw [HS.out] at hy
            injection hy with hy
            rw [← hy]
            dsimp only
            omega
        case measure => simp [intOf]; have := HK.out; omega
    · obtain rfl : i = j := by omega
      by_cases hend : i < m
      · have ie : (i : Int) < m := by omega
        have hkl : i < l.length := by rw [HL.out]; omega
        obtain ⟨b, off, c2, hv2, _, _, hbw, hc⟩ := HV.out.1.at_ (fun _ => rfl) (by omega) (by omega)
        injection hv2 with hA hn2 hc2
        subst hA hc2
        clear hn2
        have d0 : wr.cell? ⟨b, off + i * 2, none⟩ = some (.int .i64 l[i].seq) := (hb.cell (p := ⟨b, off + i * 2, none⟩) hbw).trans (hc i hkl 0 _ rfl)
        have d1 : wr.cell? ⟨b, off + i * 2 + 1, none⟩ = some (.slice l[i].A l[i].p.length l[i].c) := (hb.cell (p := ⟨b, off + i * 2 + 1, none⟩) hbw).trans (hc i hkl 1 _ rfl)
        have HS : Hid (l[i]? = some l[i]) := List.getElem?_eq_getElem hkl
        have hsq := HV.out.2.1 l[i] (List.getElem_mem hkl)
        clear hc
        generalize l[i] = x at *
        obtain ⟨sq, pA, pc, p⟩ := x
        dsimp only at d0 d1 hsq
        have HB := Lib.hid hb
        clear hb hkl
        go_wp2_with fail
        refine (cmp_any sq t pA p.length pc wr hsq ht).mono ?_
        rintro e w1 ⟨rfl, hb1⟩
        have hbb := HB.out.trans (hb1.mono HB.out.size)
        have HX := Lib.hid hbb
        clear hbb hb1
        by_cases hl : sq = t
        · have hl' : sq - t = 0 := by omega
          go_wp2_with fail
          go_ret2
          exact ⟨i, true, rfl, ⟨by rw [HL.out]; omega, HF.out.1, HF.out.2, (decide_eq_true ⟨_, HS.out, hl⟩).symm⟩, HX.out⟩
        · have hl' : ¬ sq - t = 0 := by omega
          go_wp2_with fail
          go_ret2
          refine ⟨i, _, rfl, ⟨by rw [HL.out]; omega, HF.out.1, HF.out.2, (beq_eq_false_iff_ne.2 hl').trans (decide_eq_false ?_).symm⟩, HX.out⟩
          rintro ⟨y, hy, h2⟩
          rw [HS.out] at hy
          injection hy with hy
          rw [← hy] at h2
          exact hl h2
      · obtain rfl : i = m := by omega
        have HB := Lib.hid hb
        clear hb
        go_wp2_with fail
        go_ret2
        refine ⟨i, false, rfl, ⟨by rw [HL.out]; omega, HF.out.1, HF.out.2, (decide_eq_false ?_).symm⟩, HB.out⟩
        rintro ⟨y, hy, h2⟩
        rw [List.getElem?_eq_none (by rw [HL.out]; exact Nat.le_refl _)] at hy
        cases hy
end Go.Proofs.Ytanmndhdhlmjgaa

/- The early payloads of a receiver that passes its check. No condition. -/
namespace Go.Proofs.Ytanmndhdhlmjgaa
/-- payloads in order between two numbers -/
structure EarOk (last hi : Int) (l : List Am) : Prop where
  lo : ∀ a ∈ l, last < a.seq
  hi : ∀ a ∈ l, a.seq < hi
  len : ∀ a ∈ l, a.p.length ≤ 4096
  ord : l.Pairwise (fun a b => a.seq < b.seq)
theorem EarOk.cons {last hi : Int} {a : Am} {l : List Am} (h1 : last < a.seq) (h2 : a.seq < hi) (h3 : a.p.length ≤ 4096) (h : EarOk a.seq hi l) : EarOk last hi (a :: l) where
  lo := by
    intro b hb
    rcases List.mem_cons.1 hb with rfl | hb
    · exact h1
    · have := h.lo b hb; omega
  hi := by
    intro b hb
    rcases List.mem_cons.1 hb with rfl | hb
    · exact h2
    · exact h.hi b hb
  len := by
    intro b hb
    rcases List.mem_cons.1 hb with rfl | hb
    · exact h3
    · exact h.len b hb
  ord := List.pairwise_cons.2 ⟨h.lo, h.ord⟩
theorem EarOk.weak {last last' hi : Int} {l : List Am} (h : EarOk last hi l) (hl : last' ≤ last) : EarOk last' hi l :=
  ⟨fun a ha => by have := h.lo a ha; omega, h.hi, h.len, h.ord⟩
theorem EarOk.tail {last hi : Int} {a : Am} {l : List Am} (h : EarOk last hi (a :: l)) : last < a.seq ∧ a.seq < hi ∧ a.p.length ≤ 4096 ∧ EarOk a.seq hi l :=
  ⟨h.lo a (by simp), h.hi a (by simp), h.len a (by simp), (List.pairwise_cons.1 h.ord).1, fun b hb => h.hi b (by simp [hb]), fun b hb => h.len b (by simp [hb]), (List.pairwise_cons.1 h.ord).2⟩
theorem earE_ok (next lim : Int) : ∀ (l : List Am) (last : Int), earE next lim last l = 0 ↔ EarOk last (min (next + lim) 1073741824) l
  | [], last => ⟨fun _ => ⟨by simp, by simp, by simp, List.Pairwise.nil⟩, fun _ => rfl⟩
  | a :: l, last => by
    have ih := earE_ok next lim l a.seq
    rw [earE]
    constructor
    · intro h
      split at h
      · cases h
      split at h
      · cases h
      · exact EarOk.cons (by omega) (by omega) (by omega) (ih.1 h)
    · intro h
      obtain ⟨h1, h2, h3, h4⟩ := h.tail
      rw [if_neg (by omega), if_neg (by omega)]
      exact ih.2 h4
/-- what a receiver that passes its check is -/
structure ROk (r : Rm) : Prop where
  ses : 0 ≤ r.ses ∧ r.ses ≤ 1073741824
  lim : 1 ≤ r.lim ∧ r.lim ≤ 64
  next : 0 ≤ r.next ∧ r.next ≤ 1073741824
  few : (r.early.length : Int) < r.lim
  ear : EarOk r.next (min (r.next + r.lim) 1073741824) r.early
theorem chkR_ok (r : Rm) : chkR r = 0 ↔ ROk r := by
  constructor
  · intro h
    unfold chkR at h
    split at h
    · cases h
    rename_i h1
    split at h
    · cases h
    rename_i h2
    have h1 := Decidable.not_not.1 h1
    exact ⟨h1.1, h1.2.1, h1.2.2, by omega, (earE_ok _ _ _ _).1 h⟩
  · intro h
    unfold chkR
    rw [if_neg (not_not_intro ⟨h.ses, h.lim, h.next⟩), if_neg (by have := h.few; omega)]
    exact (earE_ok _ _ _ _).2 h.ear
theorem insA_place (t : Int) (p : List Nat) (f : Bool) : ∀ (l : List Ae) (q : Nat), PlaceR l t q f →
    insA ⟨t, p⟩ (l.map Ae.am) = if f then l.map Ae.am else (l.take q).map Ae.am ++ ⟨t, p⟩ :: (l.drop q).map Ae.am
  | [], q, h => by
    have hq : q = 0 := by have := h.le; simp at this; exact this
    subst hq
    have hf : f = false := by rw [h.at_]; simp
    rw [hf]
    rfl
  | b :: l, 0, h => by
    have h0 : t ≤ b.seq := h.hi 0 b (by omega) (by simp)
    have hf : f = decide (b.seq = t) := by rw [h.at_]; simp
    rw [hf, List.map_cons, insA, if_neg (by show ¬ b.seq < t; omega)]
    by_cases hb : b.seq = t
    · rw [if_pos (by exact hb)]; simp [hb]
    · rw [if_neg (by exact hb)]; simp [hb]
  | b :: l, q + 1, h => by
    have h0 : b.seq < t := h.lo 0 b (by omega) (by simp)
    have ih := insA_place t p f l q ⟨by have := h.le; simp at this; exact this, fun j y hj hy => h.lo (j + 1) y (by omega) (by simpa using hy), fun j y hj hy => h.hi (j + 1) y (by omega) (by simpa using hy), by rw [h.at_]; simp⟩
    rw [List.map_cons, insA, if_pos (by exact h0), ih]
    cases f <;> simp
end Go.Proofs.Ytanmndhdhlmjgaa

/- What keeping and delivering leave. No condition. -/
namespace Go.Proofs.Ytanmndhdhlmjgaa
theorem insA_mem {a b : Am} : ∀ {l : List Am}, b ∈ insA a l → b = a ∨ b ∈ l
  | [], h => by rw [insA, List.mem_singleton] at h; exact .inl h
  | c :: l, h => by
    rw [insA] at h
    split at h
    · rcases List.mem_cons.1 h with rfl | h
      · exact .inr (by simp)
      · rcases insA_mem h with h | h
        · exact .inl h
        · exact .inr (by simp [h])
    · split at h
      · exact .inr h
      · rcases List.mem_cons.1 h with rfl | h
        · exact .inl rfl
        · exact .inr h
theorem insA_len (a : Am) : ∀ l : List Am, (insA a l).length ≤ l.length + 1
  | [] => by simp [insA]
  | c :: l => by
    have := insA_len a l
    rw [insA]
    split
    · simp only [List.length_cons]; omega
    · split <;> simp
theorem keep_mem {r : Rm} {p : Pm} {b : Am} (h : b ∈ (keepR r p).early) : b = ⟨p.seq, p.p⟩ ∨ b ∈ r.early := by
  unfold keepR at h
  split at h
  · exact .inr h
  · exact insA_mem h
theorem keep_len (r : Rm) (p : Pm) : (keepR r p).early.length ≤ r.early.length + 1 := by
  unfold keepR
  split
  · omega
  · exact insA_len _ _
theorem keep_next (r : Rm) (p : Pm) : (keepR r p).next = r.next ∧ (keepR r p).ses = r.ses ∧ (keepR r p).lim = r.lim := by
  unfold keepR
  split <;> exact ⟨rfl, rfl, rfl⟩
theorem deliv_mem : ∀ (l : List Am) (n : Int) {b : Am}, b ∈ (deliv n l).2.2 → b ∈ l
  | [], n, b, h => by rw [deliv] at h; exact h
  | a :: l, n, b, h => by
    rw [deliv] at h
    split at h
    · exact List.mem_cons_of_mem _ (deliv_mem l (n + 1) h)
    · exact h
theorem deliv_len : ∀ (l : List Am) (n : Int), (deliv n l).2.2.length ≤ l.length
  | [], n => by rw [deliv]; exact Nat.le_refl _
  | a :: l, n => by
    rw [deliv]
    split
    · have := deliv_len l (n + 1); simp only [List.length_cons]; omega
    · exact Nat.le_refl _
theorem chkP_ok {p : Pm} (h : chkP p = 0) : (0 ≤ p.seq ∧ p.seq ≤ 1073741824) ∧ (0 ≤ p.ack ∧ p.ack ≤ 1073741824) ∧ (0 ≤ p.cred ∧ p.cred ≤ 64) ∧ p.p.length ≤ 4096 := by
  unfold chkP at h
  split at h
  · cases h
  split at h
  · cases h
  split at h
  · cases h
  split at h
  · cases h
  omega
end Go.Proofs.Ytanmndhdhlmjgaa
