/- The walk of slices.Insert at rows of their own. Conditions: one element is put in, at most 10000 elements. -/
import Derived.Test.YtjaoppopfeonhaaWe
import Derived.Test.YtjaoppopfeonhaaLibZ
import Derived.StillTailTactics
namespace Go.Proofs.Ytjaoppopfeonhaa
open Go.RowKit
theorem ins_room {cur xs us : List Value} {n q : Nat} (hx : cur.take (n * 3) = xs) (hl : (n + 1) * 3 ≤ cur.length) (hq : q < n) (hus : us.length = 3) (r1 r2 : List Value)
    (h1 : cur.take ((q + 1) * 3) ++ xs.drop (q * 3) ++ cur.drop ((q + 1) * 3 + (xs.drop (q * 3)).length) = r1) (h2 : r1.take (q * 3) ++ us ++ r1.drop (q * 3 + us.length) = r2) :
    r2.length = cur.length ∧ r2.take ((n + 1) * 3) = xs.take (q * 3) ++ us ++ xs.drop (q * 3) := by
  have hxl : xs.length = n * 3 := by rw [← hx, List.length_take]; omega
  have hl1 : r1.length = cur.length := by rw [← h1]; simp [hxl]; omega
  refine ⟨by rw [← h2]; simp [hl1, hus]; omega, ?_⟩
  apply List.ext_getElem?
  intro j
  rw [← h2, ← h1, ← hx]
  simp only [List.getElem?_take, List.getElem?_append, List.getElem?_drop, List.length_take, List.length_append, List.length_drop, hus]
  repeat' split
  all_goals first
    | rfl
    | omega
    | (congr 1; omega)
    | (rw [List.getElem?_eq_none (by omega)])
    | (rw [eq_comm, List.getElem?_eq_none (by omega)])
theorem ins_new {row xs us : List Value} {n q : Nat} (hx : row.take (q * 3) = xs.take (q * 3)) (hxl : xs.length = n * 3) (hl : (n + 1) * 3 ≤ row.length) (hq : q < n) (hus : us.length = 3) (r1 r2 : List Value)
    (h1 : row.take (q * 3) ++ us ++ row.drop (q * 3 + us.length) = r1) (h2 : r1.take ((q + 1) * 3) ++ xs.drop (q * 3) ++ r1.drop ((q + 1) * 3 + (xs.drop (q * 3)).length) = r2) :
    r2.length = row.length ∧ r2.take ((n + 1) * 3) = xs.take (q * 3) ++ us ++ xs.drop (q * 3) := by
  have hl1 : r1.length = row.length := by rw [← h1]; simp [hus]; omega
  refine ⟨by rw [← h2]; simp [hl1, hxl]; omega, ?_⟩
  rw [← hx]
  apply List.ext_getElem?
  intro j
  rw [← h2, ← h1]
  simp only [List.getElem?_take, List.getElem?_append, List.getElem?_drop, List.length_take, List.length_append, List.length_drop, hus, hxl]
  repeat' split
  all_goals first
    | rfl
    | omega
    | (congr 1; omega)
    | (rw [List.getElem?_eq_none (by omega)])
    | (rw [eq_comm, List.getElem?_eq_none (by omega)])
structure InsR (w : World) (base : Nat) (v : Value) (n : Nat) (new : List Value) (e : Ending) (w' : World) : Prop where
  val : ∃ v', e = .returned v' ∧ w'.ownsRow base 69 3 v' (n + 1) new ∧ (v'.ownBlock = v.ownBlock ∨ v'.ownBlock = some w.heap.size)
  grown : w.grownBy w' v.ownBlock
theorem size69 : (Try.prog.info? 69).map (·.size) = some 3 := by kernel_rfl
theorem sizeOf69 (w : World) : (Go.sizeOf 69).run Try.prog w = .ok 3 w := by
  obtain ⟨i2, hi2, _, hs, _⟩ := info_parts info69b
  simp [Go.sizeOf, typeInfo, hi2, hs]
set_option maxRecDepth 100000 in
set_option maxHeartbeats 2000000 in
theorem Insert_end (base : Nat) (v : Value) (n : Nat) (xs : List Value) (vb : Nat) (us : Array Value) (w : World) (hown : w.ownsRow base 69 3 v n xs) (hv : Blk w vb 69 us) (hus : us.size = 3)
    (h1u : ∀ u ∈ us.toList, u.oneCell' = true) (hn : n ≤ 10000) (hbase : base ≤ w.heap.size) :
    Calls Try.prog 49 #[v, .int .i64 n, .slice (some ⟨vb, 0, none⟩) 1 1] w (InsR w base v n (xs ++ us.toList)) := by
  obtain ⟨i2, hi2, hy0, hy1, hy2⟩ := info_parts info69b
  have HI := Lib.hid (And.intro hi2 (And.intro hy0 (And.intro hy1 hy2)))
  clear hi2 hy0 hy1 hy2
  obtain ⟨A, c, rfl, hnc, hcm, _⟩ := own_slice hown
  have hr := hv.reads (size := 3) (n := 1) (by omega)
  have HX := Lib.hid (And.intro hown (And.intro hr (And.intro h1u hcm)))
  clear hown hr h1u hv hcm
  by_cases hcn : c = n
  · subst hcn
    go_enter Try.func49, Try.ntmps49
    go_wp2_with (at_builtin; go_must (refine wpList_append_any w rfl (.tmp 23) (.tmp 24) _ rfl base 69 i2 _ 3 40 Try.underlying24 HI.out.1 HI.out.2.1 HI.out.2.2.1 HI.out.2.2.2 rfl (by omega) _ c xs rfl HX.out.1 w.heap.size (some ⟨vb, 0, none⟩) 1 1 us.toList rfl HX.out.2.1 HX.out.2.2.1 (by simp only [maxLen]; omega) (by omega) hbase ?_; intro v1 w1 ho1 hg1 hv1))
    go_ret
    exact ⟨⟨v1, rfl, ho1, hv1⟩, hg1⟩
  · go_enter Try.func49, Try.ntmps49
    go_wp2_with (at_builtin; go_must (refine wpList_append_any w rfl (.tmp 23) (.tmp 24) _ rfl base 69 i2 _ 3 40 Try.underlying24 HI.out.1 HI.out.2.1 HI.out.2.2.1 HI.out.2.2.2 rfl (by omega) _ n xs rfl HX.out.1 w.heap.size (some ⟨vb, 0, none⟩) 1 1 us.toList rfl HX.out.2.1 HX.out.2.2.1 (by simp only [maxLen]; omega) (by omega) hbase ?_; intro v1 w1 ho1 hg1 hv1))
    go_ret
    exact ⟨⟨v1, rfl, ho1, hv1⟩, hg1⟩
set_option maxRecDepth 100000 in
set_option maxHeartbeats 2000000 in
theorem Insert_room (base g n cap q : Nat) (cur : Array Value) (xs : List Value) (vb : Nat) (us : Array Value) (w : World) (hg : Blk w g 69 cur) (hcs : cur.size = cap * 3) (hx : cur.toList.take (n * 3) = xs) (hv : Blk w vb 69 us) (hus : us.size = 3)
    (h1u : ∀ u ∈ us.toList, u.oneCell' = true) (h1x : ∀ u ∈ xs, u.oneCell' = true) (hq : q < n) (hn : n ≤ 10000) (hroom : n + 1 ≤ cap) (hcm : cap ≤ maxLen) (hne : vb ≠ g) (hbase : base ≤ g) :
    Calls Try.prog 49 #[.slice (some ⟨g, 0, none⟩) n cap, .int .i64 q, .slice (some ⟨vb, 0, none⟩) 1 1] w (InsR w base (.slice (some ⟨g, 0, none⟩) n cap) n (xs.take (q * 3) ++ us.toList ++ xs.drop (q * 3))) := by
  obtain ⟨new, hnew⟩ : ∃ new, xs.take (q * 3) ++ us.toList ++ xs.drop (q * 3) = new := ⟨_, rfl⟩
  rw [hnew]
  have hxl : xs.length = n * 3 := by rw [← hx, List.length_take, Array.length_toList, hcs]; omega
  have hov : ∀ lb cb, (callFunc 51 #[.slice (some ⟨vb, 0, none⟩) 1 1, .slice (some ⟨g, (q + 1) * 3, none⟩) lb cb]).run Try.prog w = .ok (.value (.bool false)) w := fun lb cb => by
    rw [run_callFunc_extern Try.func51 (by kernel_rfl) (by kernel_rfl) (by kernel_rfl) (e := Extern.SlicesOverlaps.overlaps #[24, 24] #[4]) (by kernel_rfl),
      Lib.run_overlaps_apart w 24 4 69 Try.underlying24 3 sizeOf69 ⟨vb, 0, none⟩ ⟨g, (q + 1) * 3, none⟩ 1 1 lb cb hne 69 69 us.size cur.size (by unfold World.shape?; rw [show w.heap[vb]? = _ from hv]) (by unfold World.shape?; rw [show w.heap[g]? = _ from hg]) (by omega) (hv.frozen 0) (hv.frozen _)]
    rfl
  obtain ⟨r1, h1⟩ : ∃ r1, cur.toList.take ((q + 1) * 3) ++ xs.drop (q * 3) ++ cur.toList.drop ((q + 1) * 3 + (xs.drop (q * 3)).length) = r1 := ⟨_, rfl⟩
  obtain ⟨r2, h2⟩ : ∃ r2, r1.take (q * 3) ++ us.toList ++ r1.drop (q * 3 + us.toList.length) = r2 := ⟨_, rfl⟩
  have hfin := ins_room hx (by rw [Array.length_toList, hcs]; omega) hq (by rw [Array.length_toList, hus]) r1 r2 h1 h2
  rw [hnew] at hfin
  clear hnew
  have hl1 : r1.length = cur.size := by rw [← h1]; simp [hxl]; omega
  have HX := Lib.hid (And.intro hg (And.intro hcs (And.intro hx (And.intro hv (And.intro hus (And.intro h1u (And.intro h1x (And.intro hxl (And.intro h1 (And.intro h2 (And.intro hfin hl1)))))))))))
  clear hg hcs hx hv hus h1u h1x hxl h1 h2 hfin hl1
  have b1 : ¬ ((q : Int) = (n : Int)) := by omega
  have b2 : ¬ (cap : Int) < (n : Int) + 1 := by omega
  have b3 : (q : Int) < n := by omega
  have b4 : (n : Int) + 1 ≤ cap := by omega
  have b5 : ¬ cap = q := by omega
  have b6 : ¬ cap = q + 1 := by omega
  have b7 : q ≤ n := by omega
  have b8 : (q : Int) ≤ (n : Int) + 1 := by omega
  have b9 : (q : Int) ≤ (n : Int) := by omega
  unfold maxLen at hcm
  have w1 : IntKind.i64.wrap ((q : Int) + 1) = (q : Int) + 1 := by rw [IntWalk.i64_in _ (by omega)]
  have w2 : ((q : Int) + 1).toNat = q + 1 := by omega
  have w3 : (0 : Int) ≤ (q : Int) + 1 := by omega
  have w4 : (q : Int) + 1 ≤ (n : Int) + 1 := by omega
  go_enter Try.func49, Try.ntmps49
  go_wp2_with (simp only [hov])
  go_still_tail 8, (by kernel_rfl)
  change wpList _ _ _ _ _ w.drew
  refine wpList_copy_rowS w.drew rfl (.tmp 73) (.tmp 76) 24 24 rfl 69 3 Try.underlying24 size69 g ((q + 1) * 3) _ _ ⟨g, q * 3, none⟩ _ _ (n - q) rfl rfl cur 69 HX.out.1.drew (xs.drop (q * 3)) (by simp only [Nat.min_def]; split <;> omega) (by rw [List.length_drop, HX.out.2.2.2.2.2.2.2.1, Nat.sub_mul]) ?_ (by rw [List.length_drop, HX.out.2.2.2.2.2.2.2.1, HX.out.2.1]; omega) (fun u hu => HX.out.2.2.2.2.2.2.1 u (List.mem_of_mem_drop hu)) r1 HX.out.2.2.2.2.2.2.2.2.1 ?_
  · intro j u hu
    rw [Addr.add_lit, World.cell?_drew, HX.out.1.cell]
    rw [List.getElem?_drop, ← HX.out.2.2.1, List.getElem?_take] at hu
    split at hu
    · simpa using hu
    · cases hu
  intro V hg1 hgr1 hs1
  have hv1 : Blk V vb 69 us := HX.out.2.2.2.1.drew.grown hgr1 (by simpa using hne)
  have hlt : vb < w.heap.size := HX.out.2.2.2.1.lt
  have HV := Lib.hid (And.intro hg1 (And.intro hgr1 hv1))
  clear hg1 hgr1 hs1 hv1 hlt hov
  obtain ⟨V2, hrun, hg2, hgr2, hs2⟩ := run_copy_ex (P := Try.prog) V 24 24 69 3 g (q * 3) (n + 1 - q) (cap - q) ⟨vb, 0, none⟩ 1 1 1 r1.toArray 69 us.toList Try.underlying24 size69 HV.out.1 (by simp only [Nat.min_def]; split <;> omega) (by rw [Array.length_toList, HX.out.2.2.2.2.1]) (fun j u hu => by rw [Addr.add_lit, Nat.zero_add, HV.out.2.2.cell]; simpa using hu) (by rw [List.size_toArray, HX.out.2.2.2.2.2.2.2.2.2.2.2, Array.length_toList, HX.out.2.2.2.2.1, HX.out.2.1]; omega) HX.out.2.2.2.2.2.1 r2 HX.out.2.2.2.2.2.2.2.2.2.1
  have HV2 := Lib.hid (And.intro hg2 hgr2)
  clear hg2 hgr2 hs2
  go_wp2_with fail
  go_ret
  have hfin := HX.out.2.2.2.2.2.2.2.2.2.2.1
  have hcs := HX.out.2.1
  refine ⟨⟨_, rfl, ⟨?_, .inr ⟨g, cap, r2.toArray, rfl, hbase, HV2.out.1, hroom, by unfold maxLen; omega, by rw [List.size_toArray, hfin.1, Array.length_toList, hcs], by simpa using hfin.2⟩⟩, .inl rfl⟩, ?_⟩
  · rw [← hfin.2, List.length_take, hfin.1, Array.length_toList, hcs]
    omega
  · show w.grownBy V2 (some g)
    have hd : w.grownBy w.drew (some g) := ⟨rfl, rfl, rfl, Nat.le_refl _, fun _ _ _ => rfl⟩
    exact (hd.trans HV.out.2.1).trans HV2.out.2
theorem zero69 : (Builtin.zeroCells (Value.agg #[.int .i64 0, .int .i64 0, .slice none 0 0]).cells 1).toList = [.int .i64 0, .int .i64 0, .slice none 0 0] := by kernel_rfl
set_option maxRecDepth 100000 in
set_option maxHeartbeats 2000000 in
theorem Insert_grow (base g n q : Nat) (cur : Array Value) (xs : List Value) (vb : Nat) (us : Array Value) (w : World) (hg : Blk w g 69 cur) (hcs : cur.size = n * 3) (hx : cur.toList.take (n * 3) = xs) (hv : Blk w vb 69 us) (hus : us.size = 3)
    (h1u : ∀ u ∈ us.toList, u.oneCell' = true) (h1x : ∀ u ∈ xs, u.oneCell' = true) (hq : q < n) (hn : n ≤ 10000) (hbase : base ≤ w.heap.size) :
    Calls Try.prog 49 #[.slice (some ⟨g, 0, none⟩) n n, .int .i64 q, .slice (some ⟨vb, 0, none⟩) 1 1] w (InsR w base (.slice (some ⟨g, 0, none⟩) n n) n (xs.take (q * 3) ++ us.toList ++ xs.drop (q * 3))) := by
  obtain ⟨new, hnew⟩ : ∃ new, xs.take (q * 3) ++ us.toList ++ xs.drop (q * 3) = new := ⟨_, rfl⟩
  rw [hnew]
  have hxl : xs.length = n * 3 := by rw [← hx, List.length_take, Array.length_toList, hcs]; omega
  obtain ⟨i2, hi2, hy0, hy1, hy2⟩ := info_parts info69b
  have hik : q + (n + 1 - q) = n + 1 := by omega
  have hold : (Builtin.firstCells i2.size q (.slice (some ⟨g, 0, none⟩) q n)).run Try.prog w.drew = .ok (xs.take (q * 3)).toArray w.drew := by
    rw [hy1]
    refine run_firstCells_some w.drew 3 q ⟨g, 0, none⟩ q n (xs.take (q * 3)) (by rw [List.length_take]; omega) (fun j v hj => ?_)
    rw [Addr.add_lit, Nat.zero_add]
    show w.cell? _ = _
    rw [hg.cell]
    rw [List.getElem?_take] at hj
    split at hj
    · rw [← hx, List.getElem?_take] at hj
      split at hj
      · simpa using hj
      · cases hj
    · cases hj
  have hrz : ∀ ty, (Builtin.append_ #[24, 3] ty #[.slice (some ⟨g, 0, none⟩) q n, .int .i64 ((n + 1 - q : Nat) : Int)]).run Try.prog w =
      .ok (.slice (some ⟨w.heap.size, 0, none⟩) (n + 1) (grownCap w (n + 1) n 69)) (w.drew.alloc (.cells ((xs.take (q * 3)).toArray ++ Builtin.zeroCells (Value.agg #[.int .i64 0, .int .i64 0, .slice none 0 0]).cells (n + 1 - q) ++ Builtin.zeroCells (Value.agg #[.int .i64 0, .int .i64 0, .slice none 0 0]).cells (grownCap w (n + 1) n 69 - (n + 1))) 69)) := fun ty => by
    have h := Lib.run_append_grow_zeros w 24 3 ty 69 i2 _ .i64 .i64 Try.underlying24 Try.underlying3 hi2 hy0 (some ⟨g, 0, none⟩) q n (xs.take (q * 3)) hold (n + 1 - q) (by omega) (by omega) (by omega) (by omega) (by rw [hy2]; omega) (by rw [hy2, hik]; exact growslice_fits (by omega) (by omega))
    rw [hik] at h
    exact h
  have hGn : n + 1 ≤ grownCap w (n + 1) n 69 := grownCap_ge w _ _ _
  have hG63 : grownCap w (n + 1) n 69 ≤ maxLen := grownCap_le_maxLen w (n + 1) n 69 (by unfold maxLen; omega)
  obtain ⟨G, hG⟩ : ∃ G, grownCap w (n + 1) n 69 = G := ⟨_, rfl⟩
  rw [hG] at hrz hGn hG63
  obtain ⟨ROW, hROW⟩ : ∃ ROW : Array Value, (xs.take (q * 3)).toArray ++ Builtin.zeroCells (Value.agg #[.int .i64 0, .int .i64 0, .slice none 0 0]).cells (n + 1 - q) ++ Builtin.zeroCells (Value.agg #[.int .i64 0, .int .i64 0, .slice none 0 0]).cells (G - (n + 1)) = ROW := ⟨_, rfl⟩
  rw [hROW] at hrz
  have hRs : ROW.size = G * 3 := by
    rw [← hROW]
    simp [Builtin.zeroCells, Value.cells, hxl]
    omega
  have hRt : ROW.toList.take (q * 3) = xs.take (q * 3) := by
    rw [← hROW, Array.toList_append, Array.toList_append, List.append_assoc, List.take_append_of_le_length (by simp; omega)]
    simp [List.take_take]
  have hB : Blk (w.drew.alloc (.cells ROW 69)) w.heap.size 69 ROW := Blk.new w.drew 69 ROW
  have hgB : Blk (w.drew.alloc (.cells ROW 69)) g 69 cur := hg.drew.alloc _
  have hvB : Blk (w.drew.alloc (.cells ROW 69)) vb 69 us := hv.drew.alloc _
  have hg0 : w.grownBy (w.drew.alloc (.cells ROW 69)) none := ⟨rfl, rfl, rfl, by rw [World.size_alloc]; show w.heap.size ≤ w.heap.size + 1; omega, fun k hk _ => Below.heap_alloc w.drew _ k hk⟩
  obtain ⟨r1, h1⟩ : ∃ r1, ROW.toList.take (q * 3) ++ us.toList ++ ROW.toList.drop (q * 3 + us.toList.length) = r1 := ⟨_, rfl⟩
  obtain ⟨r2, h2⟩ : ∃ r2, r1.take ((q + 1) * 3) ++ xs.drop (q * 3) ++ r1.drop ((q + 1) * 3 + (xs.drop (q * 3)).length) = r2 := ⟨_, rfl⟩
  have hfin := ins_new hRt hxl (by rw [Array.length_toList, hRs]; omega) hq (by rw [Array.length_toList, hus]) r1 r2 h1 h2
  rw [hnew] at hfin
  have hl1 : r1.length = ROW.size := by rw [← h1]; simp [hus]; omega
  have hgl := hg.lt
  have hvl := hv.lt
  generalize (w.drew.alloc (.cells ROW 69)) = W1 at *
  obtain ⟨W2, hrunA, hB2, hgr2, hsz2⟩ := run_copy_ex (P := Try.prog) W1 24 24 69 3 w.heap.size (q * 3) (n + 1 - q) (G - q) ⟨vb, 0, none⟩ 1 1 1 ROW 69 us.toList Try.underlying24 size69 hB (by simp only [Nat.min_def]; split <;> omega) (by rw [Array.length_toList, hus]) (fun j u hu => by rw [Addr.add_lit, Nat.zero_add, hvB.cell]; simpa using hu) (by rw [Array.length_toList, hus, hRs]; omega) h1u r1 h1
  have hgB2 : Blk W2 g 69 cur := hgB.grown hgr2 (by intro e; injection e with e; omega)
  have HX := Lib.hid (And.intro hg0 (And.intro hgr2 (And.intro hgB2 (And.intro hB2 (And.intro hfin (And.intro hl1 (And.intro hRs (And.intro hx (And.intro hxl (And.intro h2 (And.intro h1x (And.intro hG63 hcs))))))))))))
  clear hg0 hgr2 hgB2 hB2 hfin hl1 hRs hx hxl h2 h1x hcs hnew hi2 hy0 hy1 hy2 hik hold hG hROW hRt hB hgB hvB h1 hg hv hus h1u hsz2
  unfold maxLen at hG63
  have b1 : ¬ ((q : Int) = (n : Int)) := by omega
  have b2 : (n : Int) < (n : Int) + 1 := by omega
  have b3 : (q : Int) < n := by omega
  have b5 : ¬ n = q := by omega
  have b5' : ¬ G = q := by omega
  have b6 : ¬ G = q + 1 := by omega
  have b7 : q ≤ n := by omega
  have b8 : (q : Int) ≤ (n : Int) + 1 := by omega
  have b9 : (q : Int) ≤ (n : Int) := by omega
  have w0 : (n : Int) + 1 - (q : Int) = ((n + 1 - q : Nat) : Int) := by omega
  have w1 : IntKind.i64.wrap ((q : Int) + 1) = (q : Int) + 1 := by rw [IntWalk.i64_in _ (by omega)]
  have w2 : ((q : Int) + 1).toNat = q + 1 := by omega
  have w3 : (0 : Int) ≤ (q : Int) + 1 := by omega
  have w4 : (q : Int) + 1 ≤ (n : Int) + 1 := by omega
  rw [← w0] at hrz
  clear w0
  go_enter Try.func49, Try.ntmps49
  go_wp2_with (at_builtin; refine Lib.wpList_append_run _ rfl _ _ _ _ rfl _ _ rfl rfl _ _ (hrz _) ?_)
  go_still_tail 8, (by kernel_rfl)
  change wpList _ _ _ _ _ W2.drew
  refine wpList_copy_rowS W2.drew rfl (.tmp 50) (.tmp 53) 24 24 rfl 69 3 Try.underlying24 size69 w.heap.size ((q + 1) * 3) _ _ ⟨g, q * 3, none⟩ _ _ (n - q) rfl rfl r1.toArray 69 HX.out.2.2.2.1.drew (xs.drop (q * 3)) (by simp only [Nat.min_def]; split <;> omega) (by rw [List.length_drop, HX.out.2.2.2.2.2.2.2.2.1, Nat.sub_mul]) ?_ (by rw [List.length_drop, HX.out.2.2.2.2.2.2.2.2.1, List.size_toArray, HX.out.2.2.2.2.2.1, HX.out.2.2.2.2.2.2.1]; omega) (fun u hu => HX.out.2.2.2.2.2.2.2.2.2.2.1 u (List.mem_of_mem_drop hu)) r2 HX.out.2.2.2.2.2.2.2.2.2.1 ?_
  · intro j u hu
    rw [Addr.add_lit, World.cell?_drew, HX.out.2.2.1.cell]
    rw [List.getElem?_drop, ← HX.out.2.2.2.2.2.2.2.1, List.getElem?_take] at hu
    split at hu
    · simpa using hu
    · cases hu
  intro V hg3 hgr3 hs3
  have HV := Lib.hid (And.intro hg3 hgr3)
  clear hg3 hgr3 hs3 hrz hrunA
  go_wp2_with fail
  go_ret
  have hfin := HX.out.2.2.2.2.1
  have hRs := HX.out.2.2.2.2.2.2.1
  refine ⟨⟨_, rfl, ⟨?_, .inr ⟨w.heap.size, G, r2.toArray, rfl, hbase, HV.out.1, hGn, by unfold maxLen; omega, by rw [List.size_toArray, hfin.1, Array.length_toList, hRs], by simpa using hfin.2⟩⟩, .inr rfl⟩, ?_⟩
  · rw [← hfin.2, List.length_take, hfin.1, Array.length_toList, hRs]
    omega
  · have hd : W2.grownBy W2.drew (some w.heap.size) := ⟨rfl, rfl, rfl, Nat.le_refl _, fun _ _ _ => rfl⟩
    have h3 : w.grownBy V none := (HX.out.1).andThen ((HX.out.2.1.trans hd).trans HV.out.2) (fun j hj => by injection hj with hj; left; omega)
    exact h3.but _
/-- one element put into a row of its own -/
theorem Insert_any (base q : Nat) (v : Value) (n : Nat) (xs : List Value) (vb : Nat) (us : Array Value) (w : World) (hown : w.ownsRow base 69 3 v n xs) (hv : Blk w vb 69 us) (hus : us.size = 3)
    (h1u : ∀ u ∈ us.toList, u.oneCell' = true) (h1x : ∀ u ∈ xs, u.oneCell' = true) (hq : q ≤ n) (hn : n ≤ 10000) (hne : v.ownBlock ≠ some vb) (hbase : base ≤ w.heap.size) :
    Calls Try.prog 49 #[v, .int .i64 q, .slice (some ⟨vb, 0, none⟩) 1 1] w (InsR w base v n (xs.take (q * 3) ++ us.toList ++ xs.drop (q * 3))) := by
  rcases Nat.lt_or_ge q n with hlt | hge
  · obtain ⟨g, cap, cur, rfl, hb, hg, hc, hm, hs, hx⟩ := own_blk hown (by omega)
    have hne' : vb ≠ g := fun e => hne (by rw [e]; rfl)
    rcases Nat.lt_or_ge n cap with h | h
    · exact Insert_room base g n cap q cur xs vb us w hg hs hx hv hus h1u h1x hlt hn (by omega) hm hne' hb
    · obtain rfl : n = cap := by omega
      exact Insert_grow base g n q cur xs vb us w hg hs hx hv hus h1u h1x hlt hn hbase
  · obtain rfl : q = n := by omega
    have hxl : xs.length = q * 3 := hown.1
    rw [List.take_of_length_le (by omega), List.drop_of_length_le (by omega), List.append_nil]
    exact Insert_end base v q xs vb us w hown hv hus h1u hn hbase
end Go.Proofs.Ytjaoppopfeonhaa
