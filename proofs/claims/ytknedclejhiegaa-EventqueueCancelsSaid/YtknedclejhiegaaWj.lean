/- The walk of slices.Delete at a row of its own. Conditions: one element is taken out, at most 10000 elements. -/
import Derived.Test.YtknedclejhiegaaWi
namespace Go.Proofs.Ytknedclejhiegaa
open Go.RowKit
structure DelR (w : World) (base : Nat) (v : Value) (n : Nat) (new : List Value) (e : Ending) (w' : World) : Prop where
  val : ∃ v', e = .returned v' ∧ w'.ownsRow base 32 5 v' n new ∧ v'.ownBlock = v.ownBlock
  grown : w.grownBy w' v.ownBlock
set_option maxRecDepth 100000 in
set_option maxHeartbeats 2000000 in
theorem Delete_last (base g q : Nat) (cur : Array Value) (xs : List Value) (w : World) (hg : Blk w g 32 cur) (hcs : cur.size = (q + 1) * 5) (hx : cur.toList.take ((q + 1) * 5) = xs)
    (h1x : ∀ u ∈ xs, u.oneCell' = true) (hn : q ≤ 10000) (hcm : q + 1 ≤ maxLen) (hbase : base ≤ g)  :
    Calls Try.prog 41 #[.slice (some ⟨g, 0, none⟩) (q + 1) (q + 1), .int .i64 q, .int .i64 ((q : Int) + 1)] w (DelR w base (.slice (some ⟨g, 0, none⟩) (q + 1) (q + 1)) q (xs.take (q * 5) ++ xs.drop ((q + 1) * 5))) := by
  obtain ⟨new, hnew⟩ : ∃ new, xs.take (q * 5) ++ xs.drop ((q + 1) * 5) = new := ⟨_, rfl⟩
  rw [hnew]
  have hxl : xs.length = (q + 1) * 5 := by rw [← hx, List.length_take, Array.length_toList, hcs]; omega
  obtain ⟨i2, hi2, hy0, hy1, hy2⟩ := info_parts info32b
  have HI := Lib.hid (And.intro hi2 (And.intro hy0 (And.intro hy1 hy2)))
  clear hi2 hy0 hy1 hy2
  obtain ⟨r1, h1⟩ : ∃ r1, cur.toList.take (q * 5) ++ xs.drop ((q + 1) * 5) ++ cur.toList.drop (q * 5 + (xs.drop ((q + 1) * 5)).length) = r1 := ⟨_, rfl⟩
  obtain ⟨r2, h2⟩ : ∃ r2, r1.take ((q + 1 - 1) * 5) ++ [.int .i64 0, .int .i64 0, .int .i64 0, .int .i64 0, .slice none 0 0] ++ r1.drop ((q + 1 - 1) * 5 + ([.int .i64 0, .int .i64 0, .int .i64 0, .int .i64 0, .slice none 0 0] : List Value).length) = r2 := ⟨_, rfl⟩
  have hfin := del_room (n := q + 1) hx (by rw [Array.length_toList, hcs]; omega) (by omega) rfl r1 r2 h1 h2
  rw [hnew, Nat.add_sub_cancel] at hfin
  rw [Nat.add_sub_cancel] at h2
  have hl1 : r1.length = cur.size := by rw [← h1]; simp [hxl]; omega
  have HX := Lib.hid (And.intro hg (And.intro hcs (And.intro hx (And.intro h1x (And.intro hxl (And.intro h1 (And.intro h2 (And.intro hfin hl1))))))))
  clear hg hcs hx h1x hxl h1 h2 hfin hl1 hnew
  have b1 : ¬ ((q : Int) = (q : Int) + 1) := by omega
  have b1b : ((q : Int) == (q : Int) + 1) = false := by rw [beq_eq_false_iff_ne]; omega
  have b4 : (q : Int) + 1 ≤ (q + 1) := by omega
  have b5 : ¬ (q + 1) = q := by omega
  have b8 : (q : Int) ≤ (q : Int) + 1 := by omega
  have b9 : ¬ (q + 1) = q := by omega
  have b10 : (q : Int) ≤ (q + 1) := by omega
  unfold maxLen at hcm
  have w1 : IntKind.i64.wrap ((q : Int) + 1) = (q : Int) + 1 := by rw [IntWalk.i64_in _ (by omega)]
  have w2 : ((q : Int) + 1).toNat = q + 1 := by omega
  have w3 : (0 : Int) ≤ (q : Int) + 1 := by omega
  have w4 : (q : Int) + 1 ≤ (q : Int) + 1 := by omega
  have w5 : (q : Int) ≤ (q : Int) + 1 := by omega
  go_enter Try.func41, Try.ntmps41
  go_wp2_with fail
  go_still_tail 6, (by kernel_rfl)
  change wpList _ _ _ _ _ w.drew
  refine wpList_append_blk w.drew rfl (.tmp 22) (.tmp 25) 22 rfl 32 i2 Try.underlying22 HI.out.1 5 g q (q + 1) HI.out.2.2.1 ⟨g, 0, none⟩ 0 _ rfl rfl cur HX.out.1.drew (xs.drop ((q + 1) * 5)) (by rw [List.length_drop, HX.out.2.2.2.2.1]; omega) (by omega) (by rw [List.length_drop, HX.out.2.2.2.2.1, HX.out.2.1]; omega) ?_ (fun u hu => HX.out.2.2.2.1 u (List.mem_of_mem_drop hu)) r1 HX.out.2.2.2.2.2.1 ?_
  · intro j u hu
    rw [Addr.add_lit, World.cell?_drew, HX.out.1.cell]
    rw [List.getElem?_drop, ← HX.out.2.2.1, List.getElem?_take] at hu
    split at hu
    · exfalso; omega
    · cases hu
  intro V hg1 hgr1 hs1
  rw [Nat.add_zero]
  have HV := Lib.hid (And.intro hg1 hgr1)
  clear hg1 hgr1 hs1
  have hz32 : ∀ w, (zeroValue 32).run Try.prog w = .ok (.agg #[.int .i64 0, .int .i64 0, .int .i64 0, .int .i64 0, .slice none 0 0]) w := fun w => by
    simp [zeroValue, typeInfo, HI.out.1, HI.out.2.1]
  obtain ⟨V2, hrun, hg2, hgr2⟩ := run_clear_ex (P := Try.prog) V 22 32 _ Try.underlying22 hz32 g (q * 5) 1 1 (by omega) r1.toArray HV.out.1 _ zero32 (by rw [List.size_toArray, HX.out.2.2.2.2.2.2.2.2, HX.out.2.1]; simp; omega) (by simp [Value.oneCell']) r2 HX.out.2.2.2.2.2.2.1
  have HV2 := Lib.hid (And.intro hg2 hgr2)
  clear hg2 hgr2 hz32
  go_wp2_with fail
  go_ret
  have hfin := HX.out.2.2.2.2.2.2.2.1
  have hcs := HX.out.2.1
  refine ⟨⟨_, rfl, ⟨?_, .inr ⟨g, (q + 1), r2.toArray, rfl, hbase, HV2.out.1, by omega, by unfold maxLen; omega, by rw [List.size_toArray, hfin.1, Array.length_toList, hcs], by simpa using hfin.2⟩⟩, rfl⟩, ?_⟩
  · rw [← hfin.2, List.length_take, hfin.1, Array.length_toList, hcs]
    omega
  · show w.grownBy V2 (some g)
    have hd : w.grownBy w.drew (some g) := ⟨rfl, rfl, rfl, Nat.le_refl _, fun _ _ _ => rfl⟩
    exact (hd.trans HV.out.2).trans HV2.out.2
set_option maxRecDepth 100000 in
set_option maxHeartbeats 2000000 in
theorem Delete_mid (base g n cap q : Nat) (cur : Array Value) (xs : List Value) (w : World) (hg : Blk w g 32 cur) (hcs : cur.size = cap * 5) (hx : cur.toList.take ((n + 1) * 5) = xs)
    (h1x : ∀ u ∈ xs, u.oneCell' = true) (hq : q ≤ n) (hn : n ≤ 10000) (hroom : n + 1 ≤ cap) (hcm : cap ≤ maxLen) (hbase : base ≤ g) (hcq : ¬ cap = q + 1) :
    Calls Try.prog 41 #[.slice (some ⟨g, 0, none⟩) (n + 1) cap, .int .i64 q, .int .i64 ((q : Int) + 1)] w (DelR w base (.slice (some ⟨g, 0, none⟩) (n + 1) cap) n (xs.take (q * 5) ++ xs.drop ((q + 1) * 5))) := by
  obtain ⟨new, hnew⟩ : ∃ new, xs.take (q * 5) ++ xs.drop ((q + 1) * 5) = new := ⟨_, rfl⟩
  rw [hnew]
  have hxl : xs.length = (n + 1) * 5 := by rw [← hx, List.length_take, Array.length_toList, hcs]; omega
  obtain ⟨i2, hi2, hy0, hy1, hy2⟩ := info_parts info32b
  have HI := Lib.hid (And.intro hi2 (And.intro hy0 (And.intro hy1 hy2)))
  clear hi2 hy0 hy1 hy2
  obtain ⟨r1, h1⟩ : ∃ r1, cur.toList.take (q * 5) ++ xs.drop ((q + 1) * 5) ++ cur.toList.drop (q * 5 + (xs.drop ((q + 1) * 5)).length) = r1 := ⟨_, rfl⟩
  obtain ⟨r2, h2⟩ : ∃ r2, r1.take ((n + 1 - 1) * 5) ++ [.int .i64 0, .int .i64 0, .int .i64 0, .int .i64 0, .slice none 0 0] ++ r1.drop ((n + 1 - 1) * 5 + ([.int .i64 0, .int .i64 0, .int .i64 0, .int .i64 0, .slice none 0 0] : List Value).length) = r2 := ⟨_, rfl⟩
  have hfin := del_room (n := n + 1) hx (by rw [Array.length_toList, hcs]; omega) (by omega) rfl r1 r2 h1 h2
  rw [hnew, Nat.add_sub_cancel] at hfin
  rw [Nat.add_sub_cancel] at h2
  have hl1 : r1.length = cur.size := by rw [← h1]; simp [hxl]; omega
  have HX := Lib.hid (And.intro hg (And.intro hcs (And.intro hx (And.intro h1x (And.intro hxl (And.intro h1 (And.intro h2 (And.intro hfin hl1))))))))
  clear hg hcs hx h1x hxl h1 h2 hfin hl1 hnew
  have b1 : ¬ ((q : Int) = (q : Int) + 1) := by omega
  have b1b : ((q : Int) == (q : Int) + 1) = false := by rw [beq_eq_false_iff_ne]; omega
  have b3 : (q : Int) ≤ n := by omega
  have b4 : (n : Int) + 1 ≤ cap := by omega
  have b5 : ¬ cap = q := by omega
  have b7 : q ≤ n := by omega
  have b8 : (q : Int) ≤ (n : Int) + 1 := by omega
  have b9 : ¬ cap = n := by omega
  have b10 : (q : Int) ≤ cap := by omega
  have b11 : (n : Int) ≤ cap := by omega
  have b12 : (q : Int) + 1 ≤ cap := by omega
  unfold maxLen at hcm
  have w1 : IntKind.i64.wrap ((q : Int) + 1) = (q : Int) + 1 := by rw [IntWalk.i64_in _ (by omega)]
  have w2 : ((q : Int) + 1).toNat = q + 1 := by omega
  have w3 : (0 : Int) ≤ (q : Int) + 1 := by omega
  have w4 : (q : Int) + 1 ≤ (n : Int) + 1 := by omega
  have w5 : (q : Int) ≤ (q : Int) + 1 := by omega
  go_enter Try.func41, Try.ntmps41
  go_wp2_with fail
  go_still_tail 6, (by kernel_rfl)
  change wpList _ _ _ _ _ w.drew
  refine wpList_append_blk w.drew rfl (.tmp 22) (.tmp 25) 22 rfl 32 i2 Try.underlying22 HI.out.1 5 g q cap HI.out.2.2.1 ⟨g, (q + 1) * 5, none⟩ (n - q) _ rfl rfl cur HX.out.1.drew (xs.drop ((q + 1) * 5)) (by rw [List.length_drop, HX.out.2.2.2.2.1]; omega) (by omega) (by rw [List.length_drop, HX.out.2.2.2.2.1, HX.out.2.1]; omega) ?_ (fun u hu => HX.out.2.2.2.1 u (List.mem_of_mem_drop hu)) r1 HX.out.2.2.2.2.2.1 ?_
  · intro j u hu
    rw [Addr.add_lit, World.cell?_drew, HX.out.1.cell]
    rw [List.getElem?_drop, ← HX.out.2.2.1, List.getElem?_take] at hu
    split at hu
    · simpa using hu
    · cases hu
  intro V hg1 hgr1 hs1
  rw [show q + (n - q) = n by omega]
  have HV := Lib.hid (And.intro hg1 hgr1)
  clear hg1 hgr1 hs1
  have hz32 : ∀ w, (zeroValue 32).run Try.prog w = .ok (.agg #[.int .i64 0, .int .i64 0, .int .i64 0, .int .i64 0, .slice none 0 0]) w := fun w => by
    simp [zeroValue, typeInfo, HI.out.1, HI.out.2.1]
  obtain ⟨V2, hrun, hg2, hgr2⟩ := run_clear_ex (P := Try.prog) V 22 32 _ Try.underlying22 hz32 g (n * 5) 1 (cap - n) (by omega) r1.toArray HV.out.1 _ zero32 (by rw [List.size_toArray, HX.out.2.2.2.2.2.2.2.2, HX.out.2.1]; simp; omega) (by simp [Value.oneCell']) r2 HX.out.2.2.2.2.2.2.1
  have HV2 := Lib.hid (And.intro hg2 hgr2)
  clear hg2 hgr2 hz32
  go_wp2_with fail
  go_ret
  have hfin := HX.out.2.2.2.2.2.2.2.1
  have hcs := HX.out.2.1
  refine ⟨⟨_, rfl, ⟨?_, .inr ⟨g, cap, r2.toArray, rfl, hbase, HV2.out.1, by omega, by unfold maxLen; omega, by rw [List.size_toArray, hfin.1, Array.length_toList, hcs], by simpa using hfin.2⟩⟩, rfl⟩, ?_⟩
  · rw [← hfin.2, List.length_take, hfin.1, Array.length_toList, hcs]
    omega
  · show w.grownBy V2 (some g)
    have hd : w.grownBy w.drew (some g) := ⟨rfl, rfl, rfl, Nat.le_refl _, fun _ _ _ => rfl⟩
    exact (hd.trans HV.out.2).trans HV2.out.2
/-- one element taken out of a row of its own -/
theorem Delete_any (base q : Nat) (v : Value) (n : Nat) (xs : List Value) (w : World) (hown : w.ownsRow base 32 5 v (n + 1) xs) (h1x : ∀ u ∈ xs, u.oneCell' = true) (hq : q ≤ n) (hn : n ≤ 10000) :
    Calls Try.prog 41 #[v, .int .i64 q, .int .i64 ((q : Int) + 1)] w (DelR w base v n (xs.take (q * 5) ++ xs.drop ((q + 1) * 5))) := by
  obtain ⟨g, cap, cur, rfl, hb, hg, hc, hm, hs, hx⟩ := own_blk hown (by omega)
  by_cases h : cap = q + 1
  · subst h
    obtain rfl : n = q := by omega
    exact Delete_last base g n cur xs w hg hs hx h1x hn hm hb
  · exact Delete_mid base g n cap q cur xs w hg hs hx h1x hq hn hc hm hb h
end Go.Proofs.Ytknedclejhiegaa
