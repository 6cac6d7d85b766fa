/- The walk of the law EventqueueNumbers. No condition. -/
import Derived.Test.YtknedclejhiegaaLa
import Derived.Test.YtknedclejhiegaaWz
namespace Go.Proofs.Ytknedclejhiegaa
open Go.RowKit
theorem due_sub (l : List Em) (nx now : Int) : (dueQ l nx now).1.Sublist l := by
  unfold dueQ
  split
  · exact List.Sublist.refl _
  · exact List.drop_sublist _ _
/-- an event added to a queue in order -/
theorem addQ_ok {l : List Em} {nx t k o : Int} {p : List Nat} (h : OkP nx l) (hx : wrongE ⟨t, nx, k, o, p⟩ (nx + 1) = 0) (hf : nx < 1073741824) : addQ l nx t k o p = ⟨insE ⟨t, nx, k, o, p⟩ l, nx + 1, nx, 0⟩ ∧ chkQ (nx + 1) (insE ⟨t, nx, k, o, p⟩ l) = 0 := by
  refine ⟨?_, (ok_ins h rfl hx hf).chk⟩
  unfold addQ
  rw [h.chk, if_neg (by simp), hx, if_neg (by simp), if_neg (by omega)]
/-- the queue of times: what stands in it -/
theorem added_ok (l : List Nat) : OkP ((timesM l).length : Nat) (addM (timesM l) (timesM l).length) ∧ (addM (timesM l) (timesM l).length).length = (timesM l).length :=
  addM_ok (fun t ht => by have := timesM_ok l t ht; omega) (by have := timesM_len l; omega) _ (Nat.le_refl _)
theorem ok_body {nx : Int} {es : List Ev} {L : List Em} (h : OkP nx L) (he : es.map Ev.em = L) : ∀ e ∈ es, e.p.length ≤ 100000 := by
  intro e hm
  have h1 : e.em ∈ L := by rw [← he]; exact List.mem_map_of_mem hm
  have := wrong_fact (h.each _ h1)
  have h2 : e.em.p = e.p := rfl
  rw [h2] at this
  omega
set_option maxRecDepth 100000 in
set_option maxHeartbeats 8000000 in
theorem walkEventqueueNumbers (w : World) (v0 v1 : Value) (h0 : Arg39 w v0) (h1 : Arg5 w v1) : Calls Try.prog 6 #[v0, v1] w fun e w' => e = .returned (.bool true) ∧ Below w.heap.size w w' := by
  obtain ⟨A, m, c, l, rfl, hR, hmc, hcm, hl⟩ := h0
  obtain ⟨now, rfl, hnow⟩ := h1
  have HX := Lib.hid (And.intro hR hl)
  clear hR hl
  unfold maxLen at hcm
  go_enter Try.func6, Try.ntmps6
  go_wp2_with fail
  refine (times_any A m c l w HX.out.1 (by unfold maxLen; omega) HX.out.2).mono ?_
  rintro e w1 ⟨hb1, A1, c1, rfl, hr1⟩
  have hok := added_ok l
  have htl := timesM_len l
  have htb : ∀ t ∈ timesM l, 0 ≤ t ∧ t ≤ 1073741824 := fun t ht => by have := timesM_ok l t ht; omega
  have HTM : Hid (∀ W, Below w.heap.size w W → Calls Try.prog 17 #[.slice A m c] W (TimesR W (timesM l))) := fun W hW => times_any A m c l W (HX.out.1.up hW) (by unfold maxLen; omega) HX.out.2
  generalize timesM l = ts at *
  obtain ⟨M, hM⟩ : ∃ M, ts.length = M := ⟨_, rfl⟩
  have HM := Lib.hid hM
  rw [hM] at htl hr1 hok ⊢
  have H1 := Lib.hid (And.intro hb1 (And.intro hr1 (And.intro hok htb)))
  have hs1 := hb1.size
  clear hb1 hr1 hok htb hM
  go_wp2_with fail
  refine (added_any A1 M c1 ts w1 H1.out.2.1 (by omega) H1.out.2.2.2).mono ?_
  rintro e w2 ⟨hb2, v2, he2, hv2⟩
  rw [HM.out] at hv2
  obtain ⟨L, hL⟩ : ∃ L, addM ts M = L := ⟨_, rfl⟩
  have HOK : Hid (OkP M L ∧ L.length = M) := by rw [← hL]; exact H1.out.2.2.1
  rw [hL] at hv2
  clear hL
  obtain ⟨A2, c2, es2, rfl, hE2, hm2, hc2⟩ := hv2.val
  have hl2 : es2.length = M := by rw [← HOK.out.2, ← hm2, List.length_map]
  rw [hl2] at hE2 hc2 he2
  subst he2
  have hs2 := hb2.size
  have H2 := Lib.hid (And.intro (H1.out.1.trans (hb2.mono hs1)) (And.intro hE2 (And.intro hm2 (ok_body HOK.out.1 hm2))))
  clear hb2 hv2 hE2 hm2 hl2
  have hb2x : Below w2.heap.size w2 (w2.alloc (.cells #[.slice A2 M c2, .int .i64 (M : Nat)] 24)) := (Below.refl _ _).alloc (Nat.le_refl _) _
  have hs2x : w2.heap.size + 1 ≤ (w2.alloc (.cells #[.slice A2 M c2, .int .i64 (M : Nat)] 24)).heap.size := by simp
  have H2x := Lib.hid hb2x
  clear hb2x
  go_wp2_with fail
  generalize (w2.alloc (.cells #[.slice A2 M c2, .int .i64 (M : Nat)] 24)) = V2 at *
  refine (Due_any A2 M c2 es2 M now V2 (H2.out.2.1.up H2x.out) (by omega) hc2 H2.out.2.2.2).mono ?_
  rintro e w3 ⟨hb3, v3, Ad, cd, ds, he3, hv3, _, _⟩
  rw [H2.out.2.2.1] at hv3
  have hsub := due_sub L M now
  generalize dueQ L M now = rd at *
  obtain ⟨L3, D3⟩ := rd
  dsimp only at hv3 hsub
  have hok3 : OkP M L3 := HOK.out.1.sub hsub
  have hl3 : L3.length ≤ M := by have := hsub.length_le; have := HOK.out.2; omega
  obtain ⟨A3, c3, es3, rfl, hE3, hm3, hc3⟩ := hv3.val
  obtain ⟨N, hN⟩ : ∃ N, es3.length = N := ⟨_, rfl⟩
  have hN3 : N ≤ 30 := by rw [← hN]; have h := congrArg List.length hm3; rw [List.length_map] at h; omega
  rw [hN] at hE3 hc3 he3
  subst he3
  have hs3 := hb3.size
  have HQ := Lib.hid (And.intro hok3 (And.intro hm3 (ok_body hok3 hm3)))
  have H3 := Lib.hid (And.intro (H2x.out.trans (hb3.mono H2x.out.size)) hE3)
  clear hb3 hv3 hE3 hm3 hN hok3 hl3 hsub
  have hb3x : Below w3.heap.size w3 ((w3.alloc (.cells #[.slice A3 N c3, .int .i64 (M : Nat)] 24)).alloc (.cells #[.int .u8 3] 5)) := ((Below.refl _ _).alloc (Nat.le_refl _) _).alloc (by simp) _
  have hs3x : w3.heap.size + 2 ≤ ((w3.alloc (.cells #[.slice A3 N c3, .int .i64 (M : Nat)] 24)).alloc (.cells #[.int .u8 3] 5)).heap.size := by simp
  have hr3x : Reads ((w3.alloc (.cells #[.slice A3 N c3, .int .i64 (M : Nat)] 24)).alloc (.cells #[.int .u8 3] 5)) ((w3.alloc (.cells #[.slice A3 N c3, .int .i64 (M : Nat)] 24)).alloc (.cells #[.int .u8 3] 5)).heap.size 1 (some ⟨w3.heap.size + 1, 0, none⟩) 1 (u8s [3]) := by
    have h := (Blk.new (w3.alloc (.cells #[.slice A3 N c3, .int .i64 (M : Nat)] 24)) 5 #[.int .u8 3]).reads (size := 1) (n := 1) (by simp)
    simp only [World.size_alloc] at h
    have h2 : Reads ((w3.alloc (.cells #[.slice A3 N c3, .int .i64 (M : Nat)] 24)).alloc (.cells #[.int .u8 3] 5)) (w3.heap.size + 1 + 1) 1 (some ⟨w3.heap.size + 1, 0, none⟩) 1 (u8s [3]) := h
    exact h2.more (by simp only [World.size_alloc]; exact Nat.le_refl _)
  have H3x := Lib.hid (And.intro hb3x hr3x)
  clear hb3x hr3x
  go_wp2_with fail
  generalize ((w3.alloc (.cells #[.slice A3 N c3, .int .i64 (M : Nat)] 24)).alloc (.cells #[.int .u8 3] 5)) = V3 at *
  obtain ⟨hadd, hchk⟩ := addQ_ok (t := 7) (k := 1) (o := 2) (p := [3]) HQ.out.1 (wrong_of (by simp; omega)) (by omega)
  have hlen4 := ins_len ⟨7, (M : Nat), 1, 2, [3]⟩ L3
  refine (Add_any A3 (some ⟨w3.heap.size + 1, 0, none⟩) N c3 1 es3 M 7 1 2 [3] V3 (H3.out.2.up H3x.out.1) (by omega) hc3 HQ.out.2.2 H3x.out.2 (by simp)).mono ?_
  rintro e w4 ⟨hb4, v4, he4, hv4⟩
  rw [HQ.out.2.1, hadd] at he4 hv4
  dsimp only at he4 hv4
  generalize insE ⟨7, (M : Nat), 1, 2, [3]⟩ L3 = L4 at *
  obtain ⟨A4, c4, es4, rfl, hE4, hm4, hc4⟩ := hv4.val
  obtain ⟨K, hK⟩ : ∃ N, es4.length = N := ⟨_, rfl⟩
  have hK3 : K ≤ 31 := by
    have h := congrArg List.length hm4
    have h2 := congrArg List.length HQ.out.2.1
    have h3 := H3.out.2.count
    rw [List.length_map] at h h2
    omega
  rw [hK] at hE4 hc4 he4
  subst he4
  have hs4 := hb4.size
  have H4 := Lib.hid (And.intro (H3x.out.1.trans (hb4.mono H3x.out.1.size)) (And.intro hE4 (And.intro hm4 hchk)))
  clear hb4 hv4 hE4 hm4 hK hlen4 hadd hchk
  have hb4x : Below w4.heap.size w4 (w4.alloc (.cells #[.slice A4 K c4, .int .i64 ((M : Nat) + 1)] 24)) := (Below.refl _ _).alloc (Nat.le_refl _) _
  have hs4x : w4.heap.size + 1 ≤ (w4.alloc (.cells #[.slice A4 K c4, .int .i64 ((M : Nat) + 1)] 24)).heap.size := by simp
  have H4x := Lib.hid (And.intro hb4x (Blk.new w4 24 #[.slice A4 K c4, .int .i64 ((M : Nat) + 1)]))
  clear hb4x
  go_wp2_with fail
  generalize (w4.alloc (.cells #[.slice A4 K c4, .int .i64 ((M : Nat) + 1)] 24)) = V4 at *
  refine (awake_any V4).mono ?_
  rintro e w5 ⟨rfl, hb5⟩
  have hs5 := hb5.size
  have hbw5 : Below w.heap.size w w5 := H2.out.1.trans ((H3.out.1.trans ((H4.out.1.trans ((H4x.out.1.trans (hb5.mono H4x.out.1.size)).mono (by omega))).mono (by omega))).mono (by omega))
  have H5 := Lib.hid (And.intro hb5 hbw5)
  clear hb5 hbw5
  go_wp2_with fail
  refine (HTM.out w5 H5.out.2).mono ?_
  rintro e w6 ⟨hb6, A6, c6, rfl, hr6⟩
  rw [HM.out] at hr6 ⊢
  have hs6 := hb6.size
  have hb46 := H4x.out.1.trans ((H5.out.1.trans (hb6.mono H5.out.1.size)).mono (by omega))
  have hE6 := H4.out.2.1.up hb46
  have g6 : Blk w6 w4.heap.size 24 #[.slice A4 K c4, .int .i64 ((M : Nat) + 1)] := (H4x.out.2.below H5.out.1 (by omega)).below hb6 (by omega)
  have r0 : w6.cell? ⟨w4.heap.size, 0, none⟩ = some (.slice A4 K c4) := g6.cell 0
  have r1 : w6.cell? ⟨w4.heap.size, 1, none⟩ = some (.int .i64 ((M : Nat) + 1)) := g6.cell 1
  have H6 := Lib.hid (And.intro (H5.out.2.trans (hb6.mono H5.out.2.size)) hE6)
  clear hb6 hr6 hb46 hE6 g6
  go_wp2_with fail
  refine (Check_any A4 K c4 es4 (((M : Nat) : Int) + 1) w6 H6.out.2 (by omega) hc4).mono ?_
  rintro e w7 ⟨he7, hb7⟩
  rw [H4.out.2.2.1, H4.out.2.2.2] at he7
  subst he7
  go_wp2_with fail
  go_ret
  exact ⟨by simp, H6.out.1.trans (hb7.mono H6.out.1.size)⟩
end Go.Proofs.Ytknedclejhiegaa
