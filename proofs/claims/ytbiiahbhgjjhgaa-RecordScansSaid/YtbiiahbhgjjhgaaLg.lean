/- The walk of the law RecordScans. No condition. -/
import Derived.Test.YtbiiahbhgjjhgaaWu
import Derived.Test.YtbiiahbhgjjhgaaWp
import Derived.Test.YtbiiahbhgjjhgaaArgs
namespace Go.Proofs.Ytbiiahbhgjjhgaa
open Go.RowKit
theorem scan_len (l : List Sec) (s : Int) : (scanI l s).length ≤ l.length + 1 := by
  have h : ∀ f (l : List Sec) (s : Nat), (scanM f l s).length ≤ f := by
    intro f
    induction f with
    | zero => intro l s; simp [scanM]
    | succ f ih =>
      intro l s
      rw [scanM]
      split
      · have := ih (l.drop (decM l).n) (s + 1)
        simp only [List.length_cons]
        omega
      · simp
  unfold scanI
  split
  · simp
  · exact h _ _ _
set_option maxRecDepth 100000 in
set_option maxHeartbeats 2000000 in
theorem walkRecordScans (w : World) (v0 v1 : Value) (h0 : Arg28 w v0) (h1 : Arg3 w v1) : Calls Try.prog 9 #[v0, v1] w fun e w' => e = .returned (.bool true) ∧ Below w.heap.size w w' := by
  obtain ⟨A, n, c, l, rfl, hR, hnc, hcm, hl⟩ := h0
  obtain ⟨s, rfl, _, _⟩ := h1
  have hlen := sec_count hR
  by_cases c1 : 300 < n
  · have c1' : (300 : Int) < n := by omega
    go_enter Try.func9, Try.ntmps9
    go_wp2_with fail
    refine (awake_any _).mono ?_
    rintro e w1 ⟨rfl, hb1⟩
    go_wp2_with fail
    go_ret
    exact ⟨rfl, hb1⟩
  have c1' : ¬ (300 : Int) < n := by omega
  have hsl := scan_len l s
  have HX := Lib.hid (And.intro hR (And.intro hl hlen))
  clear hR hl
  go_enter Try.func9, Try.ntmps9
  go_wp2_with fail
  refine (Scan_any n c A l s w HX.out.1 (by omega) hnc HX.out.2.1).mono ?_
  have HR2 : Hid (∀ w1, Below w.heap.size w w1 → Calls Try.prog 22 #[.slice A n c, .int .i64 s] w1 (ScanR w1 (scanI l s))) := fun w1 hb => refScan_any n c A l s w1 (HX.out.1.up hb) (by omega) hnc HX.out.2.1
  generalize scanI l s = ds at *
  rintro e w1 ⟨hb1, A1, d1, rs, rfl, hR1, _, hp1, ht1⟩
  have hrl : rs.length = ds.length := by have := congrArg List.length ht1; simpa using this
  obtain ⟨N, hN⟩ : ∃ N, N = rs.length := ⟨_, rfl⟩
  obtain ⟨T, hT⟩ : ∃ T, T = totM ds := ⟨_, rfl⟩
  rw [← hN] at hR1 hrl ⊢
  rw [← hT]
  have H1 := Lib.hid (And.intro hb1 (And.intro hR1 (And.intro hp1 ht1)))
  have HT := Lib.hid hT
  have HRL := Lib.hid hrl
  clear hb1 hR1 hp1 ht1 hT hN hrl
  go_wp2_with fail
  refine (HR2.out w1 H1.out.1).mono ?_
  rintro e w2 ⟨hb2, A2, d2, rs2, rfl, hR2, _, hp2, ht2⟩
  have hrl2 : rs2.length = N := by have := congrArg List.length ht2; rw [HRL.out]; simpa using this
  rw [hrl2] at hR2 ⊢
  rw [← HT.out]
  have H2 := Lib.hid (And.intro (H1.out.1.trans (hb2.mono H1.out.1.size)) (And.intro (H1.out.2.1.up hb2) (And.intro hR2 (And.intro (fun r hr => (H1.out.2.2.1 r hr).up hb2) (And.intro hp2 (H1.out.2.2.2.trans ht2.symm))))))
  have hrb : N ≤ 2000 := by have := HRL.out; omega
  clear hb2 hR2 hp2 ht2 hrl2 hsl hlen
  go_wp2_with fail
  refine (awake_any _).mono ?_
  rintro e w3 ⟨rfl, hb3⟩
  have H3 := Lib.hid (And.intro (H2.out.1.trans (hb3.mono H2.out.1.size)) hb3)
  clear hb3
  go_wp2_with fail
  refine (SameList_any N d1 d2 A1 A2 rs rs2 w3 (H2.out.2.1.up H3.out.2) (H2.out.2.2.1.up H3.out.2) hrb (fun r hr => (H2.out.2.2.2.1 r hr).up H3.out.2) (fun r hr => (H2.out.2.2.2.2.1 r hr).up H3.out.2) H2.out.2.2.2.2.2).mono ?_
  rintro e w4 ⟨rfl, hb4⟩
  go_wp2_with fail
  go_ret
  exact ⟨by simp, H3.out.1.trans (hb4.mono H3.out.1.size)⟩
end Go.Proofs.Ytbiiahbhgjjhgaa
