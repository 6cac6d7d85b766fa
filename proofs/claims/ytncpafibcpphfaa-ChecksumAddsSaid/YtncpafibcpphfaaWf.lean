/- The walks of digest and Digest. Conditions: the bytes are bytes, at most 1000000 of them. -/
import Derived.Test.YtncpafibcpphfaaWe
namespace Go.Proofs.Ytncpafibcpphfaa
open Go.RowKit Go.Shelf
attribute [local go_sem] Oper.semAt_some
def fnv1 (h x : Nat) : Nat := ((h ^^^ x) * 1099511628211) % 18446744073709551616
def fnvL (h : Nat) (l : List B8) : Nat := l.foldl (fun a x => fnv1 a x.1) h
def fnv0 : Nat := 14695981039346656037
def fnvEnd (h : Nat) : Nat := h ^^^ h / 4294967296
def dig (l : List B8) : Nat := fnvEnd (fnvL fnv0 l)
theorem fnv1_lt (h x : Nat) : fnv1 h x < 18446744073709551616 := by unfold fnv1; exact Nat.mod_lt _ (by omega)
theorem fnv1_go {h x : Nat} (hh : h < 18446744073709551616) (hx : x < 256) : IntKind.u64.wrap (bits .xor .u64 (h : Int) (x : Int) * 1099511628211) = (fnv1 h x : Nat) := by
  rw [u64_xor_nat h x hh (by omega), IntKind.wrap_u64]
  unfold fnv1
  generalize h ^^^ x = y
  omega
attribute [irreducible] fnv1
theorem fnvEnd_go {h : Nat} (hh : h < 18446744073709551616) : bits .xor .u64 (h : Int) ((h : Int) / 4294967296) = (fnvEnd h : Nat) :=
  u64_xor_nat h (h / 4294967296) hh (by omega)
theorem fnvL_snoc (h : Nat) (l : List B8) (x : B8) : fnvL h (l ++ [x]) = fnv1 (fnvL h l) x.1 := by
  unfold fnvL
  rw [List.foldl_append, List.foldl_cons, List.foldl_nil]
theorem fnvL_cons (h : Nat) (x : B8) (l : List B8) : fnvL h (x :: l) = fnvL (fnv1 h x.1) l := rfl
theorem fnvL_lt {h : Nat} (hh : h < 18446744073709551616) (l : List B8) : fnvL h l < 18446744073709551616 := by
  induction l generalizing h with
  | nil => exact hh
  | cons x l ih =>
    rw [fnvL_cons]
    exact ih (fnv1_lt _ _)
theorem dig1_stops (n : Nat) (hn : 1 ≤ n) (Bs n₀ len cap : Nat) (A : Option Addr) (xs : List B8) (hlen : len ≤ 1000000) (w : World) (hBs : Bs < w.heap.size) (hn₀ : n₀ ≤ w.heap.size)
    (hc : w.cell? ⟨Bs, 0, none⟩ = some (.slice A len cap)) (hR : Reads w n₀ 1 A len (b8s xs)) :
    SeqStopsK Fence.wide n Try.prog 24 #[.pointer (some ⟨Bs, 0, none⟩)] (fun x : B8 => #[Value.int .u8 (x.1 : Int)]) (Below n₀) (fun ys => ys = xs) (fun pre => pre <+: xs) len w := fun l J Jx W hW _ _ hY h0 =>
  dig1_in n hn l Bs n₀ len cap A xs hlen J Jx hY W ((hW.cell (p := ⟨Bs, 0, none⟩) hBs).trans hc) (hR.below (hW.mono hn₀)) h0
set_option maxRecDepth 100000 in
set_option maxHeartbeats 1000000 in
theorem digest_in (gf : Nat) (lb : Array Value) (n₀ N : Nat) (xs : List B8) (w : World) (hn₀ : n₀ ≤ w.heap.size) (hgf : ∀ (args : Array Value) (w : World), (callFunc gf args).run Try.prog w = .ok (.enter gf args) w)
    (hS : ∀ w1 : World, Below w.heap.size w w1 → SeqStopsK Fence.wide 2 Try.prog gf lb (fun x : B8 => #[Value.int .u8 (x.1 : Int)]) (Below n₀) (fun ys => ys = xs) (fun pre => pre <+: xs) N w1) :
    CallsIn Fence.wide 3 Try.prog 23 #[.func (.func gf) #[] lb] w fun e w' => e = .returned (.int .u64 (dig xs : Nat)) ∧ Below w.heap.size w w' := by
  have HS := Lib.hid hS
  have HG := Lib.hid hgf
  clear hS hgf
  refine callsIn_of_wp_marks Try.func23 rfl trivial ?_ rfl
  simp only [Try.ntmps23, List.size_toArray, List.length_cons, List.length_nil, Nat.reduceAdd, Nat.reduceSub, Array.replicate_succ, Array.replicate_zero, List.push_toArray, List.append_toArray, List.nil_append, List.cons_append]
  gi_wp2
  have hs := cell_new_l w (.int .u64 14695981039346656037) 34
  have hB0 : Below w.heap.size w (w.alloc (.cells #[.int .u64 14695981039346656037] 34)) := (Below.refl _ w).alloc (Nat.le_refl _) _
  refine wpIn_rangeFunc_ownF (w0 := w.alloc (.cells #[.int .u64 14695981039346656037] 34)) rfl (by omega) (gf := gf) (lb := lb) rfl trivial HG.out (HS.out _ hB0) belowK_t (belowK_b (by simp; omega)) (Below.refl _ _) (fun _ => rfl)
    (fun pre W => (W.cell? ⟨w.heap.size, 0, none⟩ = some (.int .u64 (fnvL fnv0 pre : Nat)) ∧ W.frozen? ⟨w.heap.size, 0, none⟩ = false) ∧ Below w.heap.size w W)
    (fun _ _ _ => False)
    (OwnFrom.and (Own.from (fun s A B row hs hg hr => ⟨cell_kept hs.1 hg hr, (frozen_kept hs.1 hg hr).trans hs.2⟩) _) (ownFrom_below (Nat.le_refl _) (by simp)))
    (fun _ _ _ _ _ hs _ _ => hs)
    ⟨hs, hB0⟩
    (fun x => { tmps := #[.func (.func gf) #[] lb, undef, .int .u64 0, .pointer (some ⟨w.heap.size, 0, none⟩), .int .u8 (x.1 : Int), .func (.func gf) #[] lb, .int .u8 (x.1 : Int), undef, undef, undef, undef, undef, undef, undef, undef, undef], defers := [] }) ?assign ?body ?done ?stop
  case assign =>
    intro l x W K hK
    gi_wp2
    exact hK
  case body =>
    rintro l pre ⟨x, hx⟩ W ⟨⟨hc, hf⟩, hB⟩ _
    have hlt : fnvL fnv0 pre < 18446744073709551616 := fnvL_lt (by unfold fnv0; omega) pre
    have hv : Hid (fnvL fnv0 (pre ++ [⟨x, hx⟩]) = fnv1 (fnvL fnv0 pre) x) := fnvL_snoc _ _ _
    generalize fnvL fnv0 pre = h at *
    have HLT := Lib.hid hlt
    clear hlt
    gi_wp2
    refine ⟨KeepsOthers.setCell _ _ _, (Below.refl _ W).setCell (p := ⟨w.heap.size, 0, none⟩) hn₀ _, ⟨?_, by rw [World.frozen?_setCell]; exact hf⟩, hB.setCell (p := ⟨w.heap.size, 0, none⟩) (Nat.le_refl _) _⟩
    rw [hv.out, ← fnv1_go HLT.out hx]
    exact World.cell?_setCell_same' _ _ _ (by rw [hc]; rfl)
  case done =>
    rintro D ys W hD rfl ⟨⟨hc, _⟩, hB⟩ hK
    have hlt : fnvL fnv0 ys < 18446744073709551616 := fnvL_lt (by unfold fnv0; omega) ys
    have HD : Hid (dig ys = fnvEnd (fnvL fnv0 ys)) := rfl
    generalize fnvL fnv0 ys = h at *
    have HLT := Lib.hid hlt
    clear hlt
    gi_wp2
    refine ⟨by simp, .inl ⟨_, _, rfl, run_takeDeferred hK, ?_⟩⟩
    refine ⟨_, results_tmp rfl _ _ _, ?_, hB.trans (belowK_b (w := w) (Nat.le_refl _) W D _ _ (by simp at hD; omega) hK rfl rfl)⟩
    rw [HD.out, ← fnvEnd_go HLT.out]
    rfl
  case stop =>
    rintro D c pre W _ _ h _
    exact h.elim
theorem enters24 : ∀ (args : Array Value) (w : World), (callFunc 24 args).run Try.prog w = .ok (.enter 24 args) w := enters_of Try.func24 (by kernel_rfl) rfl
set_option maxHeartbeats 400000 in
theorem Digest_any (n cap : Nat) (A : Option Addr) (xs : List B8) (w : World) (hn : n ≤ 1000000) (hR : Reads w w.heap.size 1 A n (b8s xs)) :
    Calls Try.prog 15 #[.slice A n cap] w fun e w' => e = .returned (.int .u64 (dig xs : Nat)) ∧ Below w.heap.size w w' := by
  have hb : Below w.heap.size w (w.alloc (.cells #[.slice A n cap] 26)) := (Below.refl _ w).alloc (Nat.le_refl _) _
  have hc := (cell_new_l w (.slice A n cap) 26).1
  have h := callsIn_wide.1 (digest_in 24 #[.pointer (some ⟨w.heap.size, 0, none⟩)] w.heap.size n xs (w.alloc (.cells #[.slice A n cap] 26)) (by simp) enters24 (fun w1 hw1 =>
    dig1_stops 2 (by omega) w.heap.size w.heap.size n cap A xs hn w1 (by have := hw1.size; simp at this; omega) (by have := hw1.size; simp at this; omega) ((hw1.cell (p := ⟨w.heap.size, 0, none⟩) (by simp)).trans hc) ((hR.below hb).below (hw1.mono (by simp)))))
  have H := Lib.hid h
  clear h hc
  go_enter Try.func15, Try.ntmps15
  go_wp2_with (go_at_call 23; refine (H.out).mono ?_; rintro e w1 ⟨rfl, hb1⟩)
  go_ret
  exact ⟨rfl, hb.trans (hb1.mono (by simp))⟩
end Go.Proofs.Ytncpafibcpphfaa
