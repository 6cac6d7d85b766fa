/- The argument []uint16, and the walk of times. No condition. -/
import Derived.Test.YtknedclejhiegaaWy
import Derived.Test.YtknedclejhiegaaArgs
namespace Go.Proofs.Ytknedclejhiegaa
open Go.RowKit Go.ChangeShapes Go.WideShapes Go.Deep
section
variable {H : Type} {enc : TypeId × Value → H} {w : World} {r : Reach} {b0 base : Nat} {spare : Nat → Bool} {held : Bool} {v : Value} {d : DataW H} {p : List MemPlace}
theorem cells69 : Try.prog.cellsOf 69 = 1 := by kernel_rfl
def u16V (l : List Nat) : List Value := l.map fun x : Nat => .int .u16 (x : Int)
theorem u16V_len (l : List Nat) : (u16V l).length = l.length := by simp [u16V]
theorem b16_flat (l : List { n : Nat // n < 65536 }) : (l.flatMap fun x => [Value.int .u16 (x.1 : Int)]) = u16V (l.map (·.1)) := by
  unfold u16V
  induction l with
  | nil => rfl
  | cons x l ih => rw [List.flatMap_cons, ih]; rfl
def Arg39 (w : World) (v : Value) : Prop := ∃ (A : Option Addr) (m c : Nat) (l : List Nat), v = .slice A m c ∧ Reads w w.heap.size 1 A m (u16V l) ∧ m ≤ c ∧ c ≤ maxLen ∧ ∀ x ∈ l, x < 65536
theorem arg39 (hv : Value.okWide Try.prog w r b0 39 v) (h : DataW.Trod enc Try.prog w base spare held 39 v d p) : Arg39 w v := by
  obtain ⟨A, n, c, xs, rfl, _, h2, h3, h4⟩ := flat_slice (flat_u16 Try.underlying69) cells69 (by omega) (fun a => rfl) Try.underlying39 hv h
  rw [b16_flat] at h4
  refine ⟨A, n, c, _, rfl, h4, h2, h3, fun x hx => ?_⟩
  obtain ⟨y, _, rfl⟩ := List.mem_map.1 hx
  exact y.2
end
/-- the times of a statement's numbers -/
def timesM (l : List Nat) : List Int := (l.take 30).map fun x : Nat => ((x % 100 : Nat) : Int)
theorem timesM_len (l : List Nat) : (timesM l).length ≤ 30 := by simp [timesM]; omega
theorem timesM_ok (l : List Nat) : ∀ t ∈ timesM l, 0 ≤ t ∧ t < 100 := by
  intro t ht
  obtain ⟨x, _, rfl⟩ := List.mem_map.1 ht
  omega
structure TimesR (w : World) (ts : List Int) (e : Ending) (w' : World) : Prop where
  bel : Below w.heap.size w w'
  val : ∃ A c, e = .returned (.slice A ts.length c) ∧ Reads w' w'.heap.size 1 A ts.length (intsV ts)
set_option maxRecDepth 100000 in
set_option maxHeartbeats 2000000 in
theorem times_any (A : Option Addr) (m c : Nat) (l : List Nat) (w : World) (hR : Reads w w.heap.size 1 A m (u16V l)) (hm : m ≤ maxLen) (hl : ∀ x ∈ l, x < 65536) :
    Calls Try.prog 17 #[.slice A m c] w (TimesR w (timesM l)) := by
  have hlen : l.length = m := by have := hR.1; rw [u16V_len] at this; omega
  obtain ⟨i2, hi2, hy0, hy1, hy2⟩ := info_parts info3b
  have HI := Lib.hid (And.intro hi2 (And.intro hy0 (And.intro hy1 hy2)))
  clear hi2 hy0 hy1 hy2
  unfold maxLen at hm
  have HX := Lib.hid (And.intro hR (And.intro hlen hl))
  clear hR hlen hl
  go_enter Try.func17, Try.ntmps17
  go_wp2_with fail
  go_loopw [3, 4] (fun u3 u4 W => ∃ (k : Nat) (ts : List Int), k ≤ m ∧ k ≤ 30 ∧ u4 = .int .i64 (k : Nat) ∧ ts = (l.take k).map (fun x : Nat => ((x % 100 : Nat) : Int)) ∧ W.ownsRow w.heap.size 3 1 u3 ts.length (intsV ts) ∧ Below w.heap.size w W) (fun _ u4 _ => m + 1 - (intOf u4).toNat)
  case atStart => exact ⟨0, [], by omega, by omega, rfl, by simp, World.ownsRow_nil _ _ _ _, Below.refl _ _⟩
  case round =>
    obtain ⟨k, ts, hk, hk30, rfl, hts, hown, hb⟩ := hrel
    obtain ⟨A3, c3, rfl, hnc3, hcm3, hr3⟩ := own_slice hown
    have htl : ts.length = k := by rw [hts, List.length_map, List.length_take]; have := HX.out.2.1; omega
    have htb : ts.length ≤ 30 := by omega
    have HT := Lib.hid (And.intro hts (And.intro hown (And.intro hb (And.intro htl (And.intro hnc3 hr3)))))
    clear hts hown hb htl hnc3 hcm3 hr3
    by_cases hlt : k < m ∧ k < 30
    · obtain ⟨hlt, hlt3⟩ := hlt
      have a1 : (k : Int) < m := by omega
      have a2 : (k : Int) < 30 := by omega
      have hkl : k < l.length := by have := HX.out.2.1; omega
      obtain ⟨b, off, rfl, hbb, hc⟩ := HX.out.1.plain (by omega) (by omega)
      have hx1 := HX.out.2.2 _ (List.getElem_mem hkl)
      have e0 : w.cell? ⟨b, off + k, none⟩ = some (.int .u16 (l[k] : Int)) := hc k _ (by unfold u16V; rw [List.getElem?_map, List.getElem?_eq_getElem hkl]; rfl)
      replace e0 := (HT.out.2.2.1.cell (p := ⟨b, off + k, none⟩) hbb).trans e0
      have HS : Hid ((l.take (k + 1)).map (fun x : Nat => ((x % 100 : Nat) : Int)) = (l.take k).map (fun x : Nat => ((x % 100 : Nat) : Int)) ++ [((l[k] % 100 : Nat) : Int)]) := by
        show _ = _
        rw [List.take_succ_eq_append_getElem hkl, List.map_append]
        rfl
      clear hc
      generalize l[k] = x at *
      have hx9 : (x : Int) % 100 = ((x % 100 : Nat) : Int) := by omega
      have hx0 : (0 : Int) ≤ ((x % 100 : Nat) : Int) := by omega
      have hx8 : ((x % 100 : Nat) : Int) < 100 := by omega
      obtain ⟨y, hy⟩ : ∃ y, x % 100 = y := ⟨_, rfl⟩
      rw [hy] at hx9 hx0 hx8 HS
      have HY := Lib.hid hy
      clear hy
      have hbw := HT.out.2.2.1.size
      have hown1 := HT.out.2.1.alloc (.cells #[.int .i64 (y : Int)] 3)
      have hre := elem_reads wr #[.int .i64 (y : Int)] 3
      have HO := Lib.hid (And.intro hown1 hre)
      clear hown1 hre
      go_wp2_with (at_builtin; go_must (refine wpList_append_any (wr.alloc (.cells #[.int .i64 (y : Int)] 3)) rfl (.tmp 15) (.tmp 22) _ rfl w.heap.size 3 i2 _ 1 8 Try.underlying40 HI.out.1 HI.out.2.1 HI.out.2.2.1 HI.out.2.2.2 rfl (by omega) (.slice A3 ts.length c3) ts.length (intsV ts) rfl HO.out.1 (wr.heap.size + 1) (some ⟨wr.heap.size, 0, none⟩) 1 1 [.int .i64 (y : Int)] rfl HO.out.2 (by simp [Value.oneCell']) (by simp only [maxLen]; omega) (by omega) (by rw [World.size_alloc]; omega) ?_; intro v3 w3 ho3 hg3 hv3))
      go_roundw
      case rel =>
        refine ⟨k + 1, ts ++ [(y : Int)], by omega, by omega, by go_num, ?_, ?_, ?_⟩
        · rw [HS.out, HT.out.1]
        · have h : intsV (ts ++ [(y : Int)]) = intsV ts ++ [.int .i64 (y : Int)] := by simp [intsV]
          rw [h, List.length_append]
          exact ho3
        · exact (HT.out.2.2.1.alloc (by omega) _).grown hg3 (by rw [World.size_alloc]; omega) (own_block_ge HO.out.1)
      case measure => simp [intOf]; omega
    · by_cases hkm : k < m
      · have hk3 : k = 30 := by omega
        have a1 : (k : Int) < m := by omega
        have a2 : ¬ (k : Int) < 30 := by omega
        have a3 := Lib.hid hk3
        clear hk3
        go_wp2_with fail
        go_ret
        have e1 := HT.out.1
        rw [a3.out] at e1
        have e2 : timesM l = ts := e1.symm
        rw [e2]
        exact ⟨HT.out.2.2.1, A3, c3, rfl, HT.out.2.2.2.2.2⟩
      · have a1 : ¬ (k : Int) < m := by omega
        have a3 := Lib.hid (show k = m by omega)
        go_wp2_with fail
        go_ret
        have e2 : timesM l = ts := by
          have e1 := HT.out.1
          have h3 := HX.out.2.1
          have h4 := a3.out
          rw [e1]
          unfold timesM
          rw [List.take_of_length_le (by omega), List.take_of_length_le (by omega)]
        rw [e2]
        exact ⟨HT.out.2.2.1, A3, c3, rfl, HT.out.2.2.2.2.2⟩
end Go.Proofs.Ytknedclejhiegaa
