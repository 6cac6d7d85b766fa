/- The walk of extend, in the same epoch; of Isolate. No condition. -/
import Derived.Test.YthkajcioeemilaaWg
namespace Go.Proofs.Ythkajcioeemilaa
open Go.RowKit
set_option linter.unusedSimpArgs false in
set_option maxRecDepth 100000 in
set_option maxHeartbeats 4000000 in
theorem extSame_ok (w W : World) (tb : Nat) (s : Si) (l0 : List Sp) (x : Sp) (e b n : Int) (h : TrI w tb s W) (hl : s.l = l0 ++ [x]) (he : x.e = e) (hn : s.l.length ≤ 100) : Calls Try.prog 24 #[.pointer (some ⟨tb, 0, none⟩), .int .i64 e, .int .i64 b, .int .i64 n] W fun y W' => y = .returned (.tuple #[]) ∧ TrI w tb { s with l := l0 ++ [⟨x.e, x.f, n⟩] } W' := by
  obtain ⟨A, c, hB, hL⟩ := h.blk
  have hgl := hB.lt
  obtain ⟨num, role, ep, ap, l, src, al, co⟩ := s
  dsimp only at hl hn
  subst hl
  obtain ⟨m, hm⟩ : ∃ m, l0.length = m := ⟨_, rfl⟩
  have hlen : (l0 ++ [x]).length = m + 1 := by rw [List.length_append, List.length_singleton, hm]
  have f0 := flatMap_at (E := encSp) (sz := 3) (fun _ => rfl) (l0 ++ [x]) l0.length 0 (by simp) (by omega)
  have f2 := flatMap_at (E := encSp) (sz := 3) (fun _ => rfl) (l0 ++ [x]) l0.length 2 (by simp) (by omega)
  rw [List.getElem_concat_length rfl] at f0 f2
  have hset := set_last l0 x n
  rw [hm] at f0 f2 hset
  have hB2 : Blk W tb 60 #[.int .i64 num, .int .i64 role, .int .i64 ep, .int .i64 ap, .slice A (m + 1) c, .int .i64 src, .bool al, .bool co, .int .i64 0] := by rw [← hlen]; exact hB
  have hL2 : W.ownsRow w.heap.size 65 3 (.slice A (m + 1) c) (m + 1) ((l0 ++ [x]).flatMap encSp) := by rw [← hlen]; exact hL
  clear hB hL
  rw [hlen] at hn
  obtain ⟨g, cap, cur, hv, hgw, hBg, _⟩ := own_blk hL2 (by omega)
  injection hv with hA _ hc
  subst hA hc
  have c0 := own_cell hL2 (m * 3) (.int .i64 x.e) (by rw [← Nat.add_zero (m * 3), f0]; rfl)
  have c2 := own_cell hL2 (m * 3 + 2) (.int .i64 x.t) (by rw [f2]; rfl)
  have hgl2 := hBg.lt
  have hne : g ≠ tb := tag_ne hL2 hB2 (by decide) g rfl
  have x4 : W.cell? ⟨tb, 4, none⟩ = some (.slice (some ⟨g, 0, none⟩) (m + 1) c) := hB2.cell 4
  have hos := own_set hL2 (m * 3 + 2) (.int .i64 n)
  rw [hset] at hos
  have hBs := hB2.far (p := ⟨g, m * 3 + 2, none⟩) (Ne.symm hne) (.int .i64 n)
  have HF := Lib.hid (And.intro hos (And.intro hBs (And.intro hm (And.intro (h.bel.setCell (p := ⟨g, m * 3 + 2, none⟩) hgw (.int .i64 n)) h.gw))))
  obtain ⟨c0, _⟩ := c0
  obtain ⟨c2, z2⟩ := c2
  clear hos hBs hm hset f0 f2 hlen hL2 hB2 hBg hne h hgw
  have kw : IntKind.i64.wrap (((m + 1 : Nat) : Int) - 1) = (m : Int) := by rw [show ((m + 1 : Nat) : Int) - 1 = m by omega]; exact IntWalk.i64_in _ (by omega)
  have kz : (0 : Int) < ((m + 1 : Nat) : Int) := by omega
  have ki : (m : Int) < ((m + 1 : Nat) : Int) := by omega
  obtain ⟨xe, xf, xt⟩ := x
  dsimp only at he c0 c2 HF ⊢
  subst he
  go_enter Try.func24, Try.ntmps24
  go_wp2_with fail
  have hl9 : (l0 ++ [(⟨xe, xf, n⟩ : Sp)]).length = m + 1 := by rw [List.length_append, List.length_singleton, HF.out.2.2.1]
  refine bodyPost_ret (v := .tuple #[]) (by simp [results, Try.f24, go_sem]) rfl ⟨rfl, ⟨some ⟨g, 0, none⟩, c, ?_, ?_⟩, HF.out.2.2.2.2, HF.out.2.2.2.1⟩
  · unfold trV
    dsimp only
    rw [hl9]
    exact HF.out.2.1
  · dsimp only
    rw [hl9]
    exact HF.out.1
def siC (s : Si) (A : Option Addr) (c : Nat) : List Value := [.int .i64 s.num, .int .i64 s.role, .int .i64 s.ep, .int .i64 s.ap, .slice A s.l.length c, .int .i64 s.src, .bool s.al, .bool s.co]
end Go.Proofs.Ythkajcioeemilaa
