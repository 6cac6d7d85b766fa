/- The walks of Decode and its deferred closure. Condition: at most 2000 sectors. -/
import Derived.Test.YtbiiahbhgjjhgaaWj
import Derived.Test.YtbiiahbhgjjhgaaLibP
import Derived.Recover
import Derived.Defers
import Derived.Tactics2
import Derived.Laws.Pointers
namespace Go.Proofs.Ytbiiahbhgjjhgaa
open Go.RowKit
theorem assert65 (v : Value) (w : World) : (Instr.typeAssert (.iface 65 v) 20 65 true).run Try.prog w = .ok (.tuple #[v, .bool true]) w := by
  simp [Instr.typeAssert, Sem.run_bind, run_underlying Try.underlying65]
set_option linter.unusedSimpArgs false in
theorem catch_panic (n : Nat) (e : Int) (r0 r1 r2 r3 r4 : Value) (older : List PanicEntry) (w : World) (h0 : Blk w n 27 #[r0, r1, r2]) (h1 : Blk w (n + 1) 3 #[r3]) (h2 : Blk w (n + 2) 29 #[r4]) :
    CallsD Try.prog 29 #[.pointer (some ⟨n, 0, none⟩), .pointer (some ⟨n + 1, 0, none⟩), .pointer (some ⟨n + 2, 0, none⟩)] (.panicking ({ v := .iface 65 (.agg #[.int .i64 e]), recovered := false } :: older)) w fun r u' w' =>
      r = .returned (.tuple #[]) ∧ u' = .panicking ({ v := .iface 65 (.agg #[.int .i64 e]), recovered := true } :: older) ∧ Below n w w' ∧ Blk w' n 27 #[.int .i64 0, .int .i64 0, .slice none 0 0] ∧ Blk w' (n + 1) 3 #[.int .i64 0] ∧ Blk w' (n + 2) 29 #[.int .i64 e] := by
  have hta := assert65
  have a0 := h0.cell 0
  have a1 := h0.cell 1
  have a2 := h0.cell 2
  have a3 := h1.cell 0
  have a4 := h2.cell 0
  have z0 := h0.frozen 0
  have z1 := h0.frozen 1
  have z2 := h0.frozen 2
  have z3 := h1.frozen 0
  have z4 := h2.frozen 0
  have l2 := h2.lt
  change w.cell? ⟨n, 0, none⟩ = some r0 at a0
  change w.cell? ⟨n, 1, none⟩ = some r1 at a1
  change w.cell? ⟨n, 2, none⟩ = some r2 at a2
  change w.cell? ⟨n + 1, 0, none⟩ = some r3 at a3
  change w.cell? ⟨n + 2, 0, none⟩ = some r4 at a4
  refine callsD_of_wpS Try.func29 rfl fun c₀ cs hu => ?_
  apply wpS_seq
  apply wpS_region
  simp [wpOpsS, go_sem, recoverD, hu, Try.ntmps29, Exit.thenS]
  refine wpS_of_wp ?_
  simp only [List.size_toArray, List.length_cons, List.length_nil, Nat.reduceAdd, Nat.reduceSub, Array.replicate_succ, Array.replicate_zero, List.push_toArray, List.append_toArray, List.nil_append, List.cons_append, List.setIfInBounds_toArray, List.set_cons_zero, List.set_cons_succ]
  go_wp2
  refine ⟨rfl, _, rfl, _, by simp [results, Try.results29], rfl, rfl, ?_, ?_, ?_, ?_⟩
  · exact ((((((((Below.refl n w).setCell (p := ⟨n, 0, none⟩) (Nat.le_refl _) _).setCell (p := ⟨n, 1, none⟩) (Nat.le_refl _) _).setCell (p := ⟨n, 2, none⟩) (Nat.le_refl _) _).setCell (p := ⟨n + 1, 0, none⟩) (by dsimp only; omega) _).setCell (p := ⟨n + 2, 0, none⟩) (by dsimp only; omega) _).setCell (p := ⟨n + 2, 0, none⟩) (by dsimp only; omega) _).alloc (by simp; omega) _)
  · exact (((((((h0.set_ 0 _).set_ 1 _).set_ 2 _).far (p := ⟨n + 1, 0, none⟩) (by dsimp only; omega) _).far (p := ⟨n + 2, 0, none⟩) (by dsimp only; omega) _).far (p := ⟨n + 2, 0, none⟩) (by dsimp only; omega) _).alloc _)
  · exact (((((((h1.far (p := ⟨n, 0, none⟩) (by dsimp only; omega) _).far (p := ⟨n, 1, none⟩) (by dsimp only; omega) _).far (p := ⟨n, 2, none⟩) (by dsimp only; omega) _).set_ 0 _).far (p := ⟨n + 2, 0, none⟩) (by dsimp only; omega) _).far (p := ⟨n + 2, 0, none⟩) (by dsimp only; omega) _).alloc _)
  · exact (((((((h2.far (p := ⟨n, 0, none⟩) (by dsimp only; omega) _).far (p := ⟨n, 1, none⟩) (by dsimp only; omega) _).far (p := ⟨n, 2, none⟩) (by dsimp only; omega) _).far (p := ⟨n + 1, 0, none⟩) (by dsimp only; omega) _).set_ 0 _).set_ 0 _).alloc _)
set_option linter.unusedSimpArgs false in
theorem catch_idle (p q r : Value) (w : World) :
    CallsD Try.prog 29 #[p, q, r] .returning w fun e u' w' => e = .returned (.tuple #[]) ∧ u' = .returning ∧ w' = w := by
  refine callsD_of_wpS Try.func29 rfl fun c₀ cs hu => ?_
  apply wpS_seq
  apply wpS_region
  simp [wpOpsS, go_sem, recoverD, hu, Try.ntmps29, Exit.thenS]
  refine wpS_of_wp ?_
  simp only [List.size_toArray, List.length_cons, List.length_nil, Nat.reduceAdd, Nat.reduceSub, Array.replicate_succ, Array.replicate_zero, List.push_toArray, List.append_toArray, List.nil_append, List.cons_append, List.setIfInBounds_toArray, List.set_cons_zero, List.set_cons_succ]
  go_wp2
  cases c₀
  simp_all [bodyPostS, results, Try.results29]
/-- what Decode leaves -/
structure DecR (w : World) (d : Dec) (e : Ending) (w' : World) : Prop where
  bel : Below w.heap.size w w'
  val : ∃ A c, e = .returned (.tuple #[.agg #[.int .i64 (d.k : Nat), .int .i64 (d.q : Nat), .slice A d.p.length c], .int .i64 (d.n : Nat), .int .i64 (d.e : Nat)]) ∧ Reads w' w'.heap.size 1 A d.p.length (u8s d.p) ∧ d.p.length ≤ c ∧ c ≤ maxLen ∧ (∀ ad, 0 < d.p.length → A = some ad → w.heap.size ≤ ad.block)
/-- the deferred call of Decode -/
def dfr (n : Nat) : List Deferred := [{ target := .fn (.func 29) #[.pointer (some ⟨n, 0, none⟩), .pointer (some ⟨n + 1, 0, none⟩), .pointer (some ⟨n + 1 + 1, 0, none⟩)], args := #[] }]
/-- Decode's frame as far as its end reads it -/
structure Frm (n : Nat) (a : Act) : Prop where
  t2 : a.tmps[2]?.getD undef = .pointer (some ⟨n, 0, none⟩)
  t3 : a.tmps[3]?.getD undef = .pointer (some ⟨n + 1, 0, none⟩)
  t4 : a.tmps[4]?.getD undef = .pointer (some ⟨n + 1 + 1, 0, none⟩)
  df : a.defers = dfr n
theorem Frm.unput {n d : Nat} {a : Act} {v : Value} (hd : d ≠ 2 ∧ d ≠ 3 ∧ d ≠ 4) (h : Frm n (a.put (some d) v)) : Frm n a := by
  obtain ⟨h2, h3, h4, h5⟩ := h
  obtain ⟨e2, e3, e4⟩ := hd
  simp only [Act.put, Array.getElem?_setIfInBounds] at h2 h3 h4 h5
  rw [if_neg e2] at h2
  rw [if_neg e3] at h3
  rw [if_neg e4] at h4
  exact ⟨h2, h3, h4, h5⟩
theorem res17 {n : Nat} {tmps : Array Value} {w : World} {x y z u v : Value} (h2 : tmps[2]?.getD undef = .pointer (some ⟨n, 0, none⟩)) (h3 : tmps[3]?.getD undef = .pointer (some ⟨n + 1, 0, none⟩)) (h4 : tmps[4]?.getD undef = .pointer (some ⟨n + 1 + 1, 0, none⟩))
    (k0 : Blk w n 27 #[x, y, z]) (k1 : Blk w (n + 1) 3 #[u]) (k2 : Blk w (n + 1 + 1) 29 #[v]) : (results Try.f17 tmps).run Try.prog w = .ok (.tuple #[.agg #[x, y, z], u, v]) w := by
  have d0 : w.cell? ⟨n, 0, none⟩ = some x := k0.cell 0
  have d1 : w.cell? ⟨n, 1, none⟩ = some y := k0.cell 1
  have d2 : w.cell? ⟨n, 2, none⟩ = some z := k0.cell 2
  have c1 : w.cell? ⟨n + 1, 0, none⟩ = some u := k1.cell 0
  have c2 : w.cell? ⟨n + 1 + 1, 0, none⟩ = some v := k2.cell 0
  simp [results, Try.results17, go_sem, h2, h3, h4, d0, d1, d2, c1, c2]
theorem door_good {n : Nat} {a : Act} {w : World} {x y z u v : Value} {R : Ending → World → Prop} (hf : Frm n a) (k0 : Blk w n 27 #[x, y, z]) (k1 : Blk w (n + 1) 3 #[u]) (k2 : Blk w (n + 1 + 1) 29 #[v])
    (hR : R (.returned (.tuple #[.agg #[x, y, z], u, v])) w) : bodyPostD Try.prog Try.f17 R .ret a w := by
  show Leaves Try.prog Try.f17 a.tmps R a.defers .returning w
  rw [hf.df]
  refine leaves_cons (f := 29) (args := #[.pointer (some ⟨n, 0, none⟩), .pointer (some ⟨n + 1, 0, none⟩), .pointer (some ⟨n + 1 + 1, 0, none⟩)]) (by simp) (by simp [go_sem]) ?_
  refine (catch_idle _ _ _ w).mono ?_
  rintro e u' w' ⟨rfl, rfl, rfl⟩
  exact ⟨_, res17 hf.t2 hf.t3 hf.t4 k0 k1 k2, hR⟩
theorem door_bad {n k : Nat} {a : Act} {w : World} {x y z u v : Value} {R : Ending → World → Prop} (hf : Frm n a) (k0 : Blk w n 27 #[x, y, z]) (k1 : Blk w (n + 1) 3 #[u]) (k2 : Blk w (n + 1 + 1) 29 #[v])
    (hR : ∀ w', Below n w w' → R (.returned (.tuple #[.agg #[.int .i64 0, .int .i64 0, .slice none 0 0], .int .i64 0, .int .i64 (k : Nat)])) w') : bodyPostD Try.prog Try.f17 R (.panic (failV k)) a w := by
  show Leaves Try.prog Try.f17 a.tmps R a.defers (.panicking (failV k)) w
  rw [hf.df]
  refine leaves_cons (f := 29) (args := #[.pointer (some ⟨n, 0, none⟩), .pointer (some ⟨n + 1, 0, none⟩), .pointer (some ⟨n + 1 + 1, 0, none⟩)]) (by simp) (by simp [go_sem]) ?_
  refine (catch_panic n (k : Nat) x y z u v [] w k0 k1 k2).mono ?_
  rintro e u' w' ⟨rfl, rfl, hb, j0, j1, j2⟩
  exact ⟨_, res17 hf.t2 hf.t3 hf.t4 j0 j1 j2, hR w' hb⟩
theorem tailM_ok {st : List Nat} {len q n : Nat} (h : (tailM st len q n).e = 0) : (tailM st len q n).q = q ∧ (tailM st len q n).n = n := by
  unfold tailM at h ⊢
  split
  · split
    · rename_i h1 h2; rw [if_pos h1, if_pos h2] at h; cases h
    · exact ⟨rfl, rfl⟩
  · rename_i h1; rw [if_neg h1] at h; cases h
theorem decR_err {w w' : World} {k : Nat} (hb : Below w.heap.size w w') : DecR w (.err k) (.returned (.tuple #[.agg #[.int .i64 0, .int .i64 0, .slice none 0 0], .int .i64 0, .int .i64 (k : Nat)])) w' :=
  ⟨hb, none, 0, rfl, Reads.none_, Nat.le_refl _, Nat.zero_le _, fun ad h => absurd h (by simp [Dec.err])⟩
set_option linter.unusedSimpArgs false in
set_option maxHeartbeats 2000000 in
theorem Decode_any (n c : Nat) (A : Option Addr) (l : List Sec) (w : World) (hR : Reads w w.heap.size 8 A n (l.flatMap encS)) (hn : n ≤ 2000) (hc : n ≤ c) (hl : ∀ s ∈ l, s.Ok) :
    Calls Try.prog 17 #[.slice A n c] w (DecR w (decM l)) := by
  have hmf : ∀ (fn : Fn) (first cap : Array Value) (w : World), (Instr.makeFunc fn first cap).run Try.prog w = .ok (.func fn first cap) w := fun _ _ _ _ => rfl
  go_enter_defers Try.func17, Try.ntmps17
  go_wp2_with fail
  obtain ⟨W0, hW0⟩ : ∃ W0, (((w.alloc (.cells #[.int .i64 0, .int .i64 0, .slice none 0 0] 27)).alloc (.cells #[.int .i64 0] 3)).alloc (.cells #[.int .i64 0] 29)).alloc (.cells #[.slice none 0 0, .int .i64 0, .int .i64 0] 71) = W0 := ⟨_, rfl⟩
  have hs0 : W0.heap.size = w.heap.size + 1 + 1 + 1 + 1 := by rw [← hW0]; simp
  have k0 : Blk W0 w.heap.size 27 #[.int .i64 0, .int .i64 0, .slice none 0 0] := by rw [← hW0]; exact (((Blk.new w 27 _).alloc _).alloc _).alloc _
  have k1 : Blk W0 (w.heap.size + 1) 3 #[.int .i64 0] := by
    have h := Blk.new (w.alloc (.cells #[.int .i64 0, .int .i64 0, .slice none 0 0] 27)) 3 #[.int .i64 0]
    simp only [World.size_alloc] at h
    rw [← hW0]
    exact (h.alloc _).alloc _
  have k2 : Blk W0 (w.heap.size + 1 + 1) 29 #[.int .i64 0] := by
    have h := Blk.new ((w.alloc (.cells #[.int .i64 0, .int .i64 0, .slice none 0 0] 27)).alloc (.cells #[.int .i64 0] 3)) 29 #[.int .i64 0]
    simp only [World.size_alloc] at h
    rw [← hW0]
    exact h.alloc _
  have k3 : Blk W0 (w.heap.size + 1 + 1 + 1) 71 #[.slice none 0 0, .int .i64 0, .int .i64 0] := by
    have h := Blk.new (((w.alloc (.cells #[.int .i64 0, .int .i64 0, .slice none 0 0] 27)).alloc (.cells #[.int .i64 0] 3)).alloc (.cells #[.int .i64 0] 29)) 71 #[.slice none 0 0, .int .i64 0, .int .i64 0]
    simp only [World.size_alloc] at h
    rw [← hW0]
    exact h
  have hb0 : Below w.heap.size w W0 := by rw [← hW0]; exact ((((Below.refl _ w).alloc (Nat.le_refl _) _).alloc (by simp) _).alloc (by simp; omega) _).alloc (by simp; omega) _
  rw [hW0]
  clear hW0
  refine (begin_any (w.heap.size + 1 + 1 + 1) n c A l W0 k3 ((hR.below hb0).more (by omega)) hn hc hl).mono ?_
  rintro e W1 hb
  have j0 := k0.below hb.bel (by omega)
  have j1 := k1.below hb.bel (by omega)
  have j2 := k2.below hb.bel (by omega)
  have hb1 : Below w.heap.size w W1 := hb0.trans (hb.bel.mono (by omega))
  have hs1 := hb.bel.size
  by_cases hE : begE l = 0
  · cases l with
    | nil => simp [begE] at hE
    | cons s l =>
      obtain ⟨rfl, b, C, hbB, hBb, hC, hL, hRow⟩ := hb.good s l rfl hE
      have hok := begE_zero hE
      have hdec := decM_ok hok
      have hall : (stOf ((s :: l).take (szN (s.f + 256 * s.g)))).length = 4 * szN (s.f + 256 * s.g) := by
        have := hok.all
        rw [stOf_len, List.length_take]
        omega
      have hstb : AllB (stOf ((s :: l).take (szN (s.f + 256 * s.g)))) := by
        intro x hx
        obtain ⟨y, hy, hxy⟩ := List.mem_flatMap.1 hx
        obtain ⟨_, _, _, _, h5, h6, h7, h8⟩ := hl y (List.mem_of_mem_take hy)
        simp [Sec.dat] at hxy
        rcases hxy with rfl | rfl | rfl | rfl <;> assumption
      have hlen : ge (((stOf ((s :: l).take (szN (s.f + 256 * s.g)))).drop 1).take 2) = s.f + 256 * s.g := by
        obtain ⟨m, hm⟩ : ∃ m, szN (s.f + 256 * s.g) = m + 1 := ⟨szN (s.f + 256 * s.g) - 1, by have := szN_pos (s.f + 256 * s.g); omega⟩
        rw [hm, List.take_succ_cons]
        simp [stOf, Sec.dat, ge]
      have h5 := hok.len
      have HS := Lib.hid (And.intro hdec (And.intro hstb (And.intro hlen (And.intro hRow hall))))
      clear hdec hstb hlen hRow hok hE hb hl hR
      have hsz : 7 + (s.f + 256 * s.g) ≤ 4 * szN (s.f + 256 * s.g) := by unfold szN; omega
      have hsz2 : 4 * szN (s.f + 256 * s.g) ≤ 8000 := by unfold szN; omega
      generalize stOf ((s :: l).take (szN (s.f + 256 * s.g))) = st at *
      generalize szN (s.f + 256 * s.g) = N at *
      generalize s.f + 256 * s.g = len at *
      generalize s.num = q at *
      rw [← hall] at hL
      have hL2 : W1.cell? ⟨w.heap.size + 1 + 1 + 1, 2, none⟩ = some (.int .i64 (N : Nat)) := by obtain ⟨A9, h9, _⟩ := hL; exact h9.cell 2
      have hB9 := hL.lt
      have hrec := record_any (w.heap.size + 1 + 1 + 1) b C len q N st W1.drew hL HS.out.2.2.2.1 hbB HS.out.2.1 (by omega) (by omega) HS.out.2.2.1 (by omega)
      have HREC := Lib.hid hrec
      have HJ := Lib.hid (And.intro j0 (And.intro j1 (And.intro j2 hb1)))
      clear hrec hL j0 j1 j2 hb1 k0 k1 k2 k3 hb0
      go_wp2_with fail
      refine wp_pan (Pc := fun ch a w9 => Frm w.heap.size a ∧ ch = failV (tailM st len q N).e ∧ (tailM st len q N).e ≠ 0 ∧ Below (w.heap.size + 1 + 1 + 1) W1 w9) ?_ ?_
      · rintro ch a w9 ⟨hf, rfl, he, hb9⟩
        have hT : tailM st len q N = .err (tailM st len q N).e := by
          unfold tailM at he ⊢
          split
          · split
            · rfl
            · rename_i h1 h2; rw [if_pos h1, if_neg h2] at he; exact absurd rfl he
          · rfl
        obtain ⟨j0, j1, j2, hb1⟩ := HJ.out
        refine door_bad hf (j0.below hb9 (by omega)) (j1.below hb9 (by omega)) (j2.below hb9 (by omega)) (fun w' hb' => ?_)
        rw [HS.out.1, hT]
        exact decR_err ((hb1.trans (hb9.mono (by omega))).trans hb')
      · refine wp_region_tail_lit (S := fun w' => w'.cell? ⟨w.heap.size + 1 + 1 + 1, 2, none⟩ = some (.int .i64 (N : Nat))) 7 (by kernel_rfl) (by kernel_rfl) hL2 (fun hHeld => ?_)
        simp only [List.take, List.drop]
        refine wpAnyH_take (i := 0) (oi := _) (v := ?_) rfl (by kernel_rfl) (by kernel_rfl) (by kernel_rfl) (fun _ _ _ h => ⟨Frm.unput (by decide) h.1, h.2⟩) (Or.inl ⟨by rfl, ?_⟩) (by assumption) ?_
        rotate_left 1
        · (intro w9 hS9; (try dsimp only at hS9); go_simp <;> with_reducible rfl)
        try simp only [List.getElem_toArray, List.getElem_cons_succ, List.getElem_cons_zero, Act.put, List.setIfInBounds_toArray, List.set_cons_zero, List.set_cons_succ]
        refine wpAnyH_take (i := 2) (oi := _) (v := ?_) rfl (by kernel_rfl) (by kernel_rfl) (by kernel_rfl) (fun _ _ _ h => ⟨Frm.unput (by decide) h.1, h.2⟩) (Or.inl ⟨by rfl, ?_⟩) (by assumption) ?_
        rotate_left 1
        · (intro w9 hS9; (try dsimp only at hS9); go_simp <;> with_reducible rfl)
        try simp only [List.getElem_toArray, List.getElem_cons_succ, List.getElem_cons_zero, Act.put, List.setIfInBounds_toArray, List.set_cons_zero, List.set_cons_succ]
        refine wpAnyH_take (i := 3) (oi := _) (v := ?_) rfl (by kernel_rfl) (by kernel_rfl) (by kernel_rfl) (fun _ _ _ h => ⟨Frm.unput (by decide) h.1, h.2⟩) (Or.inl ⟨by rfl, ?_⟩) (by assumption) ?_
        rotate_left 1
        · (intro w9 hS9; (try dsimp only at hS9); go_simp <;> with_reducible rfl)
        try simp only [List.getElem_toArray, List.getElem_cons_succ, List.getElem_cons_zero, Act.put, List.setIfInBounds_toArray, List.set_cons_zero, List.set_cons_succ]
        refine wpAnyH_take (i := 4) (oi := _) (v := ?_) rfl (by kernel_rfl) (by kernel_rfl) (by kernel_rfl) (fun _ _ _ h => ⟨Frm.unput (by decide) h.1, h.2⟩) (Or.inl ⟨by rfl, ?_⟩) (by assumption) ?_
        rotate_left 1
        · (intro w9 hS9; (try dsimp only at hS9); go_simp <;> with_reducible rfl)
        try simp only [List.getElem_toArray, List.getElem_cons_succ, List.getElem_cons_zero, Act.put, List.setIfInBounds_toArray, List.set_cons_zero, List.set_cons_succ]
        refine wpAnyH_take (i := 5) (oi := _) (v := ?_) rfl (by kernel_rfl) (by kernel_rfl) (by kernel_rfl) (fun _ _ _ h => ⟨Frm.unput (by decide) h.1, h.2⟩) (Or.inl ⟨by rfl, ?_⟩) (by assumption) ?_
        rotate_left 1
        · (intro w9 hS9; (try dsimp only at hS9); go_simp <;> with_reducible rfl)
        try simp only [List.getElem_toArray, List.getElem_cons_succ, List.getElem_cons_zero, Act.put, List.setIfInBounds_toArray, List.set_cons_zero, List.set_cons_succ]
        refine wpAnyH_ready (rs := [1]) (by kernel_rfl) (by simp) ?_
        refine AllReadyH.cons (o := _) rfl (fun K hK => ?_) AllReadyH.nil
        try simp only [List.getElem_toArray, List.getElem_cons_succ, List.getElem_cons_zero]
        go_simp
        refine HREC.out.mono ?_
        rintro e W2 hr
        by_cases he : (tailM st len q N).e = 0
        · obtain ⟨v9, hsec⟩ := hr.sect he
          obtain ⟨A2, c2, rfl, hR2, hc2, hm2, hn2⟩ := hr.good he
          have hbr : Below (w.heap.size + 1 + 1 + 1) W1 W2 := (Below.refl _ W1).drew.trans hr.bel
          obtain ⟨j0, j1, j2, hb1⟩ := HJ.out
          have i0 := j0.below hbr (by omega)
          have i1 := j1.below hbr (by omega)
          have i2 := j2.below hbr (by omega)
          have hb2 : Below w.heap.size w W2 := hb1.trans (hbr.mono (by omega))
          have hsz3 : W1.heap.size ≤ W2.heap.size := hbr.size
          generalize hd : tailM st len q N = d at *
          have HD := Lib.hid (And.intro hd (And.intro hR2 (And.intro hc2 (And.intro hm2 hn2))))
          have HI := Lib.hid (And.intro i0 (And.intro i1 (And.intro i2 hb2)))
          have x0 : W2.cell? ⟨w.heap.size, 0, none⟩ = some (.int .i64 0) := i0.cell 0
          have x1 : W2.cell? ⟨w.heap.size, 1, none⟩ = some (.int .i64 0) := i0.cell 1
          have x2 : W2.cell? ⟨w.heap.size, 2, none⟩ = some (.slice none 0 0) := i0.cell 2
          have x3 : W2.cell? ⟨w.heap.size + 1, 0, none⟩ = some (.int .i64 0) := i1.cell 0
          have x4 : W2.cell? ⟨w.heap.size + 1 + 1, 0, none⟩ = some (.int .i64 0) := i2.cell 0
          have y0 := i0.frozen 0
          have y1 := i0.frozen 1
          have y2 := i0.frozen 2
          have y3 := i1.frozen 0
          have y4 := i2.frozen 0
          have hS2 : W2.cell? ⟨w.heap.size + 1 + 1 + 1, 2, none⟩ = some (.int .i64 (N : Nat)) := hsec.cell 2
          clear j0 j1 j2 hb1 i0 i1 i2 hb2 hbr hR2 hc2 hm2 hn2 hr hsec
          go_wp2_with fail
          refine hK.out _ _ hS2 (fun hHeld => ?_)
          clear hK K
          try simp only [List.getElem_toArray, List.getElem_cons_succ, List.getElem_cons_zero, Act.put, List.setIfInBounds_toArray, List.set_cons_zero, List.set_cons_succ]
          refine wpAnyH_ready (rs := [6]) (by kernel_rfl) (by simp) ?_
          refine AllReadyH.cons (o := _) rfl (fun K hK => ?_) AllReadyH.nil
          try simp only [List.getElem_toArray, List.getElem_cons_succ, List.getElem_cons_zero]
          go_simp
          have hS3 : (((W2.setCell ⟨w.heap.size, 0, none⟩ (.int .i64 (d.k : Nat))).setCell ⟨w.heap.size, 1, none⟩ (.int .i64 (q : Nat))).setCell ⟨w.heap.size, 2, none⟩ (.slice A2 d.p.length c2)).cell? ⟨w.heap.size + 1 + 1 + 1, 2, none⟩ = some (.int .i64 (N : Nat)) := by
            rw [World.cell?_setCell_other _ _ _ _ (fun e => by injection e with e1; omega), World.cell?_setCell_other _ _ _ _ (fun e => by injection e with e1; omega), World.cell?_setCell_other _ _ _ _ (fun e => by injection e with e1; omega)]
            exact hS2
          refine hK.out _ _ hS3 (fun hHeld => ?_)
          clear hK K
          try simp only [List.getElem_toArray, List.getElem_cons_succ, List.getElem_cons_zero, Act.put, List.setIfInBounds_toArray, List.set_cons_zero, List.set_cons_succ]
          refine wpAnyH_done (by kernel_rfl) ?_ _
          refine tailQ_step rfl ?_
          go_wp2_with fail
          refine tailQ_step rfl ?_
          go_wp2_with fail
          refine tailQ_nil (panQ_normal ?_)
          go_wp2_with fail
          obtain ⟨i0, i1, i2, hb2⟩ := HI.out
          have hok := tailM_ok (st := st) (len := len) (q := q) (n := N) (by rw [HD.out.1]; exact he)
          rw [HD.out.1] at hok
          have m0 := ((((i0.set_ 0 (.int .i64 (d.k : Nat))).set_ 1 (.int .i64 (q : Nat))).set_ 2 (.slice A2 d.p.length c2)).far (p := ⟨w.heap.size + 1, 0, none⟩) (by dsimp only; omega) (.int .i64 (N : Nat))).far (p := ⟨w.heap.size + 1 + 1, 0, none⟩) (by dsimp only; omega) (.int .i64 0)
          have m1 := ((((i1.far (p := ⟨w.heap.size, 0, none⟩) (by dsimp only; omega) (.int .i64 (d.k : Nat))).far (p := ⟨w.heap.size, 1, none⟩) (by dsimp only; omega) (.int .i64 (q : Nat))).far (p := ⟨w.heap.size, 2, none⟩) (by dsimp only; omega) (.slice A2 d.p.length c2)).set_ 0 (.int .i64 (N : Nat))).far (p := ⟨w.heap.size + 1 + 1, 0, none⟩) (by dsimp only; omega) (.int .i64 0)
          have m2 := ((((i2.far (p := ⟨w.heap.size, 0, none⟩) (by dsimp only; omega) (.int .i64 (d.k : Nat))).far (p := ⟨w.heap.size, 1, none⟩) (by dsimp only; omega) (.int .i64 (q : Nat))).far (p := ⟨w.heap.size, 2, none⟩) (by dsimp only; omega) (.slice A2 d.p.length c2)).far (p := ⟨w.heap.size + 1, 0, none⟩) (by dsimp only; omega) (.int .i64 (N : Nat))).set_ 0 (.int .i64 0)
          refine door_good (n := w.heap.size) ⟨rfl, rfl, rfl, rfl⟩ m0 m1 m2 ?_
          rw [HS.out.1]
          refine ⟨?_, A2, c2, by rw [hok.1, hok.2, he]; rfl, ?_, HD.out.2.2.1, HD.out.2.2.2.1, fun ad h0 h1 => Nat.le_trans (by simp only [World.size_drew]; omega) (HD.out.2.2.2.2 ad h0 h1)⟩
          · exact ((((hb2.setCell (p := ⟨w.heap.size, 0, none⟩) (Nat.le_refl _) _).setCell (p := ⟨w.heap.size, 1, none⟩) (Nat.le_refl _) _).setCell (p := ⟨w.heap.size, 2, none⟩) (Nat.le_refl _) _).setCell (p := ⟨w.heap.size + 1, 0, none⟩) (by dsimp only; omega) _).setCell (p := ⟨w.heap.size + 1 + 1, 0, none⟩) (by dsimp only; omega) _
          · refine ⟨HD.out.2.1.1, fun h0 => ?_⟩
            obtain ⟨ad, e1, e2, e3⟩ := HD.out.2.1.2 h0
            have hnew := HD.out.2.2.2.2 ad h0 e1
            have hnew' : w.heap.size + 1 + 1 < ad.block := Nat.lt_of_lt_of_le (by simp only [World.size_drew]; omega) hnew
            refine ⟨ad, e1, by simpa using e2, fun j u hu => ?_⟩
            have hne : ∀ (g o : Nat), g ≤ w.heap.size + 1 + 1 → (⟨g, o, none⟩ : Addr) ≠ ad.add j := fun g o hg e => by
              have e5 := congrArg Addr.block e
              rw [block_of_add] at e5
              dsimp only at e5
              omega
            rw [World.cell?_setCell_other _ _ _ _ (hne _ _ (by omega)), World.cell?_setCell_other _ _ _ _ (hne _ _ (by omega)), World.cell?_setCell_other _ _ _ _ (hne _ _ (by omega)), World.cell?_setCell_other _ _ _ _ (hne _ _ (by omega)), World.cell?_setCell_other _ _ _ _ (hne _ _ (by omega))]
            exact e3 j u hu
        · obtain rfl := hr.bad he
          go_wp2_with fail
          exact ⟨⟨rfl, rfl, rfl, rfl⟩, rfl, (Below.refl _ W1).drew.trans hr.bel⟩
  · obtain rfl := hb.bad hE
    rw [decM_err hE]
    refine door_bad (n := w.heap.size) ⟨rfl, rfl, rfl, rfl⟩ j0 j1 j2 (fun w' hb' => ?_)
    exact decR_err (hb1.trans hb')
end Go.Proofs.Ytbiiahbhgjjhgaa
