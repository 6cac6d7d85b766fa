/- The walk of admit. Condition: at most 1000 marks. -/
import Derived.Test.YthkpkjigfaannaaWe
import Derived.Test.YthkpkjigfaannaaLibT
import Derived.Test.YthkpkjigfaannaaLibU
import Derived.Test.YthkpkjigfaannaaLibC
import Derived.Test.YthkpkjigfaannaaLibE
namespace Go.Proofs.Ythkpkjigfaannaa
open Go.RowKit
/-- the marks behind an admission -/
def admL (t b k : Int) (l : List Mk) : List Mk := if l ≠ [] ∧ (lastM ⟨-1, 0⟩ l).t = t then l.set (l.length - 1) ⟨t, totM l + k⟩ else l.drop (openM (totM l - b) l) ++ [⟨t, totM l + k⟩]
theorem encM_drop (l : List Mk) (q : Nat) (a b : Int) : (l.flatMap encM).drop (q * 2) ++ (#[Value.int .i64 a, .int .i64 b] : Array Value).toList = (l.drop q ++ [(⟨a, b⟩ : Mk)]).flatMap encM := by
  rw [List.flatMap_append]
  congr 1
  induction l generalizing q with
  | nil => simp
  | cons m l ih =>
    cases q with
    | zero => simp
    | succ q =>
      rw [List.flatMap_cons, List.drop_succ_cons, ← ih q, Nat.succ_mul]
      simp [encM]
set_option linter.unusedSimpArgs false in
set_option maxRecDepth 100000 in
set_option maxHeartbeats 4000000 in
theorem admit_any (P : Nat) (o r t b k : Int) (A : Option Addr) (n c : Nat) (l : List Mk) (w : World) (hP : Blk w P 76 #[.int .i64 o, .int .i64 r, .int .i64 t, .int .i64 b, .slice A n c])
    (hown : w.ownsRow (P + 1) 74 2 (.slice A n c) n (l.flatMap encM)) (hn : n ≤ 1000) (k0 : 0 ≤ k) (k1 : k ≤ 4096) (hb0 : 0 ≤ b) (hb1 : b ≤ totM l) (ht : totM l ≤ 1073741824) :
    Calls Try.prog 35 #[.pointer (some ⟨P, 0, none⟩), .int .i64 k] w fun e w' => e = .returned (.int .i64 (if totM l + k ≤ 1073741824 then 0 else 11)) ∧ Below P w w' ∧
      (totM l + k ≤ 1073741824 → ∃ A' n' c', Blk w' P 76 #[.int .i64 o, .int .i64 r, .int .i64 t, .int .i64 (b + k), .slice A' n' c'] ∧ RdM w' A' n' (admL t b k l) ∧ n' ≤ c' ∧ c' ≤ maxLen ∧ ∀ ad, A' = some ad → P < ad.block) := by
  have hlP := hP.lt
  obtain ⟨_, _, hAc, hnc, hcm, hR⟩ := own_slice hown
  injection hAc with eA _ ec
  subst eA ec
  have hR : RdM w A n l := hR
  have HL := Lib.hid hR.len
  obtain ⟨a0, a1, a2, a3, a4, _⟩ := blk5 (Below.refl _ w) hP hlP
  have HP := Lib.hid hP
  have HR := Lib.hid hR
  have HO := Lib.hid hown
  have hTo := total_any o r t b A n c l w hR hn
  have hCo := fun w9 (h9 : Below w.heap.size w w9) => confirmed_any o r t b A n c l w9 (hR.up h9) hn hb0 (by omega) (by omega) ht
  have hOp := fun x w9 (h9 : Below w.heap.size w w9) => open_any o r t b A n c l x w9 (hR.up h9) hn
  obtain ⟨T, hTT⟩ : ∃ T, totM l = T := ⟨_, rfl⟩
  have HTT := Lib.hid hTT
  rw [hTT] at hTo hCo hb1 ht ⊢
  have HTo := Lib.hid hTo
  clear hP hR hown hTT hTo
  obtain ⟨i0, hi0, hz0, hz1, hz2⟩ := info_parts info74
  have HI := Lib.hid (And.intro hi0 (And.intro hz0 (And.intro hz1 hz2)))
  clear hi0 hz0 hz1 hz2
  by_cases hT : T + k ≤ 1073741824
  · rw [if_pos hT]
    rcases HO.out.2 with ⟨hv, _⟩ | ⟨g, cap, cur, hv, hPg, hcur, _, _, hcs, hct⟩
    · injection hv with eA en ec
      subst eA en ec
      have HLN := Lib.hid (List.eq_nil_of_length_eq_zero HL.out)
      go_enter Try.func35, Try.ntmps35
      go_wp2_with fail
      refine HTo.out.mono ?_
      rintro e w1 ⟨rfl, hb1⟩
      have HB1 := Lib.hid hb1
      obtain ⟨f0, f1, f2, f3, f4, _⟩ := blk5 hb1 HP.out hlP
      have l1 : P < w1.heap.size := Nat.lt_of_lt_of_le hlP hb1.size
      clear hb1
      go_wp2_with fail
      go_quiet (fail)
      go_wp2_with fail
      have hbX : Below w.heap.size w (w1.drewN nq) := below_drewN HB1.out _
      have HKX := Lib.hid (HP.out.below hbX hlP)
      clear HB1 f0 f1 f2 f3 f4 l1
      generalize w1.drewN nq = X0 at *
      have hPX : P + 1 ≤ X0.heap.size := Nat.le_trans hlP hbX.size
      have hq0 : openM (T - b) l ≤ 0 := by rw [← HL.out]; exact openM_le _ _
      obtain ⟨q, hq⟩ : ∃ q, openM (T - b) l = q := ⟨_, rfl⟩
      have hOq := hOp (T - b)
      rw [hq] at hOq hq0
      obtain rfl : q = 0 := by omega
      have HQ := Lib.hid hq
      have HCo := Lib.hid (fun w9 (h9 : Below X0.heap.size X0 w9) => hCo w9 (hbX.trans (h9.mono hbX.size)))
      have HOp := Lib.hid (fun w9 (h9 : Below X0.heap.size X0 w9) => hOq w9 (hbX.trans (h9.mono hbX.size)))
      clear hCo hOp hOq hq
      have hst : Below X0.heap.size X0 X0.drew := (Below.refl _ X0).drew
      refine wp_region_snoc_lit (S := fun w' => w'.cell? ⟨P, 0, none⟩ = some (.int .i64 o) ∧ w'.cell? ⟨P, 1, none⟩ = some (.int .i64 r) ∧ w'.cell? ⟨P, 2, none⟩ = some (.int .i64 t) ∧ w'.cell? ⟨P, 3, none⟩ = some (.int .i64 b) ∧ w'.cell? ⟨P, 4, none⟩ = some (.slice none 0 0) ∧ Below (P + 1) X0 w') _ rfl (by kernel_rfl) (by kernel_rfl) (blk5 ((Below.refl (P + 1) X0).drew) HKX.out (Nat.lt_succ_self P)) (fun hHeld => ?_)
      simp only [List.dropLast]
      refine wpAnyH_take (i := 0) (oi := _) (v := ?_) rfl (by kernel_rfl) (by kernel_rfl) (by kernel_rfl) (fun _ _ _ h => h) (Or.inl ⟨by rfl, ?_⟩) (by assumption) ?_
      rotate_left 1
      · (intro w9 hS9; (try dsimp only at hS9); go_simp <;> with_reducible rfl)
      try simp only [List.getElem_toArray, List.getElem_cons_succ, List.getElem_cons_zero, Act.put, List.setIfInBounds_toArray, List.set_cons_zero, List.set_cons_succ]
      refine wpAnyH_take (i := 1) (oi := _) (v := ?_) rfl (by kernel_rfl) (by kernel_rfl) (by kernel_rfl) (fun _ _ _ h => h) (Or.inl ⟨by rfl, ?_⟩) (by assumption) ?_
      rotate_left 1
      · (intro w9 hS9; (try dsimp only at hS9); go_simp <;> with_reducible rfl)
      try simp only [List.getElem_toArray, List.getElem_cons_succ, List.getElem_cons_zero, Act.put, List.setIfInBounds_toArray, List.set_cons_zero, List.set_cons_succ]
      refine wpAnyH_take (i := 2) (oi := _) (v := ?_) rfl (by kernel_rfl) (by kernel_rfl) (by kernel_rfl) (fun _ _ _ h => h) (Or.inl ⟨by rfl, ?_⟩) (by assumption) ?_
      rotate_left 1
      · (intro w9 hS9; (try dsimp only at hS9); go_simp <;> with_reducible rfl)
      try simp only [List.getElem_toArray, List.getElem_cons_succ, List.getElem_cons_zero, Act.put, List.setIfInBounds_toArray, List.set_cons_zero, List.set_cons_succ]
      refine wpAnyH_take (i := 3) (oi := _) (v := ?_) rfl (by kernel_rfl) (by kernel_rfl) (by kernel_rfl) (fun _ _ _ h => h) (Or.inl ⟨by rfl, ?_⟩) (by assumption) ?_
      rotate_left 1
      · (intro w9 hS9; (try dsimp only at hS9); go_simp <;> with_reducible rfl)
      try simp only [List.getElem_toArray, List.getElem_cons_succ, List.getElem_cons_zero, Act.put, List.setIfInBounds_toArray, List.set_cons_zero, List.set_cons_succ]
      refine wpAnyH_take (i := 4) (oi := _) (v := ?_) rfl (by kernel_rfl) (by kernel_rfl) (by kernel_rfl) (fun _ _ _ h => h) (Or.inl ⟨by rfl, ?_⟩) (by assumption) ?_
      rotate_left 1
      · (intro w9 hS9; (try dsimp only at hS9); go_simp <;> with_reducible rfl)
      try simp only [List.getElem_toArray, List.getElem_cons_succ, List.getElem_cons_zero, Act.put, List.setIfInBounds_toArray, List.set_cons_zero, List.set_cons_succ]
      refine wpAnyH_take (i := 5) (oi := _) (v := ?_) rfl (by kernel_rfl) (by kernel_rfl) (by kernel_rfl) (fun _ _ _ h => h) (Or.inl ⟨by rfl, ?_⟩) (by assumption) ?_
      rotate_left 1
      · (intro w9 hS9; (try dsimp only at hS9); go_simp <;> with_reducible rfl)
      try simp only [List.getElem_toArray, List.getElem_cons_succ, List.getElem_cons_zero, Act.put, List.setIfInBounds_toArray, List.set_cons_zero, List.set_cons_succ]
      refine wpAnyH_take (i := 6) (oi := _) (v := ?_) rfl (by kernel_rfl) (by kernel_rfl) (by kernel_rfl) (fun _ _ _ h => h) (Or.inl ⟨by rfl, ?_⟩) (by assumption) ?_
      rotate_left 1
      · (intro w9 hS9; (try dsimp only at hS9); go_simp <;> with_reducible rfl)
      try simp only [List.getElem_toArray, List.getElem_cons_succ, List.getElem_cons_zero, Act.put, List.setIfInBounds_toArray, List.set_cons_zero, List.set_cons_succ]
      refine wpAnyH_take (i := 7) (oi := _) (v := ?_) rfl (by kernel_rfl) (by kernel_rfl) (by kernel_rfl) (fun _ _ _ h => h) (Or.inl ⟨by rfl, ?_⟩) (by assumption) ?_
      rotate_left 1
      · (intro w9 hS9; (try dsimp only at hS9); go_simp <;> with_reducible rfl)
      try simp only [List.getElem_toArray, List.getElem_cons_succ, List.getElem_cons_zero, Act.put, List.setIfInBounds_toArray, List.set_cons_zero, List.set_cons_succ]
      refine wpAnyH_take (i := 8) (oi := _) (v := ?_) rfl (by kernel_rfl) (by kernel_rfl) (by kernel_rfl) (fun _ _ _ h => h) (Or.inl ⟨by rfl, ?_⟩) (by assumption) ?_
      rotate_left 1
      · (intro w9 hS9; (try dsimp only at hS9); go_simp <;> with_reducible rfl)
      try simp only [List.getElem_toArray, List.getElem_cons_succ, List.getElem_cons_zero, Act.put, List.setIfInBounds_toArray, List.set_cons_zero, List.set_cons_succ]
      refine wpAnyH_take (i := 9) (oi := _) (v := ?_) rfl (by kernel_rfl) (by kernel_rfl) (by kernel_rfl) (fun _ _ _ h => h) (Or.inl ⟨by rfl, ?_⟩) (by assumption) ?_
      rotate_left 1
      · (intro w9 hS9; (try dsimp only at hS9); go_simp <;> with_reducible rfl)
      try simp only [List.getElem_toArray, List.getElem_cons_succ, List.getElem_cons_zero, Act.put, List.setIfInBounds_toArray, List.set_cons_zero, List.set_cons_succ]
      refine wpAnyH_take (i := 10) (oi := _) (v := ?_) rfl (by kernel_rfl) (by kernel_rfl) (by kernel_rfl) (fun _ _ _ h => h) (Or.inl ⟨by rfl, ?_⟩) (by assumption) ?_
      rotate_left 1
      · (intro w9 hS9; (try dsimp only at hS9); go_simp <;> with_reducible rfl)
      try simp only [List.getElem_toArray, List.getElem_cons_succ, List.getElem_cons_zero, Act.put, List.setIfInBounds_toArray, List.set_cons_zero, List.set_cons_succ]
      refine wpAnyH_take (i := 11) (oi := _) (v := ?_) rfl (by kernel_rfl) (by kernel_rfl) (by kernel_rfl) (fun _ _ _ h => h) (Or.inl ⟨by rfl, ?_⟩) (by assumption) ?_
      rotate_left 1
      · (intro w9 hS9; (try dsimp only at hS9); go_simp <;> with_reducible rfl)
      try simp only [List.getElem_toArray, List.getElem_cons_succ, List.getElem_cons_zero, Act.put, List.setIfInBounds_toArray, List.set_cons_zero, List.set_cons_succ]
      refine wpAnyH_take (i := 15) (oi := _) (v := ?_) rfl (by kernel_rfl) (by kernel_rfl) (by kernel_rfl) (fun _ _ _ h => h) (Or.inl ⟨by rfl, ?_⟩) (by assumption) ?_
      rotate_left 1
      · (intro w9 hS9; (try dsimp only at hS9); go_simp <;> with_reducible rfl)
      try simp only [List.getElem_toArray, List.getElem_cons_succ, List.getElem_cons_zero, Act.put, List.setIfInBounds_toArray, List.set_cons_zero, List.set_cons_succ]
      refine wpAnyH_take (i := 16) (oi := _) (v := ?_) rfl (by kernel_rfl) (by kernel_rfl) (by kernel_rfl) (fun _ _ _ h => h) (Or.inl ⟨by rfl, ?_⟩) (by assumption) ?_
      rotate_left 1
      · (intro w9 hS9; (try dsimp only at hS9); go_simp <;> with_reducible rfl)
      try simp only [List.getElem_toArray, List.getElem_cons_succ, List.getElem_cons_zero, Act.put, List.setIfInBounds_toArray, List.set_cons_zero, List.set_cons_succ]
      refine wpAnyH_take (i := 17) (oi := _) (v := ?_) rfl (by kernel_rfl) (by kernel_rfl) (by kernel_rfl) (fun _ _ _ h => h) (Or.inl ⟨by rfl, ?_⟩) (by assumption) ?_
      rotate_left 1
      · (intro w9 hS9; (try dsimp only at hS9); go_simp <;> with_reducible rfl)
      try simp only [List.getElem_toArray, List.getElem_cons_succ, List.getElem_cons_zero, Act.put, List.setIfInBounds_toArray, List.set_cons_zero, List.set_cons_succ]
      refine wpAnyH_take (i := 18) (oi := _) (v := ?_) rfl (by kernel_rfl) (by kernel_rfl) (by kernel_rfl) (fun _ _ _ h => h) (Or.inl ⟨by rfl, ?_⟩) (by assumption) ?_
      rotate_left 1
      · (intro w9 hS9; (try dsimp only at hS9); go_simp <;> with_reducible rfl)
      try simp only [List.getElem_toArray, List.getElem_cons_succ, List.getElem_cons_zero, Act.put, List.setIfInBounds_toArray, List.set_cons_zero, List.set_cons_succ]
      refine wpAnyH_take (i := 19) (oi := _) (v := ?_) rfl (by kernel_rfl) (by kernel_rfl) (by kernel_rfl) (fun _ _ _ h => h) (Or.inl ⟨by rfl, ?_⟩) (by assumption) ?_
      rotate_left 1
      · (intro w9 hS9; (try dsimp only at hS9); go_simp <;> with_reducible rfl)
      try simp only [List.getElem_toArray, List.getElem_cons_succ, List.getElem_cons_zero, Act.put, List.setIfInBounds_toArray, List.set_cons_zero, List.set_cons_succ]
      refine wpAnyH_take (i := 20) (oi := _) (v := ?_) rfl (by kernel_rfl) (by kernel_rfl) (by kernel_rfl) (fun _ _ _ h => h) (Or.inl ⟨by rfl, ?_⟩) (by assumption) ?_
      rotate_left 1
      · (intro w9 hS9; (try dsimp only at hS9); go_simp <;> with_reducible rfl)
      try simp only [List.getElem_toArray, List.getElem_cons_succ, List.getElem_cons_zero, Act.put, List.setIfInBounds_toArray, List.set_cons_zero, List.set_cons_succ]
      refine wpAnyH_take (i := 21) (oi := _) (v := ?_) rfl (by kernel_rfl) (by kernel_rfl) (by kernel_rfl) (fun _ _ _ h => h) (Or.inl ⟨by rfl, ?_⟩) (by assumption) ?_
      rotate_left 1
      · (intro w9 hS9; (try dsimp only at hS9); go_simp <;> with_reducible rfl)
      try simp only [List.getElem_toArray, List.getElem_cons_succ, List.getElem_cons_zero, Act.put, List.setIfInBounds_toArray, List.set_cons_zero, List.set_cons_succ]
      refine wpAnyH_ready (rs := [12, 22]) (by kernel_rfl) (by simp) ?_
      refine AllReadyH.cons (o := _) rfl (fun K hK => ?_) ?_
      · try simp only [List.getElem_toArray, List.getElem_cons_succ, List.getElem_cons_zero]
        go_simp
        refine (HCo.out _ hst).mono ?_
        rintro e w' ⟨rfl, hb'⟩
        go_wp2_with fail
        refine hK.out _ _ (blk5 (hHeld.2.2.2.2.2.trans (hb'.mono (Nat.le_trans hPX hHeld.2.2.2.2.2.size))) HKX.out (Nat.lt_succ_self P)) (fun hHeld => ?_)
        clear hK K
        try simp only [List.getElem_toArray, List.getElem_cons_succ, List.getElem_cons_zero, Act.put, List.setIfInBounds_toArray, List.set_cons_zero, List.set_cons_succ]
        replace hst := hst.trans (hb'.mono hst.size)
        clear hb'
        refine wpAnyH_ready (rs := [13, 22]) (by kernel_rfl) (by simp) ?_
        refine AllReadyH.cons (o := _) rfl (fun K hK => ?_) ?_
        · try simp only [List.getElem_toArray, List.getElem_cons_succ, List.getElem_cons_zero]
          go_simp
          refine (HOp.out _ hst).mono ?_
          rintro e w' ⟨rfl, hb'⟩
          go_wp2_with fail
          refine hK.out _ _ (blk5 (hHeld.2.2.2.2.2.trans (hb'.mono (Nat.le_trans hPX hHeld.2.2.2.2.2.size))) HKX.out (Nat.lt_succ_self P)) (fun hHeld => ?_)
          clear hK K
          try simp only [List.getElem_toArray, List.getElem_cons_succ, List.getElem_cons_zero, Act.put, List.setIfInBounds_toArray, List.set_cons_zero, List.set_cons_succ]
          replace hst := hst.trans (hb'.mono hst.size)
          clear hb'
          refine wpAnyH_take (i := 14) (oi := _) (v := ?_) rfl (by kernel_rfl) (by kernel_rfl) (by kernel_rfl) (fun _ _ _ h => h) (Or.inl ⟨by rfl, ?_⟩) (by assumption) ?_
          rotate_left 1
          · (intro w9 hS9; (try dsimp only at hS9); go_simp <;> with_reducible rfl)
          try simp only [List.getElem_toArray, List.getElem_cons_succ, List.getElem_cons_zero, Act.put, List.setIfInBounds_toArray, List.set_cons_zero, List.set_cons_succ]
          refine wpAnyH_ready (rs := [22]) (by kernel_rfl) (by simp) ?_
          refine AllReadyH.cons (o := _) rfl (fun K hK => ?_) ?_
          · try simp only [List.getElem_toArray, List.getElem_cons_succ, List.getElem_cons_zero]
            go_simp
            refine hK.out _ _ (blk5 (hHeld.2.2.2.2.2.alloc (Nat.le_trans hPX hHeld.2.2.2.2.2.size) _) HKX.out (Nat.lt_succ_self P)) (fun hHeld => ?_)
            clear hK K
            try simp only [List.getElem_toArray, List.getElem_cons_succ, List.getElem_cons_zero, Act.put, List.setIfInBounds_toArray, List.set_cons_zero, List.set_cons_succ]
            have kE := Blk.new w' 74 #[.int .i64 t, .int .i64 (T + k)]
            replace hst := hst.alloc hst.size (.cells #[.int .i64 t, .int .i64 (T + k)] 74)
            obtain ⟨W9, hW9⟩ : ∃ W9, w'.alloc (.cells #[.int .i64 t, .int .i64 (T + k)] 74) = W9 := ⟨_, rfl⟩
            rw [hW9] at kE hst hHeld ⊢
            clear hW9
            refine wpAnyH_ready (rs := [23]) (by kernel_rfl) (by simp) ?_
            refine AllReadyH.cons (o := _) rfl (fun K hK => ?_) ?_
            · try simp only [List.getElem_toArray, List.getElem_cons_succ, List.getElem_cons_zero]
              rw [if_pos (show Region.wanted _ _ = true from rfl)]
              refine wp_append_any _ (.tmp 65) (.tmp 73) _ (by rfl) (P + 1) 74 i0 _ 2 16 Try.underlying22 HI.out.1 HI.out.2.1 HI.out.2.2.1 HI.out.2.2.2 rfl (by omega) (.slice none 0 0) 0 [] (by rfl) (World.ownsRow_nil _ _ 74 2) _ (some ⟨_, 0, none⟩) 1 1 [.int .i64 t, .int .i64 (T + k)] (by rfl) (Blk.reads kE (by rfl)) (one2 _ _) (by simp only [maxLen]; omega) (by omega) (Nat.le_trans hPX hst.size) ?_
              intro v9 w9 h9 hgr _
              obtain ⟨A9, c9, rfl, hnc9, hcm9, _⟩ := own_slice h9
              refine hK.out _ _ (blk5 (hHeld.2.2.2.2.2.grown hgr (Nat.le_trans hPX hst.size) (fun _ h => by simp [Value.ownBlock] at h)) HKX.out (Nat.lt_succ_self P)) (fun hHeld => ?_)
              clear hK K hgr
              try simp only [List.getElem_toArray, List.getElem_cons_succ, List.getElem_cons_zero, Act.put, List.setIfInBounds_toArray, List.set_cons_zero, List.set_cons_succ]
              refine wpAnyH_take (i := 24) (oi := _) (v := ?_) rfl (by kernel_rfl) (by kernel_rfl) (by kernel_rfl) (fun _ _ _ h => h) (Or.inl ⟨by rfl, ?_⟩) (by assumption) ?_
              rotate_left 1
              · (intro w9 hS9; (try dsimp only at hS9); go_simp <;> with_reducible rfl)
              try simp only [List.getElem_toArray, List.getElem_cons_succ, List.getElem_cons_zero, Act.put, List.setIfInBounds_toArray, List.set_cons_zero, List.set_cons_succ]
              refine wpAnyH_take (i := 25) (oi := _) (v := ?_) rfl (by kernel_rfl) (by kernel_rfl) (by kernel_rfl) (fun _ _ _ h => h) (Or.inl ⟨by rfl, ?_⟩) (by assumption) ?_
              rotate_left 1
              · (intro w9 hS9; (try dsimp only at hS9); go_simp <;> with_reducible rfl)
              try simp only [List.getElem_toArray, List.getElem_cons_succ, List.getElem_cons_zero, Act.put, List.setIfInBounds_toArray, List.set_cons_zero, List.set_cons_succ]
              refine wpAnyH_take (i := 26) (oi := _) (v := ?_) rfl (by kernel_rfl) (by kernel_rfl) (by kernel_rfl) (fun _ _ _ h => h) (Or.inl ⟨by rfl, ?_⟩) (by assumption) ?_
              rotate_left 1
              · (intro w9 hS9; (try dsimp only at hS9); go_simp <;> with_reducible rfl)
              try simp only [List.getElem_toArray, List.getElem_cons_succ, List.getElem_cons_zero, Act.put, List.setIfInBounds_toArray, List.set_cons_zero, List.set_cons_succ]
              refine wpAnyH_done (by kernel_rfl) ?_ _
              refine snocQ_normal rfl ?_
              have hk9 := HKX.out.below hHeld.2.2.2.2.2 (Nat.lt_succ_self P)
              have hb9 := (hbX.mono (show P ≤ w.heap.size by omega)).trans (hHeld.2.2.2.2.2.mono (by omega))
              have z4 := hk9.frozen 4
              have z3 := hk9.frozen 3
              have l9 := hk9.lt
              have HF := Lib.hid (And.intro hk9 (And.intro hb9 (And.intro h9 (And.intro hnc9 hcm9))))
              obtain ⟨f0, f1, f2, f3, f4, _⟩ := blk5 (Below.refl _ w9) hk9 hk9.lt
              clear hk9 hb9 h9 hnc9 hcm9 hHeld hst kE
              go_wp2_with fail
              go_ret
              refine ⟨rfl, (HF.out.2.1.setCell (p := ⟨P, 4, none⟩) (Nat.le_refl _) _).setCell (p := ⟨P, 3, none⟩) (Nat.le_refl _) _, ?_⟩
              try intro _
              refine ⟨A9, _, c9, (HF.out.1.set_ 4 _).set_ 3 _, ?_, HF.out.2.2.2.1, HF.out.2.2.2.2, fun ad h => own_block_ge HF.out.2.2.1 ad.block (by rw [h]; rfl)⟩
              have h10 := own_far (own_far HF.out.2.2.1 (p := ⟨P, 4, none⟩) (fun h => by have := own_block_ge HF.out.2.2.1 P h; omega) (.slice A9 (0 + 1) c9)) (p := ⟨P, 3, none⟩) (fun h => by have := own_block_ge HF.out.2.2.1 P h; omega) (.int .i64 (b + k))
              rw [admL, if_neg (fun h => h.1 HLN.out), HTT.out, HLN.out]
              exact Reads.of_own h10
            · skip
              exact AllReadyH.nil
          · skip
            exact AllReadyH.nil
        · skip
          refine AllReadyH.cons (o := _) rfl (fun K hK => ?_) ?_
          · try simp only [List.getElem_toArray, List.getElem_cons_succ, List.getElem_cons_zero]
            go_simp
            refine hK.out _ _ (blk5 (hHeld.2.2.2.2.2.alloc (Nat.le_trans hPX hHeld.2.2.2.2.2.size) _) HKX.out (Nat.lt_succ_self P)) (fun hHeld => ?_)
            clear hK K
            try simp only [List.getElem_toArray, List.getElem_cons_succ, List.getElem_cons_zero, Act.put, List.setIfInBounds_toArray, List.set_cons_zero, List.set_cons_succ]
            have kE := Blk.new w' 74 #[.int .i64 t, .int .i64 (T + k)]
            replace hst := hst.alloc hst.size (.cells #[.int .i64 t, .int .i64 (T + k)] 74)
            obtain ⟨W9, hW9⟩ : ∃ W9, w'.alloc (.cells #[.int .i64 t, .int .i64 (T + k)] 74) = W9 := ⟨_, rfl⟩
            rw [hW9] at kE hst hHeld ⊢
            clear hW9
            refine wpAnyH_ready (rs := [13]) (by kernel_rfl) (by simp) ?_
            refine AllReadyH.cons (o := _) rfl (fun K hK => ?_) ?_
            · try simp only [List.getElem_toArray, List.getElem_cons_succ, List.getElem_cons_zero]
              go_simp
              refine (HOp.out _ hst).mono ?_
              rintro e w' ⟨rfl, hb'⟩
              go_wp2_with fail
              refine hK.out _ _ (blk5 (hHeld.2.2.2.2.2.trans (hb'.mono (Nat.le_trans hPX hHeld.2.2.2.2.2.size))) HKX.out (Nat.lt_succ_self P)) (fun hHeld => ?_)
              clear hK K
              try simp only [List.getElem_toArray, List.getElem_cons_succ, List.getElem_cons_zero, Act.put, List.setIfInBounds_toArray, List.set_cons_zero, List.set_cons_succ]
              replace hst := hst.trans (hb'.mono hst.size)
              replace kE := kE.below hb' kE.lt
              clear hb'
              refine wpAnyH_take (i := 14) (oi := _) (v := ?_) rfl (by kernel_rfl) (by kernel_rfl) (by kernel_rfl) (fun _ _ _ h => h) (Or.inl ⟨by rfl, ?_⟩) (by assumption) ?_
              rotate_left 1
              · (intro w9 hS9; (try dsimp only at hS9); go_simp <;> with_reducible rfl)
              try simp only [List.getElem_toArray, List.getElem_cons_succ, List.getElem_cons_zero, Act.put, List.setIfInBounds_toArray, List.set_cons_zero, List.set_cons_succ]
              refine wpAnyH_ready (rs := [23]) (by kernel_rfl) (by simp) ?_
              refine AllReadyH.cons (o := _) rfl (fun K hK => ?_) ?_
              · try simp only [List.getElem_toArray, List.getElem_cons_succ, List.getElem_cons_zero]
                rw [if_pos (show Region.wanted _ _ = true from rfl)]
                refine wp_append_any _ (.tmp 65) (.tmp 73) _ (by rfl) (P + 1) 74 i0 _ 2 16 Try.underlying22 HI.out.1 HI.out.2.1 HI.out.2.2.1 HI.out.2.2.2 rfl (by omega) (.slice none 0 0) 0 [] (by rfl) (World.ownsRow_nil _ _ 74 2) _ (some ⟨_, 0, none⟩) 1 1 [.int .i64 t, .int .i64 (T + k)] (by rfl) (Blk.reads kE (by rfl)) (one2 _ _) (by simp only [maxLen]; omega) (by omega) (Nat.le_trans hPX hst.size) ?_
                intro v9 w9 h9 hgr _
                obtain ⟨A9, c9, rfl, hnc9, hcm9, _⟩ := own_slice h9
                refine hK.out _ _ (blk5 (hHeld.2.2.2.2.2.grown hgr (Nat.le_trans hPX hst.size) (fun _ h => by simp [Value.ownBlock] at h)) HKX.out (Nat.lt_succ_self P)) (fun hHeld => ?_)
                clear hK K hgr
                try simp only [List.getElem_toArray, List.getElem_cons_succ, List.getElem_cons_zero, Act.put, List.setIfInBounds_toArray, List.set_cons_zero, List.set_cons_succ]
                refine wpAnyH_take (i := 24) (oi := _) (v := ?_) rfl (by kernel_rfl) (by kernel_rfl) (by kernel_rfl) (fun _ _ _ h => h) (Or.inl ⟨by rfl, ?_⟩) (by assumption) ?_
                rotate_left 1
                · (intro w9 hS9; (try dsimp only at hS9); go_simp <;> with_reducible rfl)
                try simp only [List.getElem_toArray, List.getElem_cons_succ, List.getElem_cons_zero, Act.put, List.setIfInBounds_toArray, List.set_cons_zero, List.set_cons_succ]
                refine wpAnyH_take (i := 25) (oi := _) (v := ?_) rfl (by kernel_rfl) (by kernel_rfl) (by kernel_rfl) (fun _ _ _ h => h) (Or.inl ⟨by rfl, ?_⟩) (by assumption) ?_
                rotate_left 1
                · (intro w9 hS9; (try dsimp only at hS9); go_simp <;> with_reducible rfl)
                try simp only [List.getElem_toArray, List.getElem_cons_succ, List.getElem_cons_zero, Act.put, List.setIfInBounds_toArray, List.set_cons_zero, List.set_cons_succ]
                refine wpAnyH_take (i := 26) (oi := _) (v := ?_) rfl (by kernel_rfl) (by kernel_rfl) (by kernel_rfl) (fun _ _ _ h => h) (Or.inl ⟨by rfl, ?_⟩) (by assumption) ?_
                rotate_left 1
                · (intro w9 hS9; (try dsimp only at hS9); go_simp <;> with_reducible rfl)
                try simp only [List.getElem_toArray, List.getElem_cons_succ, List.getElem_cons_zero, Act.put, List.setIfInBounds_toArray, List.set_cons_zero, List.set_cons_succ]
                refine wpAnyH_done (by kernel_rfl) ?_ _
                refine snocQ_normal rfl ?_
                have hk9 := HKX.out.below hHeld.2.2.2.2.2 (Nat.lt_succ_self P)
                have hb9 := (hbX.mono (show P ≤ w.heap.size by omega)).trans (hHeld.2.2.2.2.2.mono (by omega))
                have z4 := hk9.frozen 4
                have z3 := hk9.frozen 3
                have l9 := hk9.lt
                have HF := Lib.hid (And.intro hk9 (And.intro hb9 (And.intro h9 (And.intro hnc9 hcm9))))
                obtain ⟨f0, f1, f2, f3, f4, _⟩ := blk5 (Below.refl _ w9) hk9 hk9.lt
                clear hk9 hb9 h9 hnc9 hcm9 hHeld hst kE
                go_wp2_with fail
                go_ret
                refine ⟨rfl, (HF.out.2.1.setCell (p := ⟨P, 4, none⟩) (Nat.le_refl _) _).setCell (p := ⟨P, 3, none⟩) (Nat.le_refl _) _, ?_⟩
                try intro _
                refine ⟨A9, _, c9, (HF.out.1.set_ 4 _).set_ 3 _, ?_, HF.out.2.2.2.1, HF.out.2.2.2.2, fun ad h => own_block_ge HF.out.2.2.1 ad.block (by rw [h]; rfl)⟩
                have h10 := own_far (own_far HF.out.2.2.1 (p := ⟨P, 4, none⟩) (fun h => by have := own_block_ge HF.out.2.2.1 P h; omega) (.slice A9 (0 + 1) c9)) (p := ⟨P, 3, none⟩) (fun h => by have := own_block_ge HF.out.2.2.1 P h; omega) (.int .i64 (b + k))
                rw [admL, if_neg (fun h => h.1 HLN.out), HTT.out, HLN.out]
                exact Reads.of_own h10
              · skip
                exact AllReadyH.nil
            · skip
              exact AllReadyH.nil
          · skip
            exact AllReadyH.nil
      · skip
        refine AllReadyH.cons (o := _) rfl (fun K hK => ?_) ?_
        · try simp only [List.getElem_toArray, List.getElem_cons_succ, List.getElem_cons_zero]
          go_simp
          refine hK.out _ _ (blk5 (hHeld.2.2.2.2.2.alloc (Nat.le_trans hPX hHeld.2.2.2.2.2.size) _) HKX.out (Nat.lt_succ_self P)) (fun hHeld => ?_)
          clear hK K
          try simp only [List.getElem_toArray, List.getElem_cons_succ, List.getElem_cons_zero, Act.put, List.setIfInBounds_toArray, List.set_cons_zero, List.set_cons_succ]
          have kE : Blk (X0.alloc (.cells #[.int .i64 t, .int .i64 (T + k)] 74)).drew X0.heap.size 74 #[.int .i64 t, .int .i64 (T + k)] := Blk.new X0 74 _
          replace hst : Below X0.heap.size X0 (X0.alloc (.cells #[.int .i64 t, .int .i64 (T + k)] 74)).drew := ((Below.refl _ X0).alloc (Nat.le_refl _) _).drew
          obtain ⟨W9, hW9⟩ : ∃ W9, (X0.alloc (.cells #[.int .i64 t, .int .i64 (T + k)] 74)).drew = W9 := ⟨_, rfl⟩
          rw [hW9] at kE hst hHeld ⊢
          clear hW9
          refine wpAnyH_ready (rs := [12]) (by kernel_rfl) (by simp) ?_
          refine AllReadyH.cons (o := _) rfl (fun K hK => ?_) ?_
          · try simp only [List.getElem_toArray, List.getElem_cons_succ, List.getElem_cons_zero]
            go_simp
            refine (HCo.out _ hst).mono ?_
            rintro e w' ⟨rfl, hb'⟩
            go_wp2_with fail
            refine hK.out _ _ (blk5 (hHeld.2.2.2.2.2.trans (hb'.mono (Nat.le_trans hPX hHeld.2.2.2.2.2.size))) HKX.out (Nat.lt_succ_self P)) (fun hHeld => ?_)
            clear hK K
            try simp only [List.getElem_toArray, List.getElem_cons_succ, List.getElem_cons_zero, Act.put, List.setIfInBounds_toArray, List.set_cons_zero, List.set_cons_succ]
            replace hst := hst.trans (hb'.mono hst.size)
            replace kE := kE.below hb' kE.lt
            clear hb'
            refine wpAnyH_ready (rs := [13]) (by kernel_rfl) (by simp) ?_
            refine AllReadyH.cons (o := _) rfl (fun K hK => ?_) ?_
            · try simp only [List.getElem_toArray, List.getElem_cons_succ, List.getElem_cons_zero]
              go_simp
              refine (HOp.out _ hst).mono ?_
              rintro e w' ⟨rfl, hb'⟩
              go_wp2_with fail
              refine hK.out _ _ (blk5 (hHeld.2.2.2.2.2.trans (hb'.mono (Nat.le_trans hPX hHeld.2.2.2.2.2.size))) HKX.out (Nat.lt_succ_self P)) (fun hHeld => ?_)
              clear hK K
              try simp only [List.getElem_toArray, List.getElem_cons_succ, List.getElem_cons_zero, Act.put, List.setIfInBounds_toArray, List.set_cons_zero, List.set_cons_succ]
              replace hst := hst.trans (hb'.mono hst.size)
              replace kE := kE.below hb' kE.lt
              clear hb'
              refine wpAnyH_take (i := 14) (oi := _) (v := ?_) rfl (by kernel_rfl) (by kernel_rfl) (by kernel_rfl) (fun _ _ _ h => h) (Or.inl ⟨by rfl, ?_⟩) (by assumption) ?_
              rotate_left 1
              · (intro w9 hS9; (try dsimp only at hS9); go_simp <;> with_reducible rfl)
              try simp only [List.getElem_toArray, List.getElem_cons_succ, List.getElem_cons_zero, Act.put, List.setIfInBounds_toArray, List.set_cons_zero, List.set_cons_succ]
              refine wpAnyH_ready (rs := [23]) (by kernel_rfl) (by simp) ?_
              refine AllReadyH.cons (o := _) rfl (fun K hK => ?_) ?_
              · try simp only [List.getElem_toArray, List.getElem_cons_succ, List.getElem_cons_zero]
                rw [if_pos (show Region.wanted _ _ = true from rfl)]
                refine wp_append_any _ (.tmp 65) (.tmp 73) _ (by rfl) (P + 1) 74 i0 _ 2 16 Try.underlying22 HI.out.1 HI.out.2.1 HI.out.2.2.1 HI.out.2.2.2 rfl (by omega) (.slice none 0 0) 0 [] (by rfl) (World.ownsRow_nil _ _ 74 2) _ (some ⟨_, 0, none⟩) 1 1 [.int .i64 t, .int .i64 (T + k)] (by rfl) (Blk.reads kE (by rfl)) (one2 _ _) (by simp only [maxLen]; omega) (by omega) (Nat.le_trans hPX hst.size) ?_
                intro v9 w9 h9 hgr _
                obtain ⟨A9, c9, rfl, hnc9, hcm9, _⟩ := own_slice h9
                refine hK.out _ _ (blk5 (hHeld.2.2.2.2.2.grown hgr (Nat.le_trans hPX hst.size) (fun _ h => by simp [Value.ownBlock] at h)) HKX.out (Nat.lt_succ_self P)) (fun hHeld => ?_)
                clear hK K hgr
                try simp only [List.getElem_toArray, List.getElem_cons_succ, List.getElem_cons_zero, Act.put, List.setIfInBounds_toArray, List.set_cons_zero, List.set_cons_succ]
                refine wpAnyH_take (i := 24) (oi := _) (v := ?_) rfl (by kernel_rfl) (by kernel_rfl) (by kernel_rfl) (fun _ _ _ h => h) (Or.inl ⟨by rfl, ?_⟩) (by assumption) ?_
                rotate_left 1
                · (intro w9 hS9; (try dsimp only at hS9); go_simp <;> with_reducible rfl)
                try simp only [List.getElem_toArray, List.getElem_cons_succ, List.getElem_cons_zero, Act.put, List.setIfInBounds_toArray, List.set_cons_zero, List.set_cons_succ]
                refine wpAnyH_take (i := 25) (oi := _) (v := ?_) rfl (by kernel_rfl) (by kernel_rfl) (by kernel_rfl) (fun _ _ _ h => h) (Or.inl ⟨by rfl, ?_⟩) (by assumption) ?_
                rotate_left 1
                · (intro w9 hS9; (try dsimp only at hS9); go_simp <;> with_reducible rfl)
                try simp only [List.getElem_toArray, List.getElem_cons_succ, List.getElem_cons_zero, Act.put, List.setIfInBounds_toArray, List.set_cons_zero, List.set_cons_succ]
                refine wpAnyH_take (i := 26) (oi := _) (v := ?_) rfl (by kernel_rfl) (by kernel_rfl) (by kernel_rfl) (fun _ _ _ h => h) (Or.inl ⟨by rfl, ?_⟩) (by assumption) ?_
                rotate_left 1
                · (intro w9 hS9; (try dsimp only at hS9); go_simp <;> with_reducible rfl)
                try simp only [List.getElem_toArray, List.getElem_cons_succ, List.getElem_cons_zero, Act.put, List.setIfInBounds_toArray, List.set_cons_zero, List.set_cons_succ]
                refine wpAnyH_done (by kernel_rfl) ?_ _
                refine snocQ_normal rfl ?_
                have hk9 := HKX.out.below hHeld.2.2.2.2.2 (Nat.lt_succ_self P)
                have hb9 := (hbX.mono (show P ≤ w.heap.size by omega)).trans (hHeld.2.2.2.2.2.mono (by omega))
                have z4 := hk9.frozen 4
                have z3 := hk9.frozen 3
                have l9 := hk9.lt
                have HF := Lib.hid (And.intro hk9 (And.intro hb9 (And.intro h9 (And.intro hnc9 hcm9))))
                obtain ⟨f0, f1, f2, f3, f4, _⟩ := blk5 (Below.refl _ w9) hk9 hk9.lt
                clear hk9 hb9 h9 hnc9 hcm9 hHeld hst kE
                go_wp2_with fail
                go_ret
                refine ⟨rfl, (HF.out.2.1.setCell (p := ⟨P, 4, none⟩) (Nat.le_refl _) _).setCell (p := ⟨P, 3, none⟩) (Nat.le_refl _) _, ?_⟩
                try intro _
                refine ⟨A9, _, c9, (HF.out.1.set_ 4 _).set_ 3 _, ?_, HF.out.2.2.2.1, HF.out.2.2.2.2, fun ad h => own_block_ge HF.out.2.2.1 ad.block (by rw [h]; rfl)⟩
                have h10 := own_far (own_far HF.out.2.2.1 (p := ⟨P, 4, none⟩) (fun h => by have := own_block_ge HF.out.2.2.1 P h; omega) (.slice A9 (0 + 1) c9)) (p := ⟨P, 3, none⟩) (fun h => by have := own_block_ge HF.out.2.2.1 P h; omega) (.int .i64 (b + k))
                rw [admL, if_neg (fun h => h.1 HLN.out), HTT.out, HLN.out]
                exact Reads.of_own h10
              · skip
                exact AllReadyH.nil
            · skip
              exact AllReadyH.nil
          · skip
            exact AllReadyH.nil
        · skip
          exact AllReadyH.nil
    · injection hv with eA _ ec
      subst eA ec
      have HCUR := Lib.hid (And.intro hcur (And.intro hcs hct))
      clear hcur hcs hct
      by_cases hn0 : n = 0
      · subst hn0
        have HLN : Hid (¬(l ≠ [] ∧ (lastM ⟨-1, 0⟩ l).t = t)) := fun h => h.1 (List.eq_nil_of_length_eq_zero HL.out)
        go_enter Try.func35, Try.ntmps35
        go_wp2_with fail
        refine HTo.out.mono ?_
        rintro e w1 ⟨rfl, hb1⟩
        have HB1 := Lib.hid hb1
        obtain ⟨f0, f1, f2, f3, f4, _⟩ := blk5 hb1 HP.out hlP
        have l1 : P < w1.heap.size := Nat.lt_of_lt_of_le hlP hb1.size
        clear hb1
        go_wp2_with fail
        go_quiet (fail)
        go_wp2_with fail
        have hbX : Below w.heap.size w (w1.drewN nq) := below_drewN HB1.out _
        have HKX := Lib.hid (HP.out.below hbX hlP)
        clear HB1 f0 f1 f2 f3 f4 l1
        generalize w1.drewN nq = X0 at *
        have HGX := Lib.hid ((show Blk w g 74 cur from HCUR.out.1).below hbX (show Blk w g 74 cur from HCUR.out.1).lt)
        have hPX : P + 1 ≤ X0.heap.size := Nat.le_trans hlP hbX.size
        have hq0 : openM (T - b) l ≤ 0 := by rw [← HL.out]; exact openM_le _ _
        obtain ⟨q, hq⟩ : ∃ q, openM (T - b) l = q := ⟨_, rfl⟩
        have hOq := hOp (T - b)
        rw [hq] at hOq hq0
        obtain rfl : q = 0 := by omega
        have HQ := Lib.hid hq
        have HCo := Lib.hid (fun w9 (h9 : Below X0.heap.size X0 w9) => hCo w9 (hbX.trans (h9.mono hbX.size)))
        have HOp := Lib.hid (fun w9 (h9 : Below X0.heap.size X0 w9) => hOq w9 (hbX.trans (h9.mono hbX.size)))
        clear hCo hOp hOq hq
        have hst : Below X0.heap.size X0 X0.drew := (Below.refl _ X0).drew
        refine wp_region_snoc_lit (S := fun w' => w'.cell? ⟨P, 0, none⟩ = some (.int .i64 o) ∧ w'.cell? ⟨P, 1, none⟩ = some (.int .i64 r) ∧ w'.cell? ⟨P, 2, none⟩ = some (.int .i64 t) ∧ w'.cell? ⟨P, 3, none⟩ = some (.int .i64 b) ∧ w'.cell? ⟨P, 4, none⟩ = some (.slice (some ⟨g, 0, none⟩) 0 c) ∧ Below (P + 1) X0 w') _ rfl (by kernel_rfl) (by kernel_rfl) (blk5 ((Below.refl (P + 1) X0).drew) HKX.out (Nat.lt_succ_self P)) (fun hHeld => ?_)
        simp only [List.dropLast]
        refine wpAnyH_take (i := 0) (oi := _) (v := ?_) rfl (by kernel_rfl) (by kernel_rfl) (by kernel_rfl) (fun _ _ _ h => h) (Or.inl ⟨by rfl, ?_⟩) (by assumption) ?_
        rotate_left 1
        · (intro w9 hS9; (try dsimp only at hS9); go_simp <;> with_reducible rfl)
        try simp only [List.getElem_toArray, List.getElem_cons_succ, List.getElem_cons_zero, Act.put, List.setIfInBounds_toArray, List.set_cons_zero, List.set_cons_succ]
        refine wpAnyH_take (i := 1) (oi := _) (v := ?_) rfl (by kernel_rfl) (by kernel_rfl) (by kernel_rfl) (fun _ _ _ h => h) (Or.inl ⟨by rfl, ?_⟩) (by assumption) ?_
        rotate_left 1
        · (intro w9 hS9; (try dsimp only at hS9); go_simp <;> with_reducible rfl)
        try simp only [List.getElem_toArray, List.getElem_cons_succ, List.getElem_cons_zero, Act.put, List.setIfInBounds_toArray, List.set_cons_zero, List.set_cons_succ]
        refine wpAnyH_take (i := 2) (oi := _) (v := ?_) rfl (by kernel_rfl) (by kernel_rfl) (by kernel_rfl) (fun _ _ _ h => h) (Or.inl ⟨by rfl, ?_⟩) (by assumption) ?_
        rotate_left 1
        · (intro w9 hS9; (try dsimp only at hS9); go_simp <;> with_reducible rfl)
        try simp only [List.getElem_toArray, List.getElem_cons_succ, List.getElem_cons_zero, Act.put, List.setIfInBounds_toArray, List.set_cons_zero, List.set_cons_succ]
        refine wpAnyH_take (i := 3) (oi := _) (v := ?_) rfl (by kernel_rfl) (by kernel_rfl) (by kernel_rfl) (fun _ _ _ h => h) (Or.inl ⟨by rfl, ?_⟩) (by assumption) ?_
        rotate_left 1
        · (intro w9 hS9; (try dsimp only at hS9); go_simp <;> with_reducible rfl)
        try simp only [List.getElem_toArray, List.getElem_cons_succ, List.getElem_cons_zero, Act.put, List.setIfInBounds_toArray, List.set_cons_zero, List.set_cons_succ]
        refine wpAnyH_take (i := 4) (oi := _) (v := ?_) rfl (by kernel_rfl) (by kernel_rfl) (by kernel_rfl) (fun _ _ _ h => h) (Or.inl ⟨by rfl, ?_⟩) (by assumption) ?_
        rotate_left 1
        · (intro w9 hS9; (try dsimp only at hS9); go_simp <;> with_reducible rfl)
        try simp only [List.getElem_toArray, List.getElem_cons_succ, List.getElem_cons_zero, Act.put, List.setIfInBounds_toArray, List.set_cons_zero, List.set_cons_succ]
        refine wpAnyH_take (i := 5) (oi := _) (v := ?_) rfl (by kernel_rfl) (by kernel_rfl) (by kernel_rfl) (fun _ _ _ h => h) (Or.inl ⟨by rfl, ?_⟩) (by assumption) ?_
        rotate_left 1
        · (intro w9 hS9; (try dsimp only at hS9); go_simp <;> with_reducible rfl)
        try simp only [List.getElem_toArray, List.getElem_cons_succ, List.getElem_cons_zero, Act.put, List.setIfInBounds_toArray, List.set_cons_zero, List.set_cons_succ]
        refine wpAnyH_take (i := 6) (oi := _) (v := ?_) rfl (by kernel_rfl) (by kernel_rfl) (by kernel_rfl) (fun _ _ _ h => h) (Or.inl ⟨by rfl, ?_⟩) (by assumption) ?_
        rotate_left 1
        · (intro w9 hS9; (try dsimp only at hS9); go_simp <;> with_reducible rfl)
        try simp only [List.getElem_toArray, List.getElem_cons_succ, List.getElem_cons_zero, Act.put, List.setIfInBounds_toArray, List.set_cons_zero, List.set_cons_succ]
        refine wpAnyH_take (i := 7) (oi := _) (v := ?_) rfl (by kernel_rfl) (by kernel_rfl) (by kernel_rfl) (fun _ _ _ h => h) (Or.inl ⟨by rfl, ?_⟩) (by assumption) ?_
        rotate_left 1
        · (intro w9 hS9; (try dsimp only at hS9); go_simp <;> with_reducible rfl)
        try simp only [List.getElem_toArray, List.getElem_cons_succ, List.getElem_cons_zero, Act.put, List.setIfInBounds_toArray, List.set_cons_zero, List.set_cons_succ]
        refine wpAnyH_take (i := 8) (oi := _) (v := ?_) rfl (by kernel_rfl) (by kernel_rfl) (by kernel_rfl) (fun _ _ _ h => h) (Or.inl ⟨by rfl, ?_⟩) (by assumption) ?_
        rotate_left 1
        · (intro w9 hS9; (try dsimp only at hS9); go_simp <;> with_reducible rfl)
        try simp only [List.getElem_toArray, List.getElem_cons_succ, List.getElem_cons_zero, Act.put, List.setIfInBounds_toArray, List.set_cons_zero, List.set_cons_succ]
        refine wpAnyH_take (i := 9) (oi := _) (v := ?_) rfl (by kernel_rfl) (by kernel_rfl) (by kernel_rfl) (fun _ _ _ h => h) (Or.inl ⟨by rfl, ?_⟩) (by assumption) ?_
        rotate_left 1
        · (intro w9 hS9; (try dsimp only at hS9); go_simp <;> with_reducible rfl)
        try simp only [List.getElem_toArray, List.getElem_cons_succ, List.getElem_cons_zero, Act.put, List.setIfInBounds_toArray, List.set_cons_zero, List.set_cons_succ]
        refine wpAnyH_take (i := 10) (oi := _) (v := ?_) rfl (by kernel_rfl) (by kernel_rfl) (by kernel_rfl) (fun _ _ _ h => h) (Or.inl ⟨by rfl, ?_⟩) (by assumption) ?_
        rotate_left 1
        · (intro w9 hS9; (try dsimp only at hS9); go_simp <;> with_reducible rfl)
        try simp only [List.getElem_toArray, List.getElem_cons_succ, List.getElem_cons_zero, Act.put, List.setIfInBounds_toArray, List.set_cons_zero, List.set_cons_succ]
        refine wpAnyH_take (i := 11) (oi := _) (v := ?_) rfl (by kernel_rfl) (by kernel_rfl) (by kernel_rfl) (fun _ _ _ h => h) (Or.inl ⟨by rfl, ?_⟩) (by assumption) ?_
        rotate_left 1
        · (intro w9 hS9; (try dsimp only at hS9); go_simp <;> with_reducible rfl)
        try simp only [List.getElem_toArray, List.getElem_cons_succ, List.getElem_cons_zero, Act.put, List.setIfInBounds_toArray, List.set_cons_zero, List.set_cons_succ]
        refine wpAnyH_take (i := 15) (oi := _) (v := ?_) rfl (by kernel_rfl) (by kernel_rfl) (by kernel_rfl) (fun _ _ _ h => h) (Or.inl ⟨by rfl, ?_⟩) (by assumption) ?_
        rotate_left 1
        · (intro w9 hS9; (try dsimp only at hS9); go_simp <;> with_reducible rfl)
        try simp only [List.getElem_toArray, List.getElem_cons_succ, List.getElem_cons_zero, Act.put, List.setIfInBounds_toArray, List.set_cons_zero, List.set_cons_succ]
        refine wpAnyH_take (i := 16) (oi := _) (v := ?_) rfl (by kernel_rfl) (by kernel_rfl) (by kernel_rfl) (fun _ _ _ h => h) (Or.inl ⟨by rfl, ?_⟩) (by assumption) ?_
        rotate_left 1
        · (intro w9 hS9; (try dsimp only at hS9); go_simp <;> with_reducible rfl)
        try simp only [List.getElem_toArray, List.getElem_cons_succ, List.getElem_cons_zero, Act.put, List.setIfInBounds_toArray, List.set_cons_zero, List.set_cons_succ]
        refine wpAnyH_take (i := 17) (oi := _) (v := ?_) rfl (by kernel_rfl) (by kernel_rfl) (by kernel_rfl) (fun _ _ _ h => h) (Or.inl ⟨by rfl, ?_⟩) (by assumption) ?_
        rotate_left 1
        · (intro w9 hS9; (try dsimp only at hS9); go_simp <;> with_reducible rfl)
        try simp only [List.getElem_toArray, List.getElem_cons_succ, List.getElem_cons_zero, Act.put, List.setIfInBounds_toArray, List.set_cons_zero, List.set_cons_succ]
        refine wpAnyH_take (i := 18) (oi := _) (v := ?_) rfl (by kernel_rfl) (by kernel_rfl) (by kernel_rfl) (fun _ _ _ h => h) (Or.inl ⟨by rfl, ?_⟩) (by assumption) ?_
        rotate_left 1
        · (intro w9 hS9; (try dsimp only at hS9); go_simp <;> with_reducible rfl)
        try simp only [List.getElem_toArray, List.getElem_cons_succ, List.getElem_cons_zero, Act.put, List.setIfInBounds_toArray, List.set_cons_zero, List.set_cons_succ]
        refine wpAnyH_take (i := 19) (oi := _) (v := ?_) rfl (by kernel_rfl) (by kernel_rfl) (by kernel_rfl) (fun _ _ _ h => h) (Or.inl ⟨by rfl, ?_⟩) (by assumption) ?_
        rotate_left 1
        · (intro w9 hS9; (try dsimp only at hS9); go_simp <;> with_reducible rfl)
        try simp only [List.getElem_toArray, List.getElem_cons_succ, List.getElem_cons_zero, Act.put, List.setIfInBounds_toArray, List.set_cons_zero, List.set_cons_succ]
        refine wpAnyH_take (i := 20) (oi := _) (v := ?_) rfl (by kernel_rfl) (by kernel_rfl) (by kernel_rfl) (fun _ _ _ h => h) (Or.inl ⟨by rfl, ?_⟩) (by assumption) ?_
        rotate_left 1
        · (intro w9 hS9; (try dsimp only at hS9); go_simp <;> with_reducible rfl)
        try simp only [List.getElem_toArray, List.getElem_cons_succ, List.getElem_cons_zero, Act.put, List.setIfInBounds_toArray, List.set_cons_zero, List.set_cons_succ]
        refine wpAnyH_take (i := 21) (oi := _) (v := ?_) rfl (by kernel_rfl) (by kernel_rfl) (by kernel_rfl) (fun _ _ _ h => h) (Or.inl ⟨by rfl, ?_⟩) (by assumption) ?_
        rotate_left 1
        · (intro w9 hS9; (try dsimp only at hS9); go_simp <;> with_reducible rfl)
        try simp only [List.getElem_toArray, List.getElem_cons_succ, List.getElem_cons_zero, Act.put, List.setIfInBounds_toArray, List.set_cons_zero, List.set_cons_succ]
        refine wpAnyH_ready (rs := [12, 22]) (by kernel_rfl) (by simp) ?_
        refine AllReadyH.cons (o := _) rfl (fun K hK => ?_) ?_
        · try simp only [List.getElem_toArray, List.getElem_cons_succ, List.getElem_cons_zero]
          go_simp
          refine (HCo.out _ hst).mono ?_
          rintro e w' ⟨rfl, hb'⟩
          go_wp2_with fail
          refine hK.out _ _ (blk5 (hHeld.2.2.2.2.2.trans (hb'.mono (Nat.le_trans hPX hHeld.2.2.2.2.2.size))) HKX.out (Nat.lt_succ_self P)) (fun hHeld => ?_)
          clear hK K
          try simp only [List.getElem_toArray, List.getElem_cons_succ, List.getElem_cons_zero, Act.put, List.setIfInBounds_toArray, List.set_cons_zero, List.set_cons_succ]
          replace hst := hst.trans (hb'.mono hst.size)
          clear hb'
          refine wpAnyH_ready (rs := [13, 22]) (by kernel_rfl) (by simp) ?_
          refine AllReadyH.cons (o := _) rfl (fun K hK => ?_) ?_
          · try simp only [List.getElem_toArray, List.getElem_cons_succ, List.getElem_cons_zero]
            go_simp
            refine (HOp.out _ hst).mono ?_
            rintro e w' ⟨rfl, hb'⟩
            go_wp2_with fail
            refine hK.out _ _ (blk5 (hHeld.2.2.2.2.2.trans (hb'.mono (Nat.le_trans hPX hHeld.2.2.2.2.2.size))) HKX.out (Nat.lt_succ_self P)) (fun hHeld => ?_)
            clear hK K
            try simp only [List.getElem_toArray, List.getElem_cons_succ, List.getElem_cons_zero, Act.put, List.setIfInBounds_toArray, List.set_cons_zero, List.set_cons_succ]
            replace hst := hst.trans (hb'.mono hst.size)
            clear hb'
            refine wpAnyH_take (i := 14) (oi := _) (v := ?_) rfl (by kernel_rfl) (by kernel_rfl) (by kernel_rfl) (fun _ _ _ h => h) (Or.inl ⟨by rfl, ?_⟩) (by assumption) ?_
            rotate_left 1
            · (intro w9 hS9; (try dsimp only at hS9); go_simp <;> with_reducible rfl)
            try simp only [List.getElem_toArray, List.getElem_cons_succ, List.getElem_cons_zero, Act.put, List.setIfInBounds_toArray, List.set_cons_zero, List.set_cons_succ]
            refine wpAnyH_ready (rs := [22]) (by kernel_rfl) (by simp) ?_
            refine AllReadyH.cons (o := _) rfl (fun K hK => ?_) ?_
            · try simp only [List.getElem_toArray, List.getElem_cons_succ, List.getElem_cons_zero]
              go_simp
              refine hK.out _ _ (blk5 (hHeld.2.2.2.2.2.alloc (Nat.le_trans hPX hHeld.2.2.2.2.2.size) _) HKX.out (Nat.lt_succ_self P)) (fun hHeld => ?_)
              clear hK K
              try simp only [List.getElem_toArray, List.getElem_cons_succ, List.getElem_cons_zero, Act.put, List.setIfInBounds_toArray, List.set_cons_zero, List.set_cons_succ]
              have kE := Blk.new w' 74 #[.int .i64 t, .int .i64 (T + k)]
              replace hst := hst.alloc hst.size (.cells #[.int .i64 t, .int .i64 (T + k)] 74)
              obtain ⟨W9, hW9⟩ : ∃ W9, w'.alloc (.cells #[.int .i64 t, .int .i64 (T + k)] 74) = W9 := ⟨_, rfl⟩
              rw [hW9] at kE hst hHeld ⊢
              clear hW9
              refine wpAnyH_ready (rs := [23]) (by kernel_rfl) (by simp) ?_
              refine AllReadyH.cons (o := _) rfl (fun K hK => ?_) ?_
              · try simp only [List.getElem_toArray, List.getElem_cons_succ, List.getElem_cons_zero]
                rw [if_pos (show Region.wanted _ _ = true from rfl)]
                refine wp_append_sub _ (.tmp 65) (.tmp 73) _ (by rfl) 74 i0 _ 2 16 Try.underlying22 HI.out.1 HI.out.2.1 HI.out.2.2.1 HI.out.2.2.2 rfl g c 0 0 cur (HGX.out.below hst HGX.out.lt) HCUR.out.2.1 hq0 hnc hcm (l.flatMap encM) HCUR.out.2.2 _ #[.int .i64 t, .int .i64 (T + k)] kE rfl (one2 _ _) (by simp only [maxLen]; omega) (by omega) _ _ _ (by rfl) (by rfl) (.inl rfl) (by omega) (by omega) ?_
                intro A9 c9 w9 h9 hnc9 hcm9 hgr hbk
                have hsz9 := Nat.le_trans hPX hst.size
                refine hK.out _ _ (blk5 (hHeld.2.2.2.2.2.grown hgr hsz9 (fun _ h => by injection h with h; omega)) HKX.out (Nat.lt_succ_self P)) (fun hHeld => ?_)
                clear hK K hgr
                try simp only [List.getElem_toArray, List.getElem_cons_succ, List.getElem_cons_zero, Act.put, List.setIfInBounds_toArray, List.set_cons_zero, List.set_cons_succ]
                refine wpAnyH_take (i := 24) (oi := _) (v := ?_) rfl (by kernel_rfl) (by kernel_rfl) (by kernel_rfl) (fun _ _ _ h => h) (Or.inl ⟨by rfl, ?_⟩) (by assumption) ?_
                rotate_left 1
                · (intro w9 hS9; (try dsimp only at hS9); go_simp <;> with_reducible rfl)
                try simp only [List.getElem_toArray, List.getElem_cons_succ, List.getElem_cons_zero, Act.put, List.setIfInBounds_toArray, List.set_cons_zero, List.set_cons_succ]
                refine wpAnyH_take (i := 25) (oi := _) (v := ?_) rfl (by kernel_rfl) (by kernel_rfl) (by kernel_rfl) (fun _ _ _ h => h) (Or.inl ⟨by rfl, ?_⟩) (by assumption) ?_
                rotate_left 1
                · (intro w9 hS9; (try dsimp only at hS9); go_simp <;> with_reducible rfl)
                try simp only [List.getElem_toArray, List.getElem_cons_succ, List.getElem_cons_zero, Act.put, List.setIfInBounds_toArray, List.set_cons_zero, List.set_cons_succ]
                refine wpAnyH_take (i := 26) (oi := _) (v := ?_) rfl (by kernel_rfl) (by kernel_rfl) (by kernel_rfl) (fun _ _ _ h => h) (Or.inl ⟨by rfl, ?_⟩) (by assumption) ?_
                rotate_left 1
                · (intro w9 hS9; (try dsimp only at hS9); go_simp <;> with_reducible rfl)
                try simp only [List.getElem_toArray, List.getElem_cons_succ, List.getElem_cons_zero, Act.put, List.setIfInBounds_toArray, List.set_cons_zero, List.set_cons_succ]
                refine wpAnyH_done (by kernel_rfl) ?_ _
                refine snocQ_normal rfl ?_
                have hk9 := HKX.out.below hHeld.2.2.2.2.2 (Nat.lt_succ_self P)
                have hb9 := (hbX.mono (show P ≤ w.heap.size by omega)).trans (hHeld.2.2.2.2.2.mono (by omega))
                have hnp : ∀ ad, A9 = some ad → P < ad.block := fun ad h => by rcases hbk ad h with h | h <;> omega
                have z4 := hk9.frozen 4
                have z3 := hk9.frozen 3
                have l9 := hk9.lt
                have HF := Lib.hid (And.intro hk9 (And.intro hb9 (And.intro h9 (And.intro hnp (And.intro hnc9 hcm9)))))
                obtain ⟨f0, f1, f2, f3, f4, _⟩ := blk5 (Below.refl _ w9) hk9 hk9.lt
                clear hk9 hb9 h9 hnc9 hcm9 hHeld hst kE hnp hbk
                have hle : (((0 - 0 + 1 : Nat)) : Int) ≤ 4096 := by omega
                generalize hgn : 0 - 0 + 1 = n9 at *
                have HGN := Lib.hid hgn
                clear hgn
                go_wp2_with fail
                go_ret
                refine ⟨rfl, (HF.out.2.1.setCell (p := ⟨P, 4, none⟩) (Nat.le_refl _) _).setCell (p := ⟨P, 3, none⟩) (Nat.le_refl _) _, ?_⟩
                try intro _
                refine ⟨A9, _, c9, (HF.out.1.set_ 4 _).set_ 3 _, ?_, HF.out.2.2.2.2.1, HF.out.2.2.2.2.2, HF.out.2.2.2.1⟩
                rw [admL, if_neg HLN.out, HTT.out, HQ.out]
                have h10 := Reads.far (Reads.far HF.out.2.2.1 (p := ⟨P, 4, none⟩) (fun ad h => Nat.ne_of_gt (HF.out.2.2.2.1 ad h)) (.slice A9 n9 c9)) (p := ⟨P, 3, none⟩) (fun ad h => Nat.ne_of_gt (HF.out.2.2.2.1 ad h)) (.int .i64 (b + k))
                rw [encM_drop] at h10
                exact Reads.more h10 (by simp [World.setCell])
              · skip
                exact AllReadyH.nil
            · skip
              exact AllReadyH.nil
          · skip
            refine AllReadyH.cons (o := _) rfl (fun K hK => ?_) ?_
            · try simp only [List.getElem_toArray, List.getElem_cons_succ, List.getElem_cons_zero]
              go_simp
              refine hK.out _ _ (blk5 (hHeld.2.2.2.2.2.alloc (Nat.le_trans hPX hHeld.2.2.2.2.2.size) _) HKX.out (Nat.lt_succ_self P)) (fun hHeld => ?_)
              clear hK K
              try simp only [List.getElem_toArray, List.getElem_cons_succ, List.getElem_cons_zero, Act.put, List.setIfInBounds_toArray, List.set_cons_zero, List.set_cons_succ]
              have kE := Blk.new w' 74 #[.int .i64 t, .int .i64 (T + k)]
              replace hst := hst.alloc hst.size (.cells #[.int .i64 t, .int .i64 (T + k)] 74)
              obtain ⟨W9, hW9⟩ : ∃ W9, w'.alloc (.cells #[.int .i64 t, .int .i64 (T + k)] 74) = W9 := ⟨_, rfl⟩
              rw [hW9] at kE hst hHeld ⊢
              clear hW9
              refine wpAnyH_ready (rs := [13]) (by kernel_rfl) (by simp) ?_
              refine AllReadyH.cons (o := _) rfl (fun K hK => ?_) ?_
              · try simp only [List.getElem_toArray, List.getElem_cons_succ, List.getElem_cons_zero]
                go_simp
                refine (HOp.out _ hst).mono ?_
                rintro e w' ⟨rfl, hb'⟩
                go_wp2_with fail
                refine hK.out _ _ (blk5 (hHeld.2.2.2.2.2.trans (hb'.mono (Nat.le_trans hPX hHeld.2.2.2.2.2.size))) HKX.out (Nat.lt_succ_self P)) (fun hHeld => ?_)
                clear hK K
                try simp only [List.getElem_toArray, List.getElem_cons_succ, List.getElem_cons_zero, Act.put, List.setIfInBounds_toArray, List.set_cons_zero, List.set_cons_succ]
                replace hst := hst.trans (hb'.mono hst.size)
                replace kE := kE.below hb' kE.lt
                clear hb'
                refine wpAnyH_take (i := 14) (oi := _) (v := ?_) rfl (by kernel_rfl) (by kernel_rfl) (by kernel_rfl) (fun _ _ _ h => h) (Or.inl ⟨by rfl, ?_⟩) (by assumption) ?_
                rotate_left 1
                · (intro w9 hS9; (try dsimp only at hS9); go_simp <;> with_reducible rfl)
                try simp only [List.getElem_toArray, List.getElem_cons_succ, List.getElem_cons_zero, Act.put, List.setIfInBounds_toArray, List.set_cons_zero, List.set_cons_succ]
                refine wpAnyH_ready (rs := [23]) (by kernel_rfl) (by simp) ?_
                refine AllReadyH.cons (o := _) rfl (fun K hK => ?_) ?_
                · try simp only [List.getElem_toArray, List.getElem_cons_succ, List.getElem_cons_zero]
                  rw [if_pos (show Region.wanted _ _ = true from rfl)]
                  refine wp_append_sub _ (.tmp 65) (.tmp 73) _ (by rfl) 74 i0 _ 2 16 Try.underlying22 HI.out.1 HI.out.2.1 HI.out.2.2.1 HI.out.2.2.2 rfl g c 0 0 cur (HGX.out.below hst HGX.out.lt) HCUR.out.2.1 hq0 hnc hcm (l.flatMap encM) HCUR.out.2.2 _ #[.int .i64 t, .int .i64 (T + k)] kE rfl (one2 _ _) (by simp only [maxLen]; omega) (by omega) _ _ _ (by rfl) (by rfl) (.inl rfl) (by omega) (by omega) ?_
                  intro A9 c9 w9 h9 hnc9 hcm9 hgr hbk
                  have hsz9 := Nat.le_trans hPX hst.size
                  refine hK.out _ _ (blk5 (hHeld.2.2.2.2.2.grown hgr hsz9 (fun _ h => by injection h with h; omega)) HKX.out (Nat.lt_succ_self P)) (fun hHeld => ?_)
                  clear hK K hgr
                  try simp only [List.getElem_toArray, List.getElem_cons_succ, List.getElem_cons_zero, Act.put, List.setIfInBounds_toArray, List.set_cons_zero, List.set_cons_succ]
                  refine wpAnyH_take (i := 24) (oi := _) (v := ?_) rfl (by kernel_rfl) (by kernel_rfl) (by kernel_rfl) (fun _ _ _ h => h) (Or.inl ⟨by rfl, ?_⟩) (by assumption) ?_
                  rotate_left 1
                  · (intro w9 hS9; (try dsimp only at hS9); go_simp <;> with_reducible rfl)
                  try simp only [List.getElem_toArray, List.getElem_cons_succ, List.getElem_cons_zero, Act.put, List.setIfInBounds_toArray, List.set_cons_zero, List.set_cons_succ]
                  refine wpAnyH_take (i := 25) (oi := _) (v := ?_) rfl (by kernel_rfl) (by kernel_rfl) (by kernel_rfl) (fun _ _ _ h => h) (Or.inl ⟨by rfl, ?_⟩) (by assumption) ?_
                  rotate_left 1
                  · (intro w9 hS9; (try dsimp only at hS9); go_simp <;> with_reducible rfl)
                  try simp only [List.getElem_toArray, List.getElem_cons_succ, List.getElem_cons_zero, Act.put, List.setIfInBounds_toArray, List.set_cons_zero, List.set_cons_succ]
                  refine wpAnyH_take (i := 26) (oi := _) (v := ?_) rfl (by kernel_rfl) (by kernel_rfl) (by kernel_rfl) (fun _ _ _ h => h) (Or.inl ⟨by rfl, ?_⟩) (by assumption) ?_
                  rotate_left 1
                  · (intro w9 hS9; (try dsimp only at hS9); go_simp <;> with_reducible rfl)
                  try simp only [List.getElem_toArray, List.getElem_cons_succ, List.getElem_cons_zero, Act.put, List.setIfInBounds_toArray, List.set_cons_zero, List.set_cons_succ]
                  refine wpAnyH_done (by kernel_rfl) ?_ _
                  refine snocQ_normal rfl ?_
                  have hk9 := HKX.out.below hHeld.2.2.2.2.2 (Nat.lt_succ_self P)
                  have hb9 := (hbX.mono (show P ≤ w.heap.size by omega)).trans (hHeld.2.2.2.2.2.mono (by omega))
                  have hnp : ∀ ad, A9 = some ad → P < ad.block := fun ad h => by rcases hbk ad h with h | h <;> omega
                  have z4 := hk9.frozen 4
                  have z3 := hk9.frozen 3
                  have l9 := hk9.lt
                  have HF := Lib.hid (And.intro hk9 (And.intro hb9 (And.intro h9 (And.intro hnp (And.intro hnc9 hcm9)))))
                  obtain ⟨f0, f1, f2, f3, f4, _⟩ := blk5 (Below.refl _ w9) hk9 hk9.lt
                  clear hk9 hb9 h9 hnc9 hcm9 hHeld hst kE hnp hbk
                  have hle : (((0 - 0 + 1 : Nat)) : Int) ≤ 4096 := by omega
                  generalize hgn : 0 - 0 + 1 = n9 at *
                  have HGN := Lib.hid hgn
                  clear hgn
                  go_wp2_with fail
                  go_ret
                  refine ⟨rfl, (HF.out.2.1.setCell (p := ⟨P, 4, none⟩) (Nat.le_refl _) _).setCell (p := ⟨P, 3, none⟩) (Nat.le_refl _) _, ?_⟩
                  try intro _
                  refine ⟨A9, _, c9, (HF.out.1.set_ 4 _).set_ 3 _, ?_, HF.out.2.2.2.2.1, HF.out.2.2.2.2.2, HF.out.2.2.2.1⟩
                  rw [admL, if_neg HLN.out, HTT.out, HQ.out]
                  have h10 := Reads.far (Reads.far HF.out.2.2.1 (p := ⟨P, 4, none⟩) (fun ad h => Nat.ne_of_gt (HF.out.2.2.2.1 ad h)) (.slice A9 n9 c9)) (p := ⟨P, 3, none⟩) (fun ad h => Nat.ne_of_gt (HF.out.2.2.2.1 ad h)) (.int .i64 (b + k))
                  rw [encM_drop] at h10
                  exact Reads.more h10 (by simp [World.setCell])
                · skip
                  exact AllReadyH.nil
              · skip
                exact AllReadyH.nil
            · skip
              exact AllReadyH.nil
        · skip
          refine AllReadyH.cons (o := _) rfl (fun K hK => ?_) ?_
          · try simp only [List.getElem_toArray, List.getElem_cons_succ, List.getElem_cons_zero]
            go_simp
            refine hK.out _ _ (blk5 (hHeld.2.2.2.2.2.alloc (Nat.le_trans hPX hHeld.2.2.2.2.2.size) _) HKX.out (Nat.lt_succ_self P)) (fun hHeld => ?_)
            clear hK K
            try simp only [List.getElem_toArray, List.getElem_cons_succ, List.getElem_cons_zero, Act.put, List.setIfInBounds_toArray, List.set_cons_zero, List.set_cons_succ]
            have kE : Blk (X0.alloc (.cells #[.int .i64 t, .int .i64 (T + k)] 74)).drew X0.heap.size 74 #[.int .i64 t, .int .i64 (T + k)] := Blk.new X0 74 _
            replace hst : Below X0.heap.size X0 (X0.alloc (.cells #[.int .i64 t, .int .i64 (T + k)] 74)).drew := ((Below.refl _ X0).alloc (Nat.le_refl _) _).drew
            obtain ⟨W9, hW9⟩ : ∃ W9, (X0.alloc (.cells #[.int .i64 t, .int .i64 (T + k)] 74)).drew = W9 := ⟨_, rfl⟩
            rw [hW9] at kE hst hHeld ⊢
            clear hW9
            refine wpAnyH_ready (rs := [12]) (by kernel_rfl) (by simp) ?_
            refine AllReadyH.cons (o := _) rfl (fun K hK => ?_) ?_
            · try simp only [List.getElem_toArray, List.getElem_cons_succ, List.getElem_cons_zero]
              go_simp
              refine (HCo.out _ hst).mono ?_
              rintro e w' ⟨rfl, hb'⟩
              go_wp2_with fail
              refine hK.out _ _ (blk5 (hHeld.2.2.2.2.2.trans (hb'.mono (Nat.le_trans hPX hHeld.2.2.2.2.2.size))) HKX.out (Nat.lt_succ_self P)) (fun hHeld => ?_)
              clear hK K
              try simp only [List.getElem_toArray, List.getElem_cons_succ, List.getElem_cons_zero, Act.put, List.setIfInBounds_toArray, List.set_cons_zero, List.set_cons_succ]
              replace hst := hst.trans (hb'.mono hst.size)
              replace kE := kE.below hb' kE.lt
              clear hb'
              refine wpAnyH_ready (rs := [13]) (by kernel_rfl) (by simp) ?_
              refine AllReadyH.cons (o := _) rfl (fun K hK => ?_) ?_
              · try simp only [List.getElem_toArray, List.getElem_cons_succ, List.getElem_cons_zero]
                go_simp
                refine (HOp.out _ hst).mono ?_
                rintro e w' ⟨rfl, hb'⟩
                go_wp2_with fail
                refine hK.out _ _ (blk5 (hHeld.2.2.2.2.2.trans (hb'.mono (Nat.le_trans hPX hHeld.2.2.2.2.2.size))) HKX.out (Nat.lt_succ_self P)) (fun hHeld => ?_)
                clear hK K
                try simp only [List.getElem_toArray, List.getElem_cons_succ, List.getElem_cons_zero, Act.put, List.setIfInBounds_toArray, List.set_cons_zero, List.set_cons_succ]
                replace hst := hst.trans (hb'.mono hst.size)
                replace kE := kE.below hb' kE.lt
                clear hb'
                refine wpAnyH_take (i := 14) (oi := _) (v := ?_) rfl (by kernel_rfl) (by kernel_rfl) (by kernel_rfl) (fun _ _ _ h => h) (Or.inl ⟨by rfl, ?_⟩) (by assumption) ?_
                rotate_left 1
                · (intro w9 hS9; (try dsimp only at hS9); go_simp <;> with_reducible rfl)
                try simp only [List.getElem_toArray, List.getElem_cons_succ, List.getElem_cons_zero, Act.put, List.setIfInBounds_toArray, List.set_cons_zero, List.set_cons_succ]
                refine wpAnyH_ready (rs := [23]) (by kernel_rfl) (by simp) ?_
                refine AllReadyH.cons (o := _) rfl (fun K hK => ?_) ?_
                · try simp only [List.getElem_toArray, List.getElem_cons_succ, List.getElem_cons_zero]
                  rw [if_pos (show Region.wanted _ _ = true from rfl)]
                  refine wp_append_sub _ (.tmp 65) (.tmp 73) _ (by rfl) 74 i0 _ 2 16 Try.underlying22 HI.out.1 HI.out.2.1 HI.out.2.2.1 HI.out.2.2.2 rfl g c 0 0 cur (HGX.out.below hst HGX.out.lt) HCUR.out.2.1 hq0 hnc hcm (l.flatMap encM) HCUR.out.2.2 _ #[.int .i64 t, .int .i64 (T + k)] kE rfl (one2 _ _) (by simp only [maxLen]; omega) (by omega) _ _ _ (by rfl) (by rfl) (.inl rfl) (by omega) (by omega) ?_
                  intro A9 c9 w9 h9 hnc9 hcm9 hgr hbk
                  have hsz9 := Nat.le_trans hPX hst.size
                  refine hK.out _ _ (blk5 (hHeld.2.2.2.2.2.grown hgr hsz9 (fun _ h => by injection h with h; omega)) HKX.out (Nat.lt_succ_self P)) (fun hHeld => ?_)
                  clear hK K hgr
                  try simp only [List.getElem_toArray, List.getElem_cons_succ, List.getElem_cons_zero, Act.put, List.setIfInBounds_toArray, List.set_cons_zero, List.set_cons_succ]
                  refine wpAnyH_take (i := 24) (oi := _) (v := ?_) rfl (by kernel_rfl) (by kernel_rfl) (by kernel_rfl) (fun _ _ _ h => h) (Or.inl ⟨by rfl, ?_⟩) (by assumption) ?_
                  rotate_left 1
                  · (intro w9 hS9; (try dsimp only at hS9); go_simp <;> with_reducible rfl)
                  try simp only [List.getElem_toArray, List.getElem_cons_succ, List.getElem_cons_zero, Act.put, List.setIfInBounds_toArray, List.set_cons_zero, List.set_cons_succ]
                  refine wpAnyH_take (i := 25) (oi := _) (v := ?_) rfl (by kernel_rfl) (by kernel_rfl) (by kernel_rfl) (fun _ _ _ h => h) (Or.inl ⟨by rfl, ?_⟩) (by assumption) ?_
                  rotate_left 1
                  · (intro w9 hS9; (try dsimp only at hS9); go_simp <;> with_reducible rfl)
                  try simp only [List.getElem_toArray, List.getElem_cons_succ, List.getElem_cons_zero, Act.put, List.setIfInBounds_toArray, List.set_cons_zero, List.set_cons_succ]
                  refine wpAnyH_take (i := 26) (oi := _) (v := ?_) rfl (by kernel_rfl) (by kernel_rfl) (by kernel_rfl) (fun _ _ _ h => h) (Or.inl ⟨by rfl, ?_⟩) (by assumption) ?_
                  rotate_left 1
                  · (intro w9 hS9; (try dsimp only at hS9); go_simp <;> with_reducible rfl)
                  try simp only [List.getElem_toArray, List.getElem_cons_succ, List.getElem_cons_zero, Act.put, List.setIfInBounds_toArray, List.set_cons_zero, List.set_cons_succ]
                  refine wpAnyH_done (by kernel_rfl) ?_ _
                  refine snocQ_normal rfl ?_
                  have hk9 := HKX.out.below hHeld.2.2.2.2.2 (Nat.lt_succ_self P)
                  have hb9 := (hbX.mono (show P ≤ w.heap.size by omega)).trans (hHeld.2.2.2.2.2.mono (by omega))
                  have hnp : ∀ ad, A9 = some ad → P < ad.block := fun ad h => by rcases hbk ad h with h | h <;> omega
                  have z4 := hk9.frozen 4
                  have z3 := hk9.frozen 3
                  have l9 := hk9.lt
                  have HF := Lib.hid (And.intro hk9 (And.intro hb9 (And.intro h9 (And.intro hnp (And.intro hnc9 hcm9)))))
                  obtain ⟨f0, f1, f2, f3, f4, _⟩ := blk5 (Below.refl _ w9) hk9 hk9.lt
                  clear hk9 hb9 h9 hnc9 hcm9 hHeld hst kE hnp hbk
                  have hle : (((0 - 0 + 1 : Nat)) : Int) ≤ 4096 := by omega
                  generalize hgn : 0 - 0 + 1 = n9 at *
                  have HGN := Lib.hid hgn
                  clear hgn
                  go_wp2_with fail
                  go_ret
                  refine ⟨rfl, (HF.out.2.1.setCell (p := ⟨P, 4, none⟩) (Nat.le_refl _) _).setCell (p := ⟨P, 3, none⟩) (Nat.le_refl _) _, ?_⟩
                  try intro _
                  refine ⟨A9, _, c9, (HF.out.1.set_ 4 _).set_ 3 _, ?_, HF.out.2.2.2.2.1, HF.out.2.2.2.2.2, HF.out.2.2.2.1⟩
                  rw [admL, if_neg HLN.out, HTT.out, HQ.out]
                  have h10 := Reads.far (Reads.far HF.out.2.2.1 (p := ⟨P, 4, none⟩) (fun ad h => Nat.ne_of_gt (HF.out.2.2.2.1 ad h)) (.slice A9 n9 c9)) (p := ⟨P, 3, none⟩) (fun ad h => Nat.ne_of_gt (HF.out.2.2.2.1 ad h)) (.int .i64 (b + k))
                  rw [encM_drop] at h10
                  exact Reads.more h10 (by simp [World.setCell])
                · skip
                  exact AllReadyH.nil
              · skip
                exact AllReadyH.nil
            · skip
              exact AllReadyH.nil
          · skip
            exact AllReadyH.nil
      · obtain ⟨j, rfl⟩ : ∃ j, n = j + 1 := ⟨n - 1, by omega⟩
        have hne : l ≠ [] := by intro h; have := HL.out; rw [h] at this; cases this
        have hlast : l.length = j + 1 := HL.out
        obtain ⟨g', off, hA, hc⟩ := HR.out.cells
        obtain ⟨hA, hgw⟩ := hA (by omega)
        injection hA with hA
        injection hA with e1 e2 _
        subst e1 e2
        obtain ⟨d0, _⟩ := hc j (by omega)
        rw [← lastM_at ⟨-1, 0⟩ l j hlast] at d0
        have jw : IntKind.i64.wrap ((j : Int) + 1 - 1) = j := by rw [IntWalk.i64_in _ (by omega)]; omega
        have jw2 : IntKind.i64.wrap (j : Int) = j := IntWalk.i64_in _ (by omega)
        obtain ⟨mt, hmt⟩ : ∃ mt, (lastM ⟨-1, 0⟩ l).t = mt := ⟨_, rfl⟩
        rw [hmt] at d0
        have HMT := Lib.hid hmt
        have HLS := Lib.hid hlast
        clear hc hmt hlast
        by_cases hm : mt = t
        · rw [hm] at d0 HMT
          have HLE : Hid (l ≠ [] ∧ (lastM ⟨-1, 0⟩ l).t = t) := ⟨hne, HMT.out⟩
          clear hm
          have hjl : j < l.length := by rw [HLS.out]; omega
          have hsz : j * 2 + 1 < cur.size := by have := HCUR.out.2.1; omega
          have hcu : w.cell? ⟨g, j * 2 + 1, none⟩ = some cur[j * 2 + 1] := ((show Blk w g 74 cur from HCUR.out.1).cell _).trans (Array.getElem?_eq_getElem hsz)
          obtain ⟨u, hu⟩ : ∃ u, cur[j * 2 + 1] = u := ⟨_, rfl⟩
          rw [hu] at hcu
          rw [Nat.zero_add] at d0
          clear hu hsz hne
          have hgP : g ≠ P := by omega
          have hj4 : ((j : Int) + 1) ≤ 4096 := by omega
          go_enter Try.func35, Try.ntmps35
          go_wp2_with fail
          refine HTo.out.mono ?_
          rintro e w1 ⟨rfl, hb1⟩
          have HB1 := Lib.hid hb1
          have l1 : P < w1.heap.size := Nat.lt_of_lt_of_le hlP hb1.size
          have lg1 : g < w1.heap.size := Nat.lt_of_lt_of_le hgw hb1.size
          have hk1 := HP.out.below hb1 hlP
          obtain ⟨f0, f1, f2, f3, f4, _⟩ := blk5 hb1 HP.out hlP
          have z3 := hk1.frozen 3
          have d1 := (hb1.cell (p := ⟨g, j * 2, none⟩) hgw).trans d0
          have d2 := (hb1.cell (p := ⟨g, j * 2 + 1, none⟩) hgw).trans hcu
          have z2 := ((show Blk w g 74 cur from HCUR.out.1).below hb1 hgw).frozen (j * 2 + 1)
          have HK1 := Lib.hid hk1
          clear hb1 d0 hcu hk1
          go_wp2_with fail
          go_quiet (fail)
          go_wp2_with fail
          go_ret
          have hbq : Below w.heap.size w (w1.drewN nq) := below_drewN HB1.out _
          have hoq := own_set (own_below HO.out hbq) (j * 2 + 1) (.int .i64 (T + k))
          have hse : (l.flatMap encM).set (j * 2 + 1) (.int .i64 (T + k)) = (l.set j ⟨t, T + k⟩).flatMap encM := by
            refine flatMap_set (E := encM) (sz := 2) (fun _ => rfl) l j hjl _ 1 _ (by omega) ?_
            have h9 := HMT.out
            rw [lastM_at _ l j HLS.out] at h9
            have ha : atM l j = l[j] := by simp [atM, hjl]
            rw [ha] at h9
            rw [← h9]
            rfl
          rw [hse] at hoq
          have hP1 : Blk ((w1.drewN nq).setCell ⟨g, j * 2 + 1, none⟩ (.int .i64 (T + k))) P 76 #[.int .i64 o, .int .i64 r, .int .i64 t, .int .i64 b, .slice (some ⟨g, 0, none⟩) (j + 1) c] := (HK1.out.drewN nq).far (p := ⟨g, j * 2 + 1, none⟩) (fun h => hgP h.symm) _
          refine ⟨rfl, ((hbq.mono (show P ≤ w.heap.size by omega)).setCell (p := ⟨g, j * 2 + 1, none⟩) (show P ≤ g by omega) _).setCell (p := ⟨P, 3, none⟩) (Nat.le_refl _) _, ?_⟩
          try intro _
          refine ⟨some ⟨g, 0, none⟩, j + 1, c, hP1.set_ 3 _, ?_, hnc, hcm, fun ad h => by injection h with h; rw [← h]; exact (show P < g by omega)⟩
          rw [admL, if_pos HLE.out, HTT.out, HLS.out, Nat.add_sub_cancel]
          exact Reads.of_own (own_far hoq (p := ⟨P, 3, none⟩) (fun h => by have := own_block_ge hoq P h; omega) _)
        · have HLN : Hid (¬(l ≠ [] ∧ (lastM ⟨-1, 0⟩ l).t = t)) := fun h => hm (HMT.out.symm.trans h.2)
          have hmb : (mt == t) = false := by rw [beq_eq_false_iff_ne]; exact hm
          clear hm
          go_enter Try.func35, Try.ntmps35
          go_wp2_with fail
          refine HTo.out.mono ?_
          rintro e w1 ⟨rfl, hb1⟩
          have HB1 := Lib.hid hb1
          obtain ⟨f0, f1, f2, f3, f4, _⟩ := blk5 hb1 HP.out hlP
          have l1 : P < w1.heap.size := Nat.lt_of_lt_of_le hlP hb1.size
          rw [Nat.zero_add] at d0
          have d1 := (hb1.cell (p := ⟨g, j * 2, none⟩) hgw).trans d0
          clear hb1 d0
          go_wp2_with fail
          go_quiet (fail)
          go_wp2_with fail
          have hbX : Below w.heap.size w (w1.drewN nq) := below_drewN HB1.out _
          have HKX := Lib.hid (HP.out.below hbX hlP)
          clear HB1 f0 f1 f2 f3 f4 l1 d1 jw jw2
          generalize w1.drewN nq = X0 at *
          have HGX := Lib.hid ((show Blk w g 74 cur from HCUR.out.1).below hbX (show Blk w g 74 cur from HCUR.out.1).lt)
          have hPX : P + 1 ≤ X0.heap.size := Nat.le_trans hlP hbX.size
          have hq0 : openM (T - b) l ≤ (j + 1) := by rw [← HL.out]; exact openM_le _ _
          obtain ⟨q, hq⟩ : ∃ q, openM (T - b) l = q := ⟨_, rfl⟩
          have hOq := hOp (T - b)
          rw [hq] at hOq hq0
          have HQ := Lib.hid hq
          have HCo := Lib.hid (fun w9 (h9 : Below X0.heap.size X0 w9) => hCo w9 (hbX.trans (h9.mono hbX.size)))
          have HOp := Lib.hid (fun w9 (h9 : Below X0.heap.size X0 w9) => hOq w9 (hbX.trans (h9.mono hbX.size)))
          clear hCo hOp hOq hq
          by_cases hcq : c = q
          · subst hcq
            obtain rfl : c = j + 1 := by omega
            have hj0 : (0 : Int) ≤ (j : Int) + 1 := by omega
            have hst : Below X0.heap.size X0 X0.drew := (Below.refl _ X0).drew
            refine wp_region_snoc_lit (S := fun w' => w'.cell? ⟨P, 0, none⟩ = some (.int .i64 o) ∧ w'.cell? ⟨P, 1, none⟩ = some (.int .i64 r) ∧ w'.cell? ⟨P, 2, none⟩ = some (.int .i64 t) ∧ w'.cell? ⟨P, 3, none⟩ = some (.int .i64 b) ∧ w'.cell? ⟨P, 4, none⟩ = some (.slice (some ⟨g, 0, none⟩) (j + 1) (j + 1)) ∧ Below (P + 1) X0 w') _ rfl (by kernel_rfl) (by kernel_rfl) (blk5 ((Below.refl (P + 1) X0).drew) HKX.out (Nat.lt_succ_self P)) (fun hHeld => ?_)
            simp only [List.dropLast]
            refine wpAnyH_take (i := 0) (oi := _) (v := ?_) rfl (by kernel_rfl) (by kernel_rfl) (by kernel_rfl) (fun _ _ _ h => h) (Or.inl ⟨by rfl, ?_⟩) (by assumption) ?_
            rotate_left 1
            · (intro w9 hS9; (try dsimp only at hS9); go_simp <;> with_reducible rfl)
            try simp only [List.getElem_toArray, List.getElem_cons_succ, List.getElem_cons_zero, Act.put, List.setIfInBounds_toArray, List.set_cons_zero, List.set_cons_succ]
            refine wpAnyH_take (i := 1) (oi := _) (v := ?_) rfl (by kernel_rfl) (by kernel_rfl) (by kernel_rfl) (fun _ _ _ h => h) (Or.inl ⟨by rfl, ?_⟩) (by assumption) ?_
            rotate_left 1
            · (intro w9 hS9; (try dsimp only at hS9); go_simp <;> with_reducible rfl)
            try simp only [List.getElem_toArray, List.getElem_cons_succ, List.getElem_cons_zero, Act.put, List.setIfInBounds_toArray, List.set_cons_zero, List.set_cons_succ]
            refine wpAnyH_take (i := 2) (oi := _) (v := ?_) rfl (by kernel_rfl) (by kernel_rfl) (by kernel_rfl) (fun _ _ _ h => h) (Or.inl ⟨by rfl, ?_⟩) (by assumption) ?_
            rotate_left 1
            · (intro w9 hS9; (try dsimp only at hS9); go_simp <;> with_reducible rfl)
            try simp only [List.getElem_toArray, List.getElem_cons_succ, List.getElem_cons_zero, Act.put, List.setIfInBounds_toArray, List.set_cons_zero, List.set_cons_succ]
            refine wpAnyH_take (i := 3) (oi := _) (v := ?_) rfl (by kernel_rfl) (by kernel_rfl) (by kernel_rfl) (fun _ _ _ h => h) (Or.inl ⟨by rfl, ?_⟩) (by assumption) ?_
            rotate_left 1
            · (intro w9 hS9; (try dsimp only at hS9); go_simp <;> with_reducible rfl)
            try simp only [List.getElem_toArray, List.getElem_cons_succ, List.getElem_cons_zero, Act.put, List.setIfInBounds_toArray, List.set_cons_zero, List.set_cons_succ]
            refine wpAnyH_take (i := 4) (oi := _) (v := ?_) rfl (by kernel_rfl) (by kernel_rfl) (by kernel_rfl) (fun _ _ _ h => h) (Or.inl ⟨by rfl, ?_⟩) (by assumption) ?_
            rotate_left 1
            · (intro w9 hS9; (try dsimp only at hS9); go_simp <;> with_reducible rfl)
            try simp only [List.getElem_toArray, List.getElem_cons_succ, List.getElem_cons_zero, Act.put, List.setIfInBounds_toArray, List.set_cons_zero, List.set_cons_succ]
            refine wpAnyH_take (i := 5) (oi := _) (v := ?_) rfl (by kernel_rfl) (by kernel_rfl) (by kernel_rfl) (fun _ _ _ h => h) (Or.inl ⟨by rfl, ?_⟩) (by assumption) ?_
            rotate_left 1
            · (intro w9 hS9; (try dsimp only at hS9); go_simp <;> with_reducible rfl)
            try simp only [List.getElem_toArray, List.getElem_cons_succ, List.getElem_cons_zero, Act.put, List.setIfInBounds_toArray, List.set_cons_zero, List.set_cons_succ]
            refine wpAnyH_take (i := 6) (oi := _) (v := ?_) rfl (by kernel_rfl) (by kernel_rfl) (by kernel_rfl) (fun _ _ _ h => h) (Or.inl ⟨by rfl, ?_⟩) (by assumption) ?_
            rotate_left 1
            · (intro w9 hS9; (try dsimp only at hS9); go_simp <;> with_reducible rfl)
            try simp only [List.getElem_toArray, List.getElem_cons_succ, List.getElem_cons_zero, Act.put, List.setIfInBounds_toArray, List.set_cons_zero, List.set_cons_succ]
            refine wpAnyH_take (i := 7) (oi := _) (v := ?_) rfl (by kernel_rfl) (by kernel_rfl) (by kernel_rfl) (fun _ _ _ h => h) (Or.inl ⟨by rfl, ?_⟩) (by assumption) ?_
            rotate_left 1
            · (intro w9 hS9; (try dsimp only at hS9); go_simp <;> with_reducible rfl)
            try simp only [List.getElem_toArray, List.getElem_cons_succ, List.getElem_cons_zero, Act.put, List.setIfInBounds_toArray, List.set_cons_zero, List.set_cons_succ]
            refine wpAnyH_take (i := 8) (oi := _) (v := ?_) rfl (by kernel_rfl) (by kernel_rfl) (by kernel_rfl) (fun _ _ _ h => h) (Or.inl ⟨by rfl, ?_⟩) (by assumption) ?_
            rotate_left 1
            · (intro w9 hS9; (try dsimp only at hS9); go_simp <;> with_reducible rfl)
            try simp only [List.getElem_toArray, List.getElem_cons_succ, List.getElem_cons_zero, Act.put, List.setIfInBounds_toArray, List.set_cons_zero, List.set_cons_succ]
            refine wpAnyH_take (i := 9) (oi := _) (v := ?_) rfl (by kernel_rfl) (by kernel_rfl) (by kernel_rfl) (fun _ _ _ h => h) (Or.inl ⟨by rfl, ?_⟩) (by assumption) ?_
            rotate_left 1
            · (intro w9 hS9; (try dsimp only at hS9); go_simp <;> with_reducible rfl)
            try simp only [List.getElem_toArray, List.getElem_cons_succ, List.getElem_cons_zero, Act.put, List.setIfInBounds_toArray, List.set_cons_zero, List.set_cons_succ]
            refine wpAnyH_take (i := 10) (oi := _) (v := ?_) rfl (by kernel_rfl) (by kernel_rfl) (by kernel_rfl) (fun _ _ _ h => h) (Or.inl ⟨by rfl, ?_⟩) (by assumption) ?_
            rotate_left 1
            · (intro w9 hS9; (try dsimp only at hS9); go_simp <;> with_reducible rfl)
            try simp only [List.getElem_toArray, List.getElem_cons_succ, List.getElem_cons_zero, Act.put, List.setIfInBounds_toArray, List.set_cons_zero, List.set_cons_succ]
            refine wpAnyH_take (i := 11) (oi := _) (v := ?_) rfl (by kernel_rfl) (by kernel_rfl) (by kernel_rfl) (fun _ _ _ h => h) (Or.inl ⟨by rfl, ?_⟩) (by assumption) ?_
            rotate_left 1
            · (intro w9 hS9; (try dsimp only at hS9); go_simp <;> with_reducible rfl)
            try simp only [List.getElem_toArray, List.getElem_cons_succ, List.getElem_cons_zero, Act.put, List.setIfInBounds_toArray, List.set_cons_zero, List.set_cons_succ]
            refine wpAnyH_take (i := 15) (oi := _) (v := ?_) rfl (by kernel_rfl) (by kernel_rfl) (by kernel_rfl) (fun _ _ _ h => h) (Or.inl ⟨by rfl, ?_⟩) (by assumption) ?_
            rotate_left 1
            · (intro w9 hS9; (try dsimp only at hS9); go_simp <;> with_reducible rfl)
            try simp only [List.getElem_toArray, List.getElem_cons_succ, List.getElem_cons_zero, Act.put, List.setIfInBounds_toArray, List.set_cons_zero, List.set_cons_succ]
            refine wpAnyH_take (i := 16) (oi := _) (v := ?_) rfl (by kernel_rfl) (by kernel_rfl) (by kernel_rfl) (fun _ _ _ h => h) (Or.inl ⟨by rfl, ?_⟩) (by assumption) ?_
            rotate_left 1
            · (intro w9 hS9; (try dsimp only at hS9); go_simp <;> with_reducible rfl)
            try simp only [List.getElem_toArray, List.getElem_cons_succ, List.getElem_cons_zero, Act.put, List.setIfInBounds_toArray, List.set_cons_zero, List.set_cons_succ]
            refine wpAnyH_take (i := 17) (oi := _) (v := ?_) rfl (by kernel_rfl) (by kernel_rfl) (by kernel_rfl) (fun _ _ _ h => h) (Or.inl ⟨by rfl, ?_⟩) (by assumption) ?_
            rotate_left 1
            · (intro w9 hS9; (try dsimp only at hS9); go_simp <;> with_reducible rfl)
            try simp only [List.getElem_toArray, List.getElem_cons_succ, List.getElem_cons_zero, Act.put, List.setIfInBounds_toArray, List.set_cons_zero, List.set_cons_succ]
            refine wpAnyH_take (i := 18) (oi := _) (v := ?_) rfl (by kernel_rfl) (by kernel_rfl) (by kernel_rfl) (fun _ _ _ h => h) (Or.inl ⟨by rfl, ?_⟩) (by assumption) ?_
            rotate_left 1
            · (intro w9 hS9; (try dsimp only at hS9); go_simp <;> with_reducible rfl)
            try simp only [List.getElem_toArray, List.getElem_cons_succ, List.getElem_cons_zero, Act.put, List.setIfInBounds_toArray, List.set_cons_zero, List.set_cons_succ]
            refine wpAnyH_take (i := 19) (oi := _) (v := ?_) rfl (by kernel_rfl) (by kernel_rfl) (by kernel_rfl) (fun _ _ _ h => h) (Or.inl ⟨by rfl, ?_⟩) (by assumption) ?_
            rotate_left 1
            · (intro w9 hS9; (try dsimp only at hS9); go_simp <;> with_reducible rfl)
            try simp only [List.getElem_toArray, List.getElem_cons_succ, List.getElem_cons_zero, Act.put, List.setIfInBounds_toArray, List.set_cons_zero, List.set_cons_succ]
            refine wpAnyH_take (i := 20) (oi := _) (v := ?_) rfl (by kernel_rfl) (by kernel_rfl) (by kernel_rfl) (fun _ _ _ h => h) (Or.inl ⟨by rfl, ?_⟩) (by assumption) ?_
            rotate_left 1
            · (intro w9 hS9; (try dsimp only at hS9); go_simp <;> with_reducible rfl)
            try simp only [List.getElem_toArray, List.getElem_cons_succ, List.getElem_cons_zero, Act.put, List.setIfInBounds_toArray, List.set_cons_zero, List.set_cons_succ]
            refine wpAnyH_take (i := 21) (oi := _) (v := ?_) rfl (by kernel_rfl) (by kernel_rfl) (by kernel_rfl) (fun _ _ _ h => h) (Or.inl ⟨by rfl, ?_⟩) (by assumption) ?_
            rotate_left 1
            · (intro w9 hS9; (try dsimp only at hS9); go_simp <;> with_reducible rfl)
            try simp only [List.getElem_toArray, List.getElem_cons_succ, List.getElem_cons_zero, Act.put, List.setIfInBounds_toArray, List.set_cons_zero, List.set_cons_succ]
            refine wpAnyH_ready (rs := [12, 22]) (by kernel_rfl) (by simp) ?_
            refine AllReadyH.cons (o := _) rfl (fun K hK => ?_) ?_
            · try simp only [List.getElem_toArray, List.getElem_cons_succ, List.getElem_cons_zero]
              go_simp
              refine (HCo.out _ hst).mono ?_
              rintro e w' ⟨rfl, hb'⟩
              go_wp2_with fail
              refine hK.out _ _ (blk5 (hHeld.2.2.2.2.2.trans (hb'.mono (Nat.le_trans hPX hHeld.2.2.2.2.2.size))) HKX.out (Nat.lt_succ_self P)) (fun hHeld => ?_)
              clear hK K
              try simp only [List.getElem_toArray, List.getElem_cons_succ, List.getElem_cons_zero, Act.put, List.setIfInBounds_toArray, List.set_cons_zero, List.set_cons_succ]
              replace hst := hst.trans (hb'.mono hst.size)
              clear hb'
              refine wpAnyH_ready (rs := [13, 22]) (by kernel_rfl) (by simp) ?_
              refine AllReadyH.cons (o := _) rfl (fun K hK => ?_) ?_
              · try simp only [List.getElem_toArray, List.getElem_cons_succ, List.getElem_cons_zero]
                go_simp
                refine (HOp.out _ hst).mono ?_
                rintro e w' ⟨rfl, hb'⟩
                go_wp2_with fail
                refine hK.out _ _ (blk5 (hHeld.2.2.2.2.2.trans (hb'.mono (Nat.le_trans hPX hHeld.2.2.2.2.2.size))) HKX.out (Nat.lt_succ_self P)) (fun hHeld => ?_)
                clear hK K
                try simp only [List.getElem_toArray, List.getElem_cons_succ, List.getElem_cons_zero, Act.put, List.setIfInBounds_toArray, List.set_cons_zero, List.set_cons_succ]
                replace hst := hst.trans (hb'.mono hst.size)
                clear hb'
                refine wpAnyH_take (i := 14) (oi := _) (v := ?_) rfl (by kernel_rfl) (by kernel_rfl) (by kernel_rfl) (fun _ _ _ h => h) (Or.inl ⟨by rfl, ?_⟩) (by assumption) ?_
                rotate_left 1
                · (intro w9 hS9; (try dsimp only at hS9); go_simp <;> with_reducible rfl)
                try simp only [List.getElem_toArray, List.getElem_cons_succ, List.getElem_cons_zero, Act.put, List.setIfInBounds_toArray, List.set_cons_zero, List.set_cons_succ]
                refine wpAnyH_ready (rs := [22]) (by kernel_rfl) (by simp) ?_
                refine AllReadyH.cons (o := _) rfl (fun K hK => ?_) ?_
                · try simp only [List.getElem_toArray, List.getElem_cons_succ, List.getElem_cons_zero]
                  go_simp
                  refine hK.out _ _ (blk5 (hHeld.2.2.2.2.2.alloc (Nat.le_trans hPX hHeld.2.2.2.2.2.size) _) HKX.out (Nat.lt_succ_self P)) (fun hHeld => ?_)
                  clear hK K
                  try simp only [List.getElem_toArray, List.getElem_cons_succ, List.getElem_cons_zero, Act.put, List.setIfInBounds_toArray, List.set_cons_zero, List.set_cons_succ]
                  have kE := Blk.new w' 74 #[.int .i64 t, .int .i64 (T + k)]
                  replace hst := hst.alloc hst.size (.cells #[.int .i64 t, .int .i64 (T + k)] 74)
                  obtain ⟨W9, hW9⟩ : ∃ W9, w'.alloc (.cells #[.int .i64 t, .int .i64 (T + k)] 74) = W9 := ⟨_, rfl⟩
                  rw [hW9] at kE hst hHeld ⊢
                  clear hW9
                  refine wpAnyH_ready (rs := [23]) (by kernel_rfl) (by simp) ?_
                  refine AllReadyH.cons (o := _) rfl (fun K hK => ?_) ?_
                  · try simp only [List.getElem_toArray, List.getElem_cons_succ, List.getElem_cons_zero]
                    rw [if_pos (show Region.wanted _ _ = true from rfl)]
                    refine wp_append_sub _ (.tmp 65) (.tmp 73) _ (by rfl) 74 i0 _ 2 16 Try.underlying22 HI.out.1 HI.out.2.1 HI.out.2.2.1 HI.out.2.2.2 rfl g (j + 1) (j + 1) (j + 1) cur (HGX.out.below hst HGX.out.lt) HCUR.out.2.1 hq0 hnc hcm (l.flatMap encM) HCUR.out.2.2 _ #[.int .i64 t, .int .i64 (T + k)] kE rfl (one2 _ _) (by simp only [maxLen]; omega) (by omega) _ _ _ (by rfl) (by rfl) (.inr rfl) (by omega) (by omega) ?_
                    intro A9 c9 w9 h9 hnc9 hcm9 hgr hbk
                    have hsz9 := Nat.le_trans hPX hst.size
                    refine hK.out _ _ (blk5 (hHeld.2.2.2.2.2.grown hgr hsz9 (fun _ h => by injection h with h; omega)) HKX.out (Nat.lt_succ_self P)) (fun hHeld => ?_)
                    clear hK K hgr
                    try simp only [List.getElem_toArray, List.getElem_cons_succ, List.getElem_cons_zero, Act.put, List.setIfInBounds_toArray, List.set_cons_zero, List.set_cons_succ]
                    refine wpAnyH_take (i := 24) (oi := _) (v := ?_) rfl (by kernel_rfl) (by kernel_rfl) (by kernel_rfl) (fun _ _ _ h => h) (Or.inl ⟨by rfl, ?_⟩) (by assumption) ?_
                    rotate_left 1
                    · (intro w9 hS9; (try dsimp only at hS9); go_simp <;> with_reducible rfl)
                    try simp only [List.getElem_toArray, List.getElem_cons_succ, List.getElem_cons_zero, Act.put, List.setIfInBounds_toArray, List.set_cons_zero, List.set_cons_succ]
                    refine wpAnyH_take (i := 25) (oi := _) (v := ?_) rfl (by kernel_rfl) (by kernel_rfl) (by kernel_rfl) (fun _ _ _ h => h) (Or.inl ⟨by rfl, ?_⟩) (by assumption) ?_
                    rotate_left 1
                    · (intro w9 hS9; (try dsimp only at hS9); go_simp <;> with_reducible rfl)
                    try simp only [List.getElem_toArray, List.getElem_cons_succ, List.getElem_cons_zero, Act.put, List.setIfInBounds_toArray, List.set_cons_zero, List.set_cons_succ]
                    refine wpAnyH_take (i := 26) (oi := _) (v := ?_) rfl (by kernel_rfl) (by kernel_rfl) (by kernel_rfl) (fun _ _ _ h => h) (Or.inl ⟨by rfl, ?_⟩) (by assumption) ?_
                    rotate_left 1
                    · (intro w9 hS9; (try dsimp only at hS9); go_simp <;> with_reducible rfl)
                    try simp only [List.getElem_toArray, List.getElem_cons_succ, List.getElem_cons_zero, Act.put, List.setIfInBounds_toArray, List.set_cons_zero, List.set_cons_succ]
                    refine wpAnyH_done (by kernel_rfl) ?_ _
                    refine snocQ_normal rfl ?_
                    have hk9 := HKX.out.below hHeld.2.2.2.2.2 (Nat.lt_succ_self P)
                    have hb9 := (hbX.mono (show P ≤ w.heap.size by omega)).trans (hHeld.2.2.2.2.2.mono (by omega))
                    have hnp : ∀ ad, A9 = some ad → P < ad.block := fun ad h => by rcases hbk ad h with h | h <;> omega
                    have z4 := hk9.frozen 4
                    have z3 := hk9.frozen 3
                    have l9 := hk9.lt
                    have HF := Lib.hid (And.intro hk9 (And.intro hb9 (And.intro h9 (And.intro hnp (And.intro hnc9 hcm9)))))
                    obtain ⟨f0, f1, f2, f3, f4, _⟩ := blk5 (Below.refl _ w9) hk9 hk9.lt
                    clear hk9 hb9 h9 hnc9 hcm9 hHeld hst kE hnp hbk
                    have hle : ((((j + 1) - (j + 1) + 1 : Nat)) : Int) ≤ 4096 := by omega
                    generalize hgn : (j + 1) - (j + 1) + 1 = n9 at *
                    have HGN := Lib.hid hgn
                    clear hgn
                    go_wp2_with fail
                    go_ret
                    refine ⟨rfl, (HF.out.2.1.setCell (p := ⟨P, 4, none⟩) (Nat.le_refl _) _).setCell (p := ⟨P, 3, none⟩) (Nat.le_refl _) _, ?_⟩
                    try intro _
                    refine ⟨A9, _, c9, (HF.out.1.set_ 4 _).set_ 3 _, ?_, HF.out.2.2.2.2.1, HF.out.2.2.2.2.2, HF.out.2.2.2.1⟩
                    rw [admL, if_neg HLN.out, HTT.out, HQ.out]
                    have h10 := Reads.far (Reads.far HF.out.2.2.1 (p := ⟨P, 4, none⟩) (fun ad h => Nat.ne_of_gt (HF.out.2.2.2.1 ad h)) (.slice A9 n9 c9)) (p := ⟨P, 3, none⟩) (fun ad h => Nat.ne_of_gt (HF.out.2.2.2.1 ad h)) (.int .i64 (b + k))
                    rw [encM_drop] at h10
                    exact Reads.more h10 (by simp [World.setCell])
                  · skip
                    exact AllReadyH.nil
                · skip
                  exact AllReadyH.nil
              · skip
                refine AllReadyH.cons (o := _) rfl (fun K hK => ?_) ?_
                · try simp only [List.getElem_toArray, List.getElem_cons_succ, List.getElem_cons_zero]
                  go_simp
                  refine hK.out _ _ (blk5 (hHeld.2.2.2.2.2.alloc (Nat.le_trans hPX hHeld.2.2.2.2.2.size) _) HKX.out (Nat.lt_succ_self P)) (fun hHeld => ?_)
                  clear hK K
                  try simp only [List.getElem_toArray, List.getElem_cons_succ, List.getElem_cons_zero, Act.put, List.setIfInBounds_toArray, List.set_cons_zero, List.set_cons_succ]
                  have kE := Blk.new w' 74 #[.int .i64 t, .int .i64 (T + k)]
                  replace hst := hst.alloc hst.size (.cells #[.int .i64 t, .int .i64 (T + k)] 74)
                  obtain ⟨W9, hW9⟩ : ∃ W9, w'.alloc (.cells #[.int .i64 t, .int .i64 (T + k)] 74) = W9 := ⟨_, rfl⟩
                  rw [hW9] at kE hst hHeld ⊢
                  clear hW9
                  refine wpAnyH_ready (rs := [13]) (by kernel_rfl) (by simp) ?_
                  refine AllReadyH.cons (o := _) rfl (fun K hK => ?_) ?_
                  · try simp only [List.getElem_toArray, List.getElem_cons_succ, List.getElem_cons_zero]
                    go_simp
                    refine (HOp.out _ hst).mono ?_
                    rintro e w' ⟨rfl, hb'⟩
                    go_wp2_with fail
                    refine hK.out _ _ (blk5 (hHeld.2.2.2.2.2.trans (hb'.mono (Nat.le_trans hPX hHeld.2.2.2.2.2.size))) HKX.out (Nat.lt_succ_self P)) (fun hHeld => ?_)
                    clear hK K
                    try simp only [List.getElem_toArray, List.getElem_cons_succ, List.getElem_cons_zero, Act.put, List.setIfInBounds_toArray, List.set_cons_zero, List.set_cons_succ]
                    replace hst := hst.trans (hb'.mono hst.size)
                    replace kE := kE.below hb' kE.lt
                    clear hb'
                    refine wpAnyH_take (i := 14) (oi := _) (v := ?_) rfl (by kernel_rfl) (by kernel_rfl) (by kernel_rfl) (fun _ _ _ h => h) (Or.inl ⟨by rfl, ?_⟩) (by assumption) ?_
                    rotate_left 1
                    · (intro w9 hS9; (try dsimp only at hS9); go_simp <;> with_reducible rfl)
                    try simp only [List.getElem_toArray, List.getElem_cons_succ, List.getElem_cons_zero, Act.put, List.setIfInBounds_toArray, List.set_cons_zero, List.set_cons_succ]
                    refine wpAnyH_ready (rs := [23]) (by kernel_rfl) (by simp) ?_
                    refine AllReadyH.cons (o := _) rfl (fun K hK => ?_) ?_
                    · try simp only [List.getElem_toArray, List.getElem_cons_succ, List.getElem_cons_zero]
                      rw [if_pos (show Region.wanted _ _ = true from rfl)]
                      refine wp_append_sub _ (.tmp 65) (.tmp 73) _ (by rfl) 74 i0 _ 2 16 Try.underlying22 HI.out.1 HI.out.2.1 HI.out.2.2.1 HI.out.2.2.2 rfl g (j + 1) (j + 1) (j + 1) cur (HGX.out.below hst HGX.out.lt) HCUR.out.2.1 hq0 hnc hcm (l.flatMap encM) HCUR.out.2.2 _ #[.int .i64 t, .int .i64 (T + k)] kE rfl (one2 _ _) (by simp only [maxLen]; omega) (by omega) _ _ _ (by rfl) (by rfl) (.inr rfl) (by omega) (by omega) ?_
                      intro A9 c9 w9 h9 hnc9 hcm9 hgr hbk
                      have hsz9 := Nat.le_trans hPX hst.size
                      refine hK.out _ _ (blk5 (hHeld.2.2.2.2.2.grown hgr hsz9 (fun _ h => by injection h with h; omega)) HKX.out (Nat.lt_succ_self P)) (fun hHeld => ?_)
                      clear hK K hgr
                      try simp only [List.getElem_toArray, List.getElem_cons_succ, List.getElem_cons_zero, Act.put, List.setIfInBounds_toArray, List.set_cons_zero, List.set_cons_succ]
                      refine wpAnyH_take (i := 24) (oi := _) (v := ?_) rfl (by kernel_rfl) (by kernel_rfl) (by kernel_rfl) (fun _ _ _ h => h) (Or.inl ⟨by rfl, ?_⟩) (by assumption) ?_
                      rotate_left 1
                      · (intro w9 hS9; (try dsimp only at hS9); go_simp <;> with_reducible rfl)
                      try simp only [List.getElem_toArray, List.getElem_cons_succ, List.getElem_cons_zero, Act.put, List.setIfInBounds_toArray, List.set_cons_zero, List.set_cons_succ]
                      refine wpAnyH_take (i := 25) (oi := _) (v := ?_) rfl (by kernel_rfl) (by kernel_rfl) (by kernel_rfl) (fun _ _ _ h => h) (Or.inl ⟨by rfl, ?_⟩) (by assumption) ?_
                      rotate_left 1
                      · (intro w9 hS9; (try dsimp only at hS9); go_simp <;> with_reducible rfl)
                      try simp only [List.getElem_toArray, List.getElem_cons_succ, List.getElem_cons_zero, Act.put, List.setIfInBounds_toArray, List.set_cons_zero, List.set_cons_succ]
                      refine wpAnyH_take (i := 26) (oi := _) (v := ?_) rfl (by kernel_rfl) (by kernel_rfl) (by kernel_rfl) (fun _ _ _ h => h) (Or.inl ⟨by rfl, ?_⟩) (by assumption) ?_
                      rotate_left 1
                      · (intro w9 hS9; (try dsimp only at hS9); go_simp <;> with_reducible rfl)
                      try simp only [List.getElem_toArray, List.getElem_cons_succ, List.getElem_cons_zero, Act.put, List.setIfInBounds_toArray, List.set_cons_zero, List.set_cons_succ]
                      refine wpAnyH_done (by kernel_rfl) ?_ _
                      refine snocQ_normal rfl ?_
                      have hk9 := HKX.out.below hHeld.2.2.2.2.2 (Nat.lt_succ_self P)
                      have hb9 := (hbX.mono (show P ≤ w.heap.size by omega)).trans (hHeld.2.2.2.2.2.mono (by omega))
                      have hnp : ∀ ad, A9 = some ad → P < ad.block := fun ad h => by rcases hbk ad h with h | h <;> omega
                      have z4 := hk9.frozen 4
                      have z3 := hk9.frozen 3
                      have l9 := hk9.lt
                      have HF := Lib.hid (And.intro hk9 (And.intro hb9 (And.intro h9 (And.intro hnp (And.intro hnc9 hcm9)))))
                      obtain ⟨f0, f1, f2, f3, f4, _⟩ := blk5 (Below.refl _ w9) hk9 hk9.lt
                      clear hk9 hb9 h9 hnc9 hcm9 hHeld hst kE hnp hbk
                      have hle : ((((j + 1) - (j + 1) + 1 : Nat)) : Int) ≤ 4096 := by omega
                      generalize hgn : (j + 1) - (j + 1) + 1 = n9 at *
                      have HGN := Lib.hid hgn
                      clear hgn
                      go_wp2_with fail
                      go_ret
                      refine ⟨rfl, (HF.out.2.1.setCell (p := ⟨P, 4, none⟩) (Nat.le_refl _) _).setCell (p := ⟨P, 3, none⟩) (Nat.le_refl _) _, ?_⟩
                      try intro _
                      refine ⟨A9, _, c9, (HF.out.1.set_ 4 _).set_ 3 _, ?_, HF.out.2.2.2.2.1, HF.out.2.2.2.2.2, HF.out.2.2.2.1⟩
                      rw [admL, if_neg HLN.out, HTT.out, HQ.out]
                      have h10 := Reads.far (Reads.far HF.out.2.2.1 (p := ⟨P, 4, none⟩) (fun ad h => Nat.ne_of_gt (HF.out.2.2.2.1 ad h)) (.slice A9 n9 c9)) (p := ⟨P, 3, none⟩) (fun ad h => Nat.ne_of_gt (HF.out.2.2.2.1 ad h)) (.int .i64 (b + k))
                      rw [encM_drop] at h10
                      exact Reads.more h10 (by simp [World.setCell])
                    · skip
                      exact AllReadyH.nil
                  · skip
                    exact AllReadyH.nil
                · skip
                  exact AllReadyH.nil
            · skip
              refine AllReadyH.cons (o := _) rfl (fun K hK => ?_) ?_
              · try simp only [List.getElem_toArray, List.getElem_cons_succ, List.getElem_cons_zero]
                go_simp
                refine hK.out _ _ (blk5 (hHeld.2.2.2.2.2.alloc (Nat.le_trans hPX hHeld.2.2.2.2.2.size) _) HKX.out (Nat.lt_succ_self P)) (fun hHeld => ?_)
                clear hK K
                try simp only [List.getElem_toArray, List.getElem_cons_succ, List.getElem_cons_zero, Act.put, List.setIfInBounds_toArray, List.set_cons_zero, List.set_cons_succ]
                have kE : Blk (X0.alloc (.cells #[.int .i64 t, .int .i64 (T + k)] 74)).drew X0.heap.size 74 #[.int .i64 t, .int .i64 (T + k)] := Blk.new X0 74 _
                replace hst : Below X0.heap.size X0 (X0.alloc (.cells #[.int .i64 t, .int .i64 (T + k)] 74)).drew := ((Below.refl _ X0).alloc (Nat.le_refl _) _).drew
                obtain ⟨W9, hW9⟩ : ∃ W9, (X0.alloc (.cells #[.int .i64 t, .int .i64 (T + k)] 74)).drew = W9 := ⟨_, rfl⟩
                rw [hW9] at kE hst hHeld ⊢
                clear hW9
                refine wpAnyH_ready (rs := [12]) (by kernel_rfl) (by simp) ?_
                refine AllReadyH.cons (o := _) rfl (fun K hK => ?_) ?_
                · try simp only [List.getElem_toArray, List.getElem_cons_succ, List.getElem_cons_zero]
                  go_simp
                  refine (HCo.out _ hst).mono ?_
                  rintro e w' ⟨rfl, hb'⟩
                  go_wp2_with fail
                  refine hK.out _ _ (blk5 (hHeld.2.2.2.2.2.trans (hb'.mono (Nat.le_trans hPX hHeld.2.2.2.2.2.size))) HKX.out (Nat.lt_succ_self P)) (fun hHeld => ?_)
                  clear hK K
                  try simp only [List.getElem_toArray, List.getElem_cons_succ, List.getElem_cons_zero, Act.put, List.setIfInBounds_toArray, List.set_cons_zero, List.set_cons_succ]
                  replace hst := hst.trans (hb'.mono hst.size)
                  replace kE := kE.below hb' kE.lt
                  clear hb'
                  refine wpAnyH_ready (rs := [13]) (by kernel_rfl) (by simp) ?_
                  refine AllReadyH.cons (o := _) rfl (fun K hK => ?_) ?_
                  · try simp only [List.getElem_toArray, List.getElem_cons_succ, List.getElem_cons_zero]
                    go_simp
                    refine (HOp.out _ hst).mono ?_
                    rintro e w' ⟨rfl, hb'⟩
                    go_wp2_with fail
                    refine hK.out _ _ (blk5 (hHeld.2.2.2.2.2.trans (hb'.mono (Nat.le_trans hPX hHeld.2.2.2.2.2.size))) HKX.out (Nat.lt_succ_self P)) (fun hHeld => ?_)
                    clear hK K
                    try simp only [List.getElem_toArray, List.getElem_cons_succ, List.getElem_cons_zero, Act.put, List.setIfInBounds_toArray, List.set_cons_zero, List.set_cons_succ]
                    replace hst := hst.trans (hb'.mono hst.size)
                    replace kE := kE.below hb' kE.lt
                    clear hb'
                    refine wpAnyH_take (i := 14) (oi := _) (v := ?_) rfl (by kernel_rfl) (by kernel_rfl) (by kernel_rfl) (fun _ _ _ h => h) (Or.inl ⟨by rfl, ?_⟩) (by assumption) ?_
                    rotate_left 1
                    · (intro w9 hS9; (try dsimp only at hS9); go_simp <;> with_reducible rfl)
                    try simp only [List.getElem_toArray, List.getElem_cons_succ, List.getElem_cons_zero, Act.put, List.setIfInBounds_toArray, List.set_cons_zero, List.set_cons_succ]
                    refine wpAnyH_ready (rs := [23]) (by kernel_rfl) (by simp) ?_
                    refine AllReadyH.cons (o := _) rfl (fun K hK => ?_) ?_
                    · try simp only [List.getElem_toArray, List.getElem_cons_succ, List.getElem_cons_zero]
                      rw [if_pos (show Region.wanted _ _ = true from rfl)]
                      refine wp_append_sub _ (.tmp 65) (.tmp 73) _ (by rfl) 74 i0 _ 2 16 Try.underlying22 HI.out.1 HI.out.2.1 HI.out.2.2.1 HI.out.2.2.2 rfl g (j + 1) (j + 1) (j + 1) cur (HGX.out.below hst HGX.out.lt) HCUR.out.2.1 hq0 hnc hcm (l.flatMap encM) HCUR.out.2.2 _ #[.int .i64 t, .int .i64 (T + k)] kE rfl (one2 _ _) (by simp only [maxLen]; omega) (by omega) _ _ _ (by rfl) (by rfl) (.inr rfl) (by omega) (by omega) ?_
                      intro A9 c9 w9 h9 hnc9 hcm9 hgr hbk
                      have hsz9 := Nat.le_trans hPX hst.size
                      refine hK.out _ _ (blk5 (hHeld.2.2.2.2.2.grown hgr hsz9 (fun _ h => by injection h with h; omega)) HKX.out (Nat.lt_succ_self P)) (fun hHeld => ?_)
                      clear hK K hgr
                      try simp only [List.getElem_toArray, List.getElem_cons_succ, List.getElem_cons_zero, Act.put, List.setIfInBounds_toArray, List.set_cons_zero, List.set_cons_succ]
                      refine wpAnyH_take (i := 24) (oi := _) (v := ?_) rfl (by kernel_rfl) (by kernel_rfl) (by kernel_rfl) (fun _ _ _ h => h) (Or.inl ⟨by rfl, ?_⟩) (by assumption) ?_
                      rotate_left 1
                      · (intro w9 hS9; (try dsimp only at hS9); go_simp <;> with_reducible rfl)
                      try simp only [List.getElem_toArray, List.getElem_cons_succ, List.getElem_cons_zero, Act.put, List.setIfInBounds_toArray, List.set_cons_zero, List.set_cons_succ]
                      refine wpAnyH_take (i := 25) (oi := _) (v := ?_) rfl (by kernel_rfl) (by kernel_rfl) (by kernel_rfl) (fun _ _ _ h => h) (Or.inl ⟨by rfl, ?_⟩) (by assumption) ?_
                      rotate_left 1
                      · (intro w9 hS9; (try dsimp only at hS9); go_simp <;> with_reducible rfl)
                      try simp only [List.getElem_toArray, List.getElem_cons_succ, List.getElem_cons_zero, Act.put, List.setIfInBounds_toArray, List.set_cons_zero, List.set_cons_succ]
                      refine wpAnyH_take (i := 26) (oi := _) (v := ?_) rfl (by kernel_rfl) (by kernel_rfl) (by kernel_rfl) (fun _ _ _ h => h) (Or.inl ⟨by rfl, ?_⟩) (by assumption) ?_
                      rotate_left 1
                      · (intro w9 hS9; (try dsimp only at hS9); go_simp <;> with_reducible rfl)
                      try simp only [List.getElem_toArray, List.getElem_cons_succ, List.getElem_cons_zero, Act.put, List.setIfInBounds_toArray, List.set_cons_zero, List.set_cons_succ]
                      refine wpAnyH_done (by kernel_rfl) ?_ _
                      refine snocQ_normal rfl ?_
                      have hk9 := HKX.out.below hHeld.2.2.2.2.2 (Nat.lt_succ_self P)
                      have hb9 := (hbX.mono (show P ≤ w.heap.size by omega)).trans (hHeld.2.2.2.2.2.mono (by omega))
                      have hnp : ∀ ad, A9 = some ad → P < ad.block := fun ad h => by rcases hbk ad h with h | h <;> omega
                      have z4 := hk9.frozen 4
                      have z3 := hk9.frozen 3
                      have l9 := hk9.lt
                      have HF := Lib.hid (And.intro hk9 (And.intro hb9 (And.intro h9 (And.intro hnp (And.intro hnc9 hcm9)))))
                      obtain ⟨f0, f1, f2, f3, f4, _⟩ := blk5 (Below.refl _ w9) hk9 hk9.lt
                      clear hk9 hb9 h9 hnc9 hcm9 hHeld hst kE hnp hbk
                      have hle : ((((j + 1) - (j + 1) + 1 : Nat)) : Int) ≤ 4096 := by omega
                      generalize hgn : (j + 1) - (j + 1) + 1 = n9 at *
                      have HGN := Lib.hid hgn
                      clear hgn
                      go_wp2_with fail
                      go_ret
                      refine ⟨rfl, (HF.out.2.1.setCell (p := ⟨P, 4, none⟩) (Nat.le_refl _) _).setCell (p := ⟨P, 3, none⟩) (Nat.le_refl _) _, ?_⟩
                      try intro _
                      refine ⟨A9, _, c9, (HF.out.1.set_ 4 _).set_ 3 _, ?_, HF.out.2.2.2.2.1, HF.out.2.2.2.2.2, HF.out.2.2.2.1⟩
                      rw [admL, if_neg HLN.out, HTT.out, HQ.out]
                      have h10 := Reads.far (Reads.far HF.out.2.2.1 (p := ⟨P, 4, none⟩) (fun ad h => Nat.ne_of_gt (HF.out.2.2.2.1 ad h)) (.slice A9 n9 c9)) (p := ⟨P, 3, none⟩) (fun ad h => Nat.ne_of_gt (HF.out.2.2.2.1 ad h)) (.int .i64 (b + k))
                      rw [encM_drop] at h10
                      exact Reads.more h10 (by simp [World.setCell])
                    · skip
                      exact AllReadyH.nil
                  · skip
                    exact AllReadyH.nil
                · skip
                  exact AllReadyH.nil
              · skip
                exact AllReadyH.nil
          · have hqj : (q : Int) ≤ (j : Int) + 1 := by omega
            have hst : Below X0.heap.size X0 X0.drew := (Below.refl _ X0).drew
            refine wp_region_snoc_lit (S := fun w' => w'.cell? ⟨P, 0, none⟩ = some (.int .i64 o) ∧ w'.cell? ⟨P, 1, none⟩ = some (.int .i64 r) ∧ w'.cell? ⟨P, 2, none⟩ = some (.int .i64 t) ∧ w'.cell? ⟨P, 3, none⟩ = some (.int .i64 b) ∧ w'.cell? ⟨P, 4, none⟩ = some (.slice (some ⟨g, 0, none⟩) (j + 1) c) ∧ Below (P + 1) X0 w') _ rfl (by kernel_rfl) (by kernel_rfl) (blk5 ((Below.refl (P + 1) X0).drew) HKX.out (Nat.lt_succ_self P)) (fun hHeld => ?_)
            simp only [List.dropLast]
            refine wpAnyH_take (i := 0) (oi := _) (v := ?_) rfl (by kernel_rfl) (by kernel_rfl) (by kernel_rfl) (fun _ _ _ h => h) (Or.inl ⟨by rfl, ?_⟩) (by assumption) ?_
            rotate_left 1
            · (intro w9 hS9; (try dsimp only at hS9); go_simp <;> with_reducible rfl)
            try simp only [List.getElem_toArray, List.getElem_cons_succ, List.getElem_cons_zero, Act.put, List.setIfInBounds_toArray, List.set_cons_zero, List.set_cons_succ]
            refine wpAnyH_take (i := 1) (oi := _) (v := ?_) rfl (by kernel_rfl) (by kernel_rfl) (by kernel_rfl) (fun _ _ _ h => h) (Or.inl ⟨by rfl, ?_⟩) (by assumption) ?_
            rotate_left 1
            · (intro w9 hS9; (try dsimp only at hS9); go_simp <;> with_reducible rfl)
            try simp only [List.getElem_toArray, List.getElem_cons_succ, List.getElem_cons_zero, Act.put, List.setIfInBounds_toArray, List.set_cons_zero, List.set_cons_succ]
            refine wpAnyH_take (i := 2) (oi := _) (v := ?_) rfl (by kernel_rfl) (by kernel_rfl) (by kernel_rfl) (fun _ _ _ h => h) (Or.inl ⟨by rfl, ?_⟩) (by assumption) ?_
            rotate_left 1
            · (intro w9 hS9; (try dsimp only at hS9); go_simp <;> with_reducible rfl)
            try simp only [List.getElem_toArray, List.getElem_cons_succ, List.getElem_cons_zero, Act.put, List.setIfInBounds_toArray, List.set_cons_zero, List.set_cons_succ]
            refine wpAnyH_take (i := 3) (oi := _) (v := ?_) rfl (by kernel_rfl) (by kernel_rfl) (by kernel_rfl) (fun _ _ _ h => h) (Or.inl ⟨by rfl, ?_⟩) (by assumption) ?_
            rotate_left 1
            · (intro w9 hS9; (try dsimp only at hS9); go_simp <;> with_reducible rfl)
            try simp only [List.getElem_toArray, List.getElem_cons_succ, List.getElem_cons_zero, Act.put, List.setIfInBounds_toArray, List.set_cons_zero, List.set_cons_succ]
            refine wpAnyH_take (i := 4) (oi := _) (v := ?_) rfl (by kernel_rfl) (by kernel_rfl) (by kernel_rfl) (fun _ _ _ h => h) (Or.inl ⟨by rfl, ?_⟩) (by assumption) ?_
            rotate_left 1
            · (intro w9 hS9; (try dsimp only at hS9); go_simp <;> with_reducible rfl)
            try simp only [List.getElem_toArray, List.getElem_cons_succ, List.getElem_cons_zero, Act.put, List.setIfInBounds_toArray, List.set_cons_zero, List.set_cons_succ]
            refine wpAnyH_take (i := 5) (oi := _) (v := ?_) rfl (by kernel_rfl) (by kernel_rfl) (by kernel_rfl) (fun _ _ _ h => h) (Or.inl ⟨by rfl, ?_⟩) (by assumption) ?_
            rotate_left 1
            · (intro w9 hS9; (try dsimp only at hS9); go_simp <;> with_reducible rfl)
            try simp only [List.getElem_toArray, List.getElem_cons_succ, List.getElem_cons_zero, Act.put, List.setIfInBounds_toArray, List.set_cons_zero, List.set_cons_succ]
            refine wpAnyH_take (i := 6) (oi := _) (v := ?_) rfl (by kernel_rfl) (by kernel_rfl) (by kernel_rfl) (fun _ _ _ h => h) (Or.inl ⟨by rfl, ?_⟩) (by assumption) ?_
            rotate_left 1
            · (intro w9 hS9; (try dsimp only at hS9); go_simp <;> with_reducible rfl)
            try simp only [List.getElem_toArray, List.getElem_cons_succ, List.getElem_cons_zero, Act.put, List.setIfInBounds_toArray, List.set_cons_zero, List.set_cons_succ]
            refine wpAnyH_take (i := 7) (oi := _) (v := ?_) rfl (by kernel_rfl) (by kernel_rfl) (by kernel_rfl) (fun _ _ _ h => h) (Or.inl ⟨by rfl, ?_⟩) (by assumption) ?_
            rotate_left 1
            · (intro w9 hS9; (try dsimp only at hS9); go_simp <;> with_reducible rfl)
            try simp only [List.getElem_toArray, List.getElem_cons_succ, List.getElem_cons_zero, Act.put, List.setIfInBounds_toArray, List.set_cons_zero, List.set_cons_succ]
            refine wpAnyH_take (i := 8) (oi := _) (v := ?_) rfl (by kernel_rfl) (by kernel_rfl) (by kernel_rfl) (fun _ _ _ h => h) (Or.inl ⟨by rfl, ?_⟩) (by assumption) ?_
            rotate_left 1
            · (intro w9 hS9; (try dsimp only at hS9); go_simp <;> with_reducible rfl)
            try simp only [List.getElem_toArray, List.getElem_cons_succ, List.getElem_cons_zero, Act.put, List.setIfInBounds_toArray, List.set_cons_zero, List.set_cons_succ]
            refine wpAnyH_take (i := 9) (oi := _) (v := ?_) rfl (by kernel_rfl) (by kernel_rfl) (by kernel_rfl) (fun _ _ _ h => h) (Or.inl ⟨by rfl, ?_⟩) (by assumption) ?_
            rotate_left 1
            · (intro w9 hS9; (try dsimp only at hS9); go_simp <;> with_reducible rfl)
            try simp only [List.getElem_toArray, List.getElem_cons_succ, List.getElem_cons_zero, Act.put, List.setIfInBounds_toArray, List.set_cons_zero, List.set_cons_succ]
            refine wpAnyH_take (i := 10) (oi := _) (v := ?_) rfl (by kernel_rfl) (by kernel_rfl) (by kernel_rfl) (fun _ _ _ h => h) (Or.inl ⟨by rfl, ?_⟩) (by assumption) ?_
            rotate_left 1
            · (intro w9 hS9; (try dsimp only at hS9); go_simp <;> with_reducible rfl)
            try simp only [List.getElem_toArray, List.getElem_cons_succ, List.getElem_cons_zero, Act.put, List.setIfInBounds_toArray, List.set_cons_zero, List.set_cons_succ]
            refine wpAnyH_take (i := 11) (oi := _) (v := ?_) rfl (by kernel_rfl) (by kernel_rfl) (by kernel_rfl) (fun _ _ _ h => h) (Or.inl ⟨by rfl, ?_⟩) (by assumption) ?_
            rotate_left 1
            · (intro w9 hS9; (try dsimp only at hS9); go_simp <;> with_reducible rfl)
            try simp only [List.getElem_toArray, List.getElem_cons_succ, List.getElem_cons_zero, Act.put, List.setIfInBounds_toArray, List.set_cons_zero, List.set_cons_succ]
            refine wpAnyH_take (i := 15) (oi := _) (v := ?_) rfl (by kernel_rfl) (by kernel_rfl) (by kernel_rfl) (fun _ _ _ h => h) (Or.inl ⟨by rfl, ?_⟩) (by assumption) ?_
            rotate_left 1
            · (intro w9 hS9; (try dsimp only at hS9); go_simp <;> with_reducible rfl)
            try simp only [List.getElem_toArray, List.getElem_cons_succ, List.getElem_cons_zero, Act.put, List.setIfInBounds_toArray, List.set_cons_zero, List.set_cons_succ]
            refine wpAnyH_take (i := 16) (oi := _) (v := ?_) rfl (by kernel_rfl) (by kernel_rfl) (by kernel_rfl) (fun _ _ _ h => h) (Or.inl ⟨by rfl, ?_⟩) (by assumption) ?_
            rotate_left 1
            · (intro w9 hS9; (try dsimp only at hS9); go_simp <;> with_reducible rfl)
            try simp only [List.getElem_toArray, List.getElem_cons_succ, List.getElem_cons_zero, Act.put, List.setIfInBounds_toArray, List.set_cons_zero, List.set_cons_succ]
            refine wpAnyH_take (i := 17) (oi := _) (v := ?_) rfl (by kernel_rfl) (by kernel_rfl) (by kernel_rfl) (fun _ _ _ h => h) (Or.inl ⟨by rfl, ?_⟩) (by assumption) ?_
            rotate_left 1
            · (intro w9 hS9; (try dsimp only at hS9); go_simp <;> with_reducible rfl)
            try simp only [List.getElem_toArray, List.getElem_cons_succ, List.getElem_cons_zero, Act.put, List.setIfInBounds_toArray, List.set_cons_zero, List.set_cons_succ]
            refine wpAnyH_take (i := 18) (oi := _) (v := ?_) rfl (by kernel_rfl) (by kernel_rfl) (by kernel_rfl) (fun _ _ _ h => h) (Or.inl ⟨by rfl, ?_⟩) (by assumption) ?_
            rotate_left 1
            · (intro w9 hS9; (try dsimp only at hS9); go_simp <;> with_reducible rfl)
            try simp only [List.getElem_toArray, List.getElem_cons_succ, List.getElem_cons_zero, Act.put, List.setIfInBounds_toArray, List.set_cons_zero, List.set_cons_succ]
            refine wpAnyH_take (i := 19) (oi := _) (v := ?_) rfl (by kernel_rfl) (by kernel_rfl) (by kernel_rfl) (fun _ _ _ h => h) (Or.inl ⟨by rfl, ?_⟩) (by assumption) ?_
            rotate_left 1
            · (intro w9 hS9; (try dsimp only at hS9); go_simp <;> with_reducible rfl)
            try simp only [List.getElem_toArray, List.getElem_cons_succ, List.getElem_cons_zero, Act.put, List.setIfInBounds_toArray, List.set_cons_zero, List.set_cons_succ]
            refine wpAnyH_take (i := 20) (oi := _) (v := ?_) rfl (by kernel_rfl) (by kernel_rfl) (by kernel_rfl) (fun _ _ _ h => h) (Or.inl ⟨by rfl, ?_⟩) (by assumption) ?_
            rotate_left 1
            · (intro w9 hS9; (try dsimp only at hS9); go_simp <;> with_reducible rfl)
            try simp only [List.getElem_toArray, List.getElem_cons_succ, List.getElem_cons_zero, Act.put, List.setIfInBounds_toArray, List.set_cons_zero, List.set_cons_succ]
            refine wpAnyH_take (i := 21) (oi := _) (v := ?_) rfl (by kernel_rfl) (by kernel_rfl) (by kernel_rfl) (fun _ _ _ h => h) (Or.inl ⟨by rfl, ?_⟩) (by assumption) ?_
            rotate_left 1
            · (intro w9 hS9; (try dsimp only at hS9); go_simp <;> with_reducible rfl)
            try simp only [List.getElem_toArray, List.getElem_cons_succ, List.getElem_cons_zero, Act.put, List.setIfInBounds_toArray, List.set_cons_zero, List.set_cons_succ]
            refine wpAnyH_ready (rs := [12, 22]) (by kernel_rfl) (by simp) ?_
            refine AllReadyH.cons (o := _) rfl (fun K hK => ?_) ?_
            · try simp only [List.getElem_toArray, List.getElem_cons_succ, List.getElem_cons_zero]
              go_simp
              refine (HCo.out _ hst).mono ?_
              rintro e w' ⟨rfl, hb'⟩
              go_wp2_with fail
              refine hK.out _ _ (blk5 (hHeld.2.2.2.2.2.trans (hb'.mono (Nat.le_trans hPX hHeld.2.2.2.2.2.size))) HKX.out (Nat.lt_succ_self P)) (fun hHeld => ?_)
              clear hK K
              try simp only [List.getElem_toArray, List.getElem_cons_succ, List.getElem_cons_zero, Act.put, List.setIfInBounds_toArray, List.set_cons_zero, List.set_cons_succ]
              replace hst := hst.trans (hb'.mono hst.size)
              clear hb'
              refine wpAnyH_ready (rs := [13, 22]) (by kernel_rfl) (by simp) ?_
              refine AllReadyH.cons (o := _) rfl (fun K hK => ?_) ?_
              · try simp only [List.getElem_toArray, List.getElem_cons_succ, List.getElem_cons_zero]
                go_simp
                refine (HOp.out _ hst).mono ?_
                rintro e w' ⟨rfl, hb'⟩
                go_wp2_with fail
                refine hK.out _ _ (blk5 (hHeld.2.2.2.2.2.trans (hb'.mono (Nat.le_trans hPX hHeld.2.2.2.2.2.size))) HKX.out (Nat.lt_succ_self P)) (fun hHeld => ?_)
                clear hK K
                try simp only [List.getElem_toArray, List.getElem_cons_succ, List.getElem_cons_zero, Act.put, List.setIfInBounds_toArray, List.set_cons_zero, List.set_cons_succ]
                replace hst := hst.trans (hb'.mono hst.size)
                clear hb'
                refine wpAnyH_take (i := 14) (oi := _) (v := ?_) rfl (by kernel_rfl) (by kernel_rfl) (by kernel_rfl) (fun _ _ _ h => h) (Or.inl ⟨by rfl, ?_⟩) (by assumption) ?_
                rotate_left 1
                · (intro w9 hS9; (try dsimp only at hS9); go_simp <;> with_reducible rfl)
                try simp only [List.getElem_toArray, List.getElem_cons_succ, List.getElem_cons_zero, Act.put, List.setIfInBounds_toArray, List.set_cons_zero, List.set_cons_succ]
                refine wpAnyH_ready (rs := [22]) (by kernel_rfl) (by simp) ?_
                refine AllReadyH.cons (o := _) rfl (fun K hK => ?_) ?_
                · try simp only [List.getElem_toArray, List.getElem_cons_succ, List.getElem_cons_zero]
                  go_simp
                  refine hK.out _ _ (blk5 (hHeld.2.2.2.2.2.alloc (Nat.le_trans hPX hHeld.2.2.2.2.2.size) _) HKX.out (Nat.lt_succ_self P)) (fun hHeld => ?_)
                  clear hK K
                  try simp only [List.getElem_toArray, List.getElem_cons_succ, List.getElem_cons_zero, Act.put, List.setIfInBounds_toArray, List.set_cons_zero, List.set_cons_succ]
                  have kE := Blk.new w' 74 #[.int .i64 t, .int .i64 (T + k)]
                  replace hst := hst.alloc hst.size (.cells #[.int .i64 t, .int .i64 (T + k)] 74)
                  obtain ⟨W9, hW9⟩ : ∃ W9, w'.alloc (.cells #[.int .i64 t, .int .i64 (T + k)] 74) = W9 := ⟨_, rfl⟩
                  rw [hW9] at kE hst hHeld ⊢
                  clear hW9
                  refine wpAnyH_ready (rs := [23]) (by kernel_rfl) (by simp) ?_
                  refine AllReadyH.cons (o := _) rfl (fun K hK => ?_) ?_
                  · try simp only [List.getElem_toArray, List.getElem_cons_succ, List.getElem_cons_zero]
                    rw [if_pos (show Region.wanted _ _ = true from rfl)]
                    refine wp_append_sub _ (.tmp 65) (.tmp 73) _ (by rfl) 74 i0 _ 2 16 Try.underlying22 HI.out.1 HI.out.2.1 HI.out.2.2.1 HI.out.2.2.2 rfl g c (j + 1) q cur (HGX.out.below hst HGX.out.lt) HCUR.out.2.1 hq0 hnc hcm (l.flatMap encM) HCUR.out.2.2 _ #[.int .i64 t, .int .i64 (T + k)] kE rfl (one2 _ _) (by simp only [maxLen]; omega) (by omega) _ _ _ (by rfl) (by rfl) (.inl rfl) (by omega) (by omega) ?_
                    intro A9 c9 w9 h9 hnc9 hcm9 hgr hbk
                    have hsz9 := Nat.le_trans hPX hst.size
                    refine hK.out _ _ (blk5 (hHeld.2.2.2.2.2.grown hgr hsz9 (fun _ h => by injection h with h; omega)) HKX.out (Nat.lt_succ_self P)) (fun hHeld => ?_)
                    clear hK K hgr
                    try simp only [List.getElem_toArray, List.getElem_cons_succ, List.getElem_cons_zero, Act.put, List.setIfInBounds_toArray, List.set_cons_zero, List.set_cons_succ]
                    refine wpAnyH_take (i := 24) (oi := _) (v := ?_) rfl (by kernel_rfl) (by kernel_rfl) (by kernel_rfl) (fun _ _ _ h => h) (Or.inl ⟨by rfl, ?_⟩) (by assumption) ?_
                    rotate_left 1
                    · (intro w9 hS9; (try dsimp only at hS9); go_simp <;> with_reducible rfl)
                    try simp only [List.getElem_toArray, List.getElem_cons_succ, List.getElem_cons_zero, Act.put, List.setIfInBounds_toArray, List.set_cons_zero, List.set_cons_succ]
                    refine wpAnyH_take (i := 25) (oi := _) (v := ?_) rfl (by kernel_rfl) (by kernel_rfl) (by kernel_rfl) (fun _ _ _ h => h) (Or.inl ⟨by rfl, ?_⟩) (by assumption) ?_
                    rotate_left 1
                    · (intro w9 hS9; (try dsimp only at hS9); go_simp <;> with_reducible rfl)
                    try simp only [List.getElem_toArray, List.getElem_cons_succ, List.getElem_cons_zero, Act.put, List.setIfInBounds_toArray, List.set_cons_zero, List.set_cons_succ]
                    refine wpAnyH_take (i := 26) (oi := _) (v := ?_) rfl (by kernel_rfl) (by kernel_rfl) (by kernel_rfl) (fun _ _ _ h => h) (Or.inl ⟨by rfl, ?_⟩) (by assumption) ?_
                    rotate_left 1
                    · (intro w9 hS9; (try dsimp only at hS9); go_simp <;> with_reducible rfl)
                    try simp only [List.getElem_toArray, List.getElem_cons_succ, List.getElem_cons_zero, Act.put, List.setIfInBounds_toArray, List.set_cons_zero, List.set_cons_succ]
                    refine wpAnyH_done (by kernel_rfl) ?_ _
                    refine snocQ_normal rfl ?_
                    have hk9 := HKX.out.below hHeld.2.2.2.2.2 (Nat.lt_succ_self P)
                    have hb9 := (hbX.mono (show P ≤ w.heap.size by omega)).trans (hHeld.2.2.2.2.2.mono (by omega))
                    have hnp : ∀ ad, A9 = some ad → P < ad.block := fun ad h => by rcases hbk ad h with h | h <;> omega
                    have z4 := hk9.frozen 4
                    have z3 := hk9.frozen 3
                    have l9 := hk9.lt
                    have HF := Lib.hid (And.intro hk9 (And.intro hb9 (And.intro h9 (And.intro hnp (And.intro hnc9 hcm9)))))
                    obtain ⟨f0, f1, f2, f3, f4, _⟩ := blk5 (Below.refl _ w9) hk9 hk9.lt
                    clear hk9 hb9 h9 hnc9 hcm9 hHeld hst kE hnp hbk
                    have hle : ((((j + 1) - q + 1 : Nat)) : Int) ≤ 4096 := by omega
                    generalize hgn : (j + 1) - q + 1 = n9 at *
                    have HGN := Lib.hid hgn
                    clear hgn
                    go_wp2_with fail
                    go_ret
                    refine ⟨rfl, (HF.out.2.1.setCell (p := ⟨P, 4, none⟩) (Nat.le_refl _) _).setCell (p := ⟨P, 3, none⟩) (Nat.le_refl _) _, ?_⟩
                    try intro _
                    refine ⟨A9, _, c9, (HF.out.1.set_ 4 _).set_ 3 _, ?_, HF.out.2.2.2.2.1, HF.out.2.2.2.2.2, HF.out.2.2.2.1⟩
                    rw [admL, if_neg HLN.out, HTT.out, HQ.out]
                    have h10 := Reads.far (Reads.far HF.out.2.2.1 (p := ⟨P, 4, none⟩) (fun ad h => Nat.ne_of_gt (HF.out.2.2.2.1 ad h)) (.slice A9 n9 c9)) (p := ⟨P, 3, none⟩) (fun ad h => Nat.ne_of_gt (HF.out.2.2.2.1 ad h)) (.int .i64 (b + k))
                    rw [encM_drop] at h10
                    exact Reads.more h10 (by simp [World.setCell])
                  · skip
                    exact AllReadyH.nil
                · skip
                  exact AllReadyH.nil
              · skip
                refine AllReadyH.cons (o := _) rfl (fun K hK => ?_) ?_
                · try simp only [List.getElem_toArray, List.getElem_cons_succ, List.getElem_cons_zero]
                  go_simp
                  refine hK.out _ _ (blk5 (hHeld.2.2.2.2.2.alloc (Nat.le_trans hPX hHeld.2.2.2.2.2.size) _) HKX.out (Nat.lt_succ_self P)) (fun hHeld => ?_)
                  clear hK K
                  try simp only [List.getElem_toArray, List.getElem_cons_succ, List.getElem_cons_zero, Act.put, List.setIfInBounds_toArray, List.set_cons_zero, List.set_cons_succ]
                  have kE := Blk.new w' 74 #[.int .i64 t, .int .i64 (T + k)]
                  replace hst := hst.alloc hst.size (.cells #[.int .i64 t, .int .i64 (T + k)] 74)
                  obtain ⟨W9, hW9⟩ : ∃ W9, w'.alloc (.cells #[.int .i64 t, .int .i64 (T + k)] 74) = W9 := ⟨_, rfl⟩
                  rw [hW9] at kE hst hHeld ⊢
                  clear hW9
                  refine wpAnyH_ready (rs := [13]) (by kernel_rfl) (by simp) ?_
                  refine AllReadyH.cons (o := _) rfl (fun K hK => ?_) ?_
                  · try simp only [List.getElem_toArray, List.getElem_cons_succ, List.getElem_cons_zero]
                    go_simp
                    refine (HOp.out _ hst).mono ?_
                    rintro e w' ⟨rfl, hb'⟩
                    go_wp2_with fail
                    refine hK.out _ _ (blk5 (hHeld.2.2.2.2.2.trans (hb'.mono (Nat.le_trans hPX hHeld.2.2.2.2.2.size))) HKX.out (Nat.lt_succ_self P)) (fun hHeld => ?_)
                    clear hK K
                    try simp only [List.getElem_toArray, List.getElem_cons_succ, List.getElem_cons_zero, Act.put, List.setIfInBounds_toArray, List.set_cons_zero, List.set_cons_succ]
                    replace hst := hst.trans (hb'.mono hst.size)
                    replace kE := kE.below hb' kE.lt
                    clear hb'
                    refine wpAnyH_take (i := 14) (oi := _) (v := ?_) rfl (by kernel_rfl) (by kernel_rfl) (by kernel_rfl) (fun _ _ _ h => h) (Or.inl ⟨by rfl, ?_⟩) (by assumption) ?_
                    rotate_left 1
                    · (intro w9 hS9; (try dsimp only at hS9); go_simp <;> with_reducible rfl)
                    try simp only [List.getElem_toArray, List.getElem_cons_succ, List.getElem_cons_zero, Act.put, List.setIfInBounds_toArray, List.set_cons_zero, List.set_cons_succ]
                    refine wpAnyH_ready (rs := [23]) (by kernel_rfl) (by simp) ?_
                    refine AllReadyH.cons (o := _) rfl (fun K hK => ?_) ?_
                    · try simp only [List.getElem_toArray, List.getElem_cons_succ, List.getElem_cons_zero]
                      rw [if_pos (show Region.wanted _ _ = true from rfl)]
                      refine wp_append_sub _ (.tmp 65) (.tmp 73) _ (by rfl) 74 i0 _ 2 16 Try.underlying22 HI.out.1 HI.out.2.1 HI.out.2.2.1 HI.out.2.2.2 rfl g c (j + 1) q cur (HGX.out.below hst HGX.out.lt) HCUR.out.2.1 hq0 hnc hcm (l.flatMap encM) HCUR.out.2.2 _ #[.int .i64 t, .int .i64 (T + k)] kE rfl (one2 _ _) (by simp only [maxLen]; omega) (by omega) _ _ _ (by rfl) (by rfl) (.inl rfl) (by omega) (by omega) ?_
                      intro A9 c9 w9 h9 hnc9 hcm9 hgr hbk
                      have hsz9 := Nat.le_trans hPX hst.size
                      refine hK.out _ _ (blk5 (hHeld.2.2.2.2.2.grown hgr hsz9 (fun _ h => by injection h with h; omega)) HKX.out (Nat.lt_succ_self P)) (fun hHeld => ?_)
                      clear hK K hgr
                      try simp only [List.getElem_toArray, List.getElem_cons_succ, List.getElem_cons_zero, Act.put, List.setIfInBounds_toArray, List.set_cons_zero, List.set_cons_succ]
                      refine wpAnyH_take (i := 24) (oi := _) (v := ?_) rfl (by kernel_rfl) (by kernel_rfl) (by kernel_rfl) (fun _ _ _ h => h) (Or.inl ⟨by rfl, ?_⟩) (by assumption) ?_
                      rotate_left 1
                      · (intro w9 hS9; (try dsimp only at hS9); go_simp <;> with_reducible rfl)
                      try simp only [List.getElem_toArray, List.getElem_cons_succ, List.getElem_cons_zero, Act.put, List.setIfInBounds_toArray, List.set_cons_zero, List.set_cons_succ]
                      refine wpAnyH_take (i := 25) (oi := _) (v := ?_) rfl (by kernel_rfl) (by kernel_rfl) (by kernel_rfl) (fun _ _ _ h => h) (Or.inl ⟨by rfl, ?_⟩) (by assumption) ?_
                      rotate_left 1
                      · (intro w9 hS9; (try dsimp only at hS9); go_simp <;> with_reducible rfl)
                      try simp only [List.getElem_toArray, List.getElem_cons_succ, List.getElem_cons_zero, Act.put, List.setIfInBounds_toArray, List.set_cons_zero, List.set_cons_succ]
                      refine wpAnyH_take (i := 26) (oi := _) (v := ?_) rfl (by kernel_rfl) (by kernel_rfl) (by kernel_rfl) (fun _ _ _ h => h) (Or.inl ⟨by rfl, ?_⟩) (by assumption) ?_
                      rotate_left 1
                      · (intro w9 hS9; (try dsimp only at hS9); go_simp <;> with_reducible rfl)
                      try simp only [List.getElem_toArray, List.getElem_cons_succ, List.getElem_cons_zero, Act.put, List.setIfInBounds_toArray, List.set_cons_zero, List.set_cons_succ]
                      refine wpAnyH_done (by kernel_rfl) ?_ _
                      refine snocQ_normal rfl ?_
                      have hk9 := HKX.out.below hHeld.2.2.2.2.2 (Nat.lt_succ_self P)
                      have hb9 := (hbX.mono (show P ≤ w.heap.size by omega)).trans (hHeld.2.2.2.2.2.mono (by omega))
                      have hnp : ∀ ad, A9 = some ad → P < ad.block := fun ad h => by rcases hbk ad h with h | h <;> omega
                      have z4 := hk9.frozen 4
                      have z3 := hk9.frozen 3
                      have l9 := hk9.lt
                      have HF := Lib.hid (And.intro hk9 (And.intro hb9 (And.intro h9 (And.intro hnp (And.intro hnc9 hcm9)))))
                      obtain ⟨f0, f1, f2, f3, f4, _⟩ := blk5 (Below.refl _ w9) hk9 hk9.lt
                      clear hk9 hb9 h9 hnc9 hcm9 hHeld hst kE hnp hbk
                      have hle : ((((j + 1) - q + 1 : Nat)) : Int) ≤ 4096 := by omega
                      generalize hgn : (j + 1) - q + 1 = n9 at *
                      have HGN := Lib.hid hgn
                      clear hgn
                      go_wp2_with fail
                      go_ret
                      refine ⟨rfl, (HF.out.2.1.setCell (p := ⟨P, 4, none⟩) (Nat.le_refl _) _).setCell (p := ⟨P, 3, none⟩) (Nat.le_refl _) _, ?_⟩
                      try intro _
                      refine ⟨A9, _, c9, (HF.out.1.set_ 4 _).set_ 3 _, ?_, HF.out.2.2.2.2.1, HF.out.2.2.2.2.2, HF.out.2.2.2.1⟩
                      rw [admL, if_neg HLN.out, HTT.out, HQ.out]
                      have h10 := Reads.far (Reads.far HF.out.2.2.1 (p := ⟨P, 4, none⟩) (fun ad h => Nat.ne_of_gt (HF.out.2.2.2.1 ad h)) (.slice A9 n9 c9)) (p := ⟨P, 3, none⟩) (fun ad h => Nat.ne_of_gt (HF.out.2.2.2.1 ad h)) (.int .i64 (b + k))
                      rw [encM_drop] at h10
                      exact Reads.more h10 (by simp [World.setCell])
                    · skip
                      exact AllReadyH.nil
                  · skip
                    exact AllReadyH.nil
                · skip
                  exact AllReadyH.nil
            · skip
              refine AllReadyH.cons (o := _) rfl (fun K hK => ?_) ?_
              · try simp only [List.getElem_toArray, List.getElem_cons_succ, List.getElem_cons_zero]
                go_simp
                refine hK.out _ _ (blk5 (hHeld.2.2.2.2.2.alloc (Nat.le_trans hPX hHeld.2.2.2.2.2.size) _) HKX.out (Nat.lt_succ_self P)) (fun hHeld => ?_)
                clear hK K
                try simp only [List.getElem_toArray, List.getElem_cons_succ, List.getElem_cons_zero, Act.put, List.setIfInBounds_toArray, List.set_cons_zero, List.set_cons_succ]
                have kE : Blk (X0.alloc (.cells #[.int .i64 t, .int .i64 (T + k)] 74)).drew X0.heap.size 74 #[.int .i64 t, .int .i64 (T + k)] := Blk.new X0 74 _
                replace hst : Below X0.heap.size X0 (X0.alloc (.cells #[.int .i64 t, .int .i64 (T + k)] 74)).drew := ((Below.refl _ X0).alloc (Nat.le_refl _) _).drew
                obtain ⟨W9, hW9⟩ : ∃ W9, (X0.alloc (.cells #[.int .i64 t, .int .i64 (T + k)] 74)).drew = W9 := ⟨_, rfl⟩
                rw [hW9] at kE hst hHeld ⊢
                clear hW9
                refine wpAnyH_ready (rs := [12]) (by kernel_rfl) (by simp) ?_
                refine AllReadyH.cons (o := _) rfl (fun K hK => ?_) ?_
                · try simp only [List.getElem_toArray, List.getElem_cons_succ, List.getElem_cons_zero]
                  go_simp
                  refine (HCo.out _ hst).mono ?_
                  rintro e w' ⟨rfl, hb'⟩
                  go_wp2_with fail
                  refine hK.out _ _ (blk5 (hHeld.2.2.2.2.2.trans (hb'.mono (Nat.le_trans hPX hHeld.2.2.2.2.2.size))) HKX.out (Nat.lt_succ_self P)) (fun hHeld => ?_)
                  clear hK K
                  try simp only [List.getElem_toArray, List.getElem_cons_succ, List.getElem_cons_zero, Act.put, List.setIfInBounds_toArray, List.set_cons_zero, List.set_cons_succ]
                  replace hst := hst.trans (hb'.mono hst.size)
                  replace kE := kE.below hb' kE.lt
                  clear hb'
                  refine wpAnyH_ready (rs := [13]) (by kernel_rfl) (by simp) ?_
                  refine AllReadyH.cons (o := _) rfl (fun K hK => ?_) ?_
                  · try simp only [List.getElem_toArray, List.getElem_cons_succ, List.getElem_cons_zero]
                    go_simp
                    refine (HOp.out _ hst).mono ?_
                    rintro e w' ⟨rfl, hb'⟩
                    go_wp2_with fail
                    refine hK.out _ _ (blk5 (hHeld.2.2.2.2.2.trans (hb'.mono (Nat.le_trans hPX hHeld.2.2.2.2.2.size))) HKX.out (Nat.lt_succ_self P)) (fun hHeld => ?_)
                    clear hK K
                    try simp only [List.getElem_toArray, List.getElem_cons_succ, List.getElem_cons_zero, Act.put, List.setIfInBounds_toArray, List.set_cons_zero, List.set_cons_succ]
                    replace hst := hst.trans (hb'.mono hst.size)
                    replace kE := kE.below hb' kE.lt
                    clear hb'
                    refine wpAnyH_take (i := 14) (oi := _) (v := ?_) rfl (by kernel_rfl) (by kernel_rfl) (by kernel_rfl) (fun _ _ _ h => h) (Or.inl ⟨by rfl, ?_⟩) (by assumption) ?_
                    rotate_left 1
                    · (intro w9 hS9; (try dsimp only at hS9); go_simp <;> with_reducible rfl)
                    try simp only [List.getElem_toArray, List.getElem_cons_succ, List.getElem_cons_zero, Act.put, List.setIfInBounds_toArray, List.set_cons_zero, List.set_cons_succ]
                    refine wpAnyH_ready (rs := [23]) (by kernel_rfl) (by simp) ?_
                    refine AllReadyH.cons (o := _) rfl (fun K hK => ?_) ?_
                    · try simp only [List.getElem_toArray, List.getElem_cons_succ, List.getElem_cons_zero]
                      rw [if_pos (show Region.wanted _ _ = true from rfl)]
                      refine wp_append_sub _ (.tmp 65) (.tmp 73) _ (by rfl) 74 i0 _ 2 16 Try.underlying22 HI.out.1 HI.out.2.1 HI.out.2.2.1 HI.out.2.2.2 rfl g c (j + 1) q cur (HGX.out.below hst HGX.out.lt) HCUR.out.2.1 hq0 hnc hcm (l.flatMap encM) HCUR.out.2.2 _ #[.int .i64 t, .int .i64 (T + k)] kE rfl (one2 _ _) (by simp only [maxLen]; omega) (by omega) _ _ _ (by rfl) (by rfl) (.inl rfl) (by omega) (by omega) ?_
                      intro A9 c9 w9 h9 hnc9 hcm9 hgr hbk
                      have hsz9 := Nat.le_trans hPX hst.size
                      refine hK.out _ _ (blk5 (hHeld.2.2.2.2.2.grown hgr hsz9 (fun _ h => by injection h with h; omega)) HKX.out (Nat.lt_succ_self P)) (fun hHeld => ?_)
                      clear hK K hgr
                      try simp only [List.getElem_toArray, List.getElem_cons_succ, List.getElem_cons_zero, Act.put, List.setIfInBounds_toArray, List.set_cons_zero, List.set_cons_succ]
                      refine wpAnyH_take (i := 24) (oi := _) (v := ?_) rfl (by kernel_rfl) (by kernel_rfl) (by kernel_rfl) (fun _ _ _ h => h) (Or.inl ⟨by rfl, ?_⟩) (by assumption) ?_
                      rotate_left 1
                      · (intro w9 hS9; (try dsimp only at hS9); go_simp <;> with_reducible rfl)
                      try simp only [List.getElem_toArray, List.getElem_cons_succ, List.getElem_cons_zero, Act.put, List.setIfInBounds_toArray, List.set_cons_zero, List.set_cons_succ]
                      refine wpAnyH_take (i := 25) (oi := _) (v := ?_) rfl (by kernel_rfl) (by kernel_rfl) (by kernel_rfl) (fun _ _ _ h => h) (Or.inl ⟨by rfl, ?_⟩) (by assumption) ?_
                      rotate_left 1
                      · (intro w9 hS9; (try dsimp only at hS9); go_simp <;> with_reducible rfl)
                      try simp only [List.getElem_toArray, List.getElem_cons_succ, List.getElem_cons_zero, Act.put, List.setIfInBounds_toArray, List.set_cons_zero, List.set_cons_succ]
                      refine wpAnyH_take (i := 26) (oi := _) (v := ?_) rfl (by kernel_rfl) (by kernel_rfl) (by kernel_rfl) (fun _ _ _ h => h) (Or.inl ⟨by rfl, ?_⟩) (by assumption) ?_
                      rotate_left 1
                      · (intro w9 hS9; (try dsimp only at hS9); go_simp <;> with_reducible rfl)
                      try simp only [List.getElem_toArray, List.getElem_cons_succ, List.getElem_cons_zero, Act.put, List.setIfInBounds_toArray, List.set_cons_zero, List.set_cons_succ]
                      refine wpAnyH_done (by kernel_rfl) ?_ _
                      refine snocQ_normal rfl ?_
                      have hk9 := HKX.out.below hHeld.2.2.2.2.2 (Nat.lt_succ_self P)
                      have hb9 := (hbX.mono (show P ≤ w.heap.size by omega)).trans (hHeld.2.2.2.2.2.mono (by omega))
                      have hnp : ∀ ad, A9 = some ad → P < ad.block := fun ad h => by rcases hbk ad h with h | h <;> omega
                      have z4 := hk9.frozen 4
                      have z3 := hk9.frozen 3
                      have l9 := hk9.lt
                      have HF := Lib.hid (And.intro hk9 (And.intro hb9 (And.intro h9 (And.intro hnp (And.intro hnc9 hcm9)))))
                      obtain ⟨f0, f1, f2, f3, f4, _⟩ := blk5 (Below.refl _ w9) hk9 hk9.lt
                      clear hk9 hb9 h9 hnc9 hcm9 hHeld hst kE hnp hbk
                      have hle : ((((j + 1) - q + 1 : Nat)) : Int) ≤ 4096 := by omega
                      generalize hgn : (j + 1) - q + 1 = n9 at *
                      have HGN := Lib.hid hgn
                      clear hgn
                      go_wp2_with fail
                      go_ret
                      refine ⟨rfl, (HF.out.2.1.setCell (p := ⟨P, 4, none⟩) (Nat.le_refl _) _).setCell (p := ⟨P, 3, none⟩) (Nat.le_refl _) _, ?_⟩
                      try intro _
                      refine ⟨A9, _, c9, (HF.out.1.set_ 4 _).set_ 3 _, ?_, HF.out.2.2.2.2.1, HF.out.2.2.2.2.2, HF.out.2.2.2.1⟩
                      rw [admL, if_neg HLN.out, HTT.out, HQ.out]
                      have h10 := Reads.far (Reads.far HF.out.2.2.1 (p := ⟨P, 4, none⟩) (fun ad h => Nat.ne_of_gt (HF.out.2.2.2.1 ad h)) (.slice A9 n9 c9)) (p := ⟨P, 3, none⟩) (fun ad h => Nat.ne_of_gt (HF.out.2.2.2.1 ad h)) (.int .i64 (b + k))
                      rw [encM_drop] at h10
                      exact Reads.more h10 (by simp [World.setCell])
                    · skip
                      exact AllReadyH.nil
                  · skip
                    exact AllReadyH.nil
                · skip
                  exact AllReadyH.nil
              · skip
                exact AllReadyH.nil
  · rw [if_neg hT]
    have hT' : 1073741824 < T + k := by omega
    go_enter Try.func35, Try.ntmps35
    go_wp2_with fail
    refine HTo.out.mono ?_
    rintro e w1 ⟨rfl, hb1⟩
    go_wp2_with fail
    go_ret
    exact ⟨rfl, hb1.mono (by omega), fun h => by omega⟩
end Go.Proofs.Ythkpkjigfaannaa
