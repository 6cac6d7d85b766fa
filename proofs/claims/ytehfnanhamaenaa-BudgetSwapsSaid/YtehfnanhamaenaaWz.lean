/- The walks of the plan's functions: built, below. Condition: at most eight plans. -/
import Derived.Test.YtehfnanhamaenaaWy
import Derived.Test.YtehfnanhamaenaaLibE
import Derived.Test.YtehfnanhamaenaaMathF
namespace Go.Proofs.Ytehfnanhamaenaa
open Go.RowKit
def encP (p : Pl) : List Value := [.int .u8 (p.par : Int), .int .u8 (p.rate : Int), .int .u8 (p.burst : Int)]
theorem encP_len (p : Pl) : (encP p).length = 3 := rfl
def RdP (w : World) (A : Option Addr) (n : Nat) (l : List Pl) : Prop := Reads w w.heap.size 3 A n (l.flatMap encP)
def OkP (l : List Pl) : Prop := ∀ p ∈ l, p.par < 256 ∧ p.rate < 256 ∧ p.burst < 256
theorem rdB_far {w w' : World} {g n d m : Nat} {a : Int} {A B : Option Addr} {l : List Bk} (hK : Blk w g 24 #[.int .i64 a, .slice B m d]) (h : RdB w A n l) (hw : ∀ p : Addr, p.block ≠ g → p.block < w.heap.size → w'.cell? p = w.cell? p) (hs : w.heap.size ≤ w'.heap.size) : RdB w' A n l := by
  rcases Nat.eq_zero_or_pos n with rfl | hn
  · exact ⟨h.1, fun h0 => absurd h0 (by omega)⟩
  · obtain ⟨b, off, rfl, hb, hc⟩ := Reads.plain h hn (by omega)
    have hl := h.len
    have hne : b ≠ g := by
      intro e
      subst e
      have h1 := hc 1 _ (encBs_at l 0 1 (by omega) (by omega))
      rw [hK.cell] at h1
      cases off with
      | zero => simp at h1
      | succ o => simp at h1
    refine ⟨h.1, fun _ => ⟨⟨b, off, none⟩, rfl, by dsimp only; omega, fun j u hu => ?_⟩⟩
    have he : (⟨b, off, none⟩ : Addr).add j = ⟨b, off + j, none⟩ := by unfold Addr.add; split <;> simp_all
    rw [he, hw _ hne hb]
    exact hc j u hu
theorem size_set2 (w : World) (a b : Addr) (u v : Value) : ((w.setCell a u).setCell b v).heap.size = w.heap.size := by simp [World.setCell]
theorem new_cells {W : World} {H : Nat} (hH : W.heap.size = H) (cs : Array Value) (t : TypeId) (i : Nat) : (W.alloc (.cells cs t)).cell? ⟨H, i, none⟩ = cs[i]? := by
  subst hH; exact (Blk.new W t cs).cell i
set_option maxRecDepth 100000 in
set_option maxHeartbeats 1000000 in
theorem built_any (A : Option Addr) (n c : Nat) (l : List Pl) (w : World) (hR : RdP w A n l) (hb : OkP l) (hn : n ≤ 8) :
    Calls Try.prog 25 #[.slice A n c] w fun e w' => (∃ A c, e = .returned (.tuple #[budV 0 A n c, .bool true]) ∧ RdB w' A n (startL l)) ∧ Below w.heap.size w w' := by
  have hlen : l.length = n := hR.count encP_len (by omega)
  subst hlen
  obtain ⟨i0, hi0, hz0, hz1, hz2⟩ := info_parts info64
  have HI := Lib.hid (And.intro hi0 (And.intro hz0 (And.intro hz1 hz2)))
  clear hi0 hz0 hz1 hz2
  have HN := Lib.hid (newP_plan l hn)
  have hbA : Below w.heap.size w (w.alloc (.cells #[.int .i64 0, .slice none 0 0] 24)) := (Below.refl _ w).alloc (Nat.le_refl _) _
  have hA1 := Blk.new w 24 #[.int .i64 0, .slice none 0 0]
  have hsA : (w.alloc (.cells #[.int .i64 0, .slice none 0 0] 24)).heap.size = w.heap.size + 1 := by simp
  go_enter Try.func25, Try.ntmps25
  go_wp2_with fail
  generalize (w.alloc (.cells #[.int .i64 0, .slice none 0 0] 24)) = W0 at *
  go_loopw [4, 5] (fun v i wr => ∃ k : Nat, k ≤ l.length ∧ i = .int .i64 k ∧ wr.ownsRow W0.heap.size 64 4 v k (encBs (planL (l.take k))) ∧ Below W0.heap.size W0 wr) (fun _ i _ => l.length - (intOf i).toNat)
  case atStart => exact ⟨0, by omega, rfl, World.ownsRow_nil _ _ 64 4, Below.refl _ _⟩
  case round =>
    obtain ⟨k, hk, rfl, hown, hbr⟩ := hrel
    have HO := Lib.hid hown
    clear hown
    by_cases hlt : k < l.length
    · obtain ⟨b, off, rfl, hbl, hc⟩ := hR.elems3 encP_len (by omega)
      obtain ⟨d0, d1, d2⟩ := hc k hlt _ _ _ rfl
      obtain ⟨p0, p1, p2⟩ := hb l[k] (List.getElem_mem hlt)
      have hbwr := hbA.trans (hbr.mono (by omega))
      have e0 := (hbwr.cell (p := ⟨b, off + k * 3, none⟩) hbl).trans d0
      have e1 := (hbwr.cell (p := ⟨b, off + k * 3 + 1, none⟩) hbl).trans d1
      have e2 := (hbwr.cell (p := ⟨b, off + k * 3 + 2, none⟩) hbl).trans d2
      have HS := Lib.hid (planL_take l k hlt)
      have hk8 : (k : Int) < 8 := by omega
      have hkl : (k : Int) < l.length := by omega
      clear hc d0 d1 d2
      have hl1 : b < W0.heap.size := by omega
      generalize l[k] = q at *
      obtain ⟨q0, q1, q2⟩ := q
      dsimp only at p0 p1 p2 e0 e1 e2
      have g0 : ((k : Int) + 1 == 0) = false := by simp; omega
      have g0' : ¬ (k : Int) + 1 = 0 := by omega
      have g1 : IntKind.i64.wrap ((k : Int) + 1) = k + 1 := IntWalk.i64_in _ (by omega)
      have g2 : (q0 : Int).tmod ((k : Int) + 1) = (q0 : Int) % ((k : Int) + 1) := Int.tmod_eq_emod_of_nonneg (by omega)
      have g3 := Int.emod_nonneg (q0 : Int) (by omega : (k : Int) + 1 ≠ 0)
      have g4 := Int.emod_lt_of_pos (q0 : Int) (by omega : (0 : Int) < (k : Int) + 1)
      have g5 : IntKind.i64.wrap ((q0 : Int) % ((k : Int) + 1) - 1) = (q0 : Int) % ((k : Int) + 1) - 1 := IntWalk.i64_in _ (by omega)
      have f0 : IntKind.i64.wrap (q0 : Int) = q0 := IntWalk.i64_in _ (by omega)
      have f1 : (q1 : Int).tmod 20 = (q1 : Int) % 20 := Int.tmod_eq_emod_of_nonneg (by omega)
      have f2 : (q2 : Int).tmod 60 = (q2 : Int) % 60 := Int.tmod_eq_emod_of_nonneg (by omega)
      have f3 : IntKind.i64.wrap ((q1 : Int) % 20) = (q1 : Int) % 20 := IntWalk.i64_in _ (by omega)
      have f4 : IntKind.i64.wrap ((q2 : Int) % 60) = (q2 : Int) % 60 := IntWalk.i64_in _ (by omega)
      go_wp2_with fail
      go_region_held3 (fun w' => w'.cell? ⟨b, off + k * 3, none⟩ = some (.int .u8 (q0 : Int)) ∧ w'.cell? ⟨b, off + k * 3 + 1, none⟩ = some (.int .u8 (q1 : Int)) ∧ w'.cell? ⟨b, off + k * 3 + 2, none⟩ = some (.int .u8 (q2 : Int)))
        (first
          | (go_keep; done)
          | (go_split_ands; exact ⟨(hba.cell hl1).trans e0, (hba.cell hl1).trans e1, (hba.cell hl1).trans e2⟩))
        ((refine step_append_elem wr.drew (by rfl) (.tmp 18) (.tmp 44) _ (by rfl) W0.heap.size 64 i0 _ 4 32 Try.underlying22 HI.out.1 HI.out.2.1 HI.out.2.2.1 HI.out.2.2.2 rfl (by omega) u4 k (encBs (planL (l.take k))) #[.int .i64 ((q0 : Int) % ((k : Int) + 1) - 1), .int .i64 ((q1 : Int) % 20), .int .i64 ((q2 : Int) % 60), .int .i64 0] rfl (by rfl) (by rfl) HO.out (by simp [Value.oneCell']) (by simp only [maxLen]; omega) (by omega) hbr.size ?_; intro v2 w2 hown2 hba))
      rename_i hH
      clear hH
      have hown3 : w2.ownsRow W0.heap.size 64 4 v2 (k + 1) (encBs (planL (l.take (k + 1)))) := by
        rw [HS.out, encBs, List.flatMap_append]
        exact hown2
      go_wp2
      go_roundw
      case rel => exact ⟨k + 1, by omega, by go_num, hown3, hbr.drew.trans hba⟩
      case measure => simp [intOf]; omega
    · obtain rfl : k = l.length := by omega
      obtain ⟨A2, c2, rfl, h2c, h2m, hr2⟩ := own_slice HO.out
      rw [List.take_length] at hr2
      have HR2 := Lib.hid hr2
      have hbw := hbA.trans (hbr.mono (by omega))
      have ka := (hA1.below hbr hA1.lt)
      have a0 : wr.cell? ⟨w.heap.size, 0, none⟩ = some (.int .i64 0) := ka.cell 0
      have a1 : wr.cell? ⟨w.heap.size, 1, none⟩ = some (.slice none 0 0) := ka.cell 1
      have hsl := startL_len l
      clear hr2
      go_wp2_with fail
      refine (New_any A2 l.length c2 (planL l) wr (by have := HR2.out; exact this) (by omega)).mono ?_
      rintro e w1 ⟨h, hb1⟩
      rw [HN.out] at h
      obtain ⟨A3, c3, rfl, hR3, _, _⟩ := h
      rw [hsl] at hR3 ⊢
      dsimp only at hR3 ⊢
      have kz := ka.below hb1 ka.lt
      have hz : w.heap.size < w1.heap.size := kz.lt
      have z0 : w1.cell? ⟨w.heap.size, 0, none⟩ = some (.int .i64 0) := kz.cell 0
      have z1 : w1.cell? ⟨w.heap.size, 1, none⟩ = some (.slice none 0 0) := kz.cell 1
      have zf0 : w1.frozen? ⟨w.heap.size, 0, none⟩ = false := kz.frozen 0
      have zf1 : w1.frozen? ⟨w.heap.size, 1, none⟩ = false := kz.frozen 1
      have y0 := (Blk.new w1 24 #[.int .i64 0, .slice A3 l.length c3]).cell 0
      have y1 := (Blk.new w1 24 #[.int .i64 0, .slice A3 l.length c3]).cell 1
      have hbw1 := hbw.trans (hb1.mono hbw.size)
      have HF := Lib.hid (And.intro hR3 (And.intro kz hbw1))
      clear kz hR3 ka a0 a1
      go_wp2_with fail
      go_region_held3 (fun w' => w'.cell? ⟨w1.heap.size, 0, none⟩ = some (.int .i64 0) ∧ w'.cell? ⟨w1.heap.size, 1, none⟩ = some (.slice A3 l.length c3))
        (first
          | (go_keep; done)
          | exact ⟨new_cells (size_set2 w1 _ _ _ _) _ _ 0, new_cells (size_set2 w1 _ _ _ _) _ _ 1⟩)
        (fail)
      rename_i hS
      clear hS
      go_wp2_with fail
      refine bodyPost_ret (results_cell_tmp rfl _ _ _ _ _ _ rfl ((((HF.out.2.1.set_ 0 (.int .i64 0)).set_ 1 (.slice A3 l.length c3)).alloc _).drew) Try.underlying24 rfl info24) rfl ?_
      have hb5 : Below w.heap.size w ((((w1.setCell ⟨w.heap.size, 0, none⟩ (.int .i64 0)).setCell ⟨w.heap.size, 1, none⟩ (.slice A3 l.length c3)).alloc (.cells #[.int .i64 0, .slice A3 l.length c3] 24)).drew) :=
        (((HF.out.2.2.setCell (p := ⟨w.heap.size, 0, none⟩) (Nat.le_refl _) _).setCell (p := ⟨w.heap.size, 1, none⟩) (Nat.le_refl _) _).alloc (by rw [size_set2]; omega) _).drew
      refine ⟨⟨A3, c3, rfl, ?_⟩, hb5⟩
      refine rdB_far HF.out.2.1 HF.out.1 (fun p h1 h2 => ?_) ?_
      · exact (World.cell?_alloc_lt _ _ p (by rw [size_set2]; exact h2)).trans ((World.cell?_of_block (Below.heap_setCell _ _ _ _ h1)).trans (World.cell?_of_block (Below.heap_setCell _ _ _ _ h1)))
      · show _ ≤ (World.alloc _ _).heap.size
        rw [World.size_alloc, size_set2]; omega
/-- is a bucket on the path of another -/
def onP (l : List Pl) (i j : Nat) : Bool := decide (j ∈ pathL (startL l) i)
theorem startL_up (l : List Pl) (h : l.length ≤ 8) : Up (startL l) := up_of (startL_ok l h)
theorem start_par (l : List Pl) (k : Nat) (hk : k < l.length) : (bkAt (startL l) k).par = (l[k].par : Int) % ((k : Int) + 1) - 1 := by
  rw [bkAt_lt _ k (by rw [startL_len]; exact hk), startL_get l k hk]
  rfl
set_option maxHeartbeats 1000000 in
theorem below_any (A : Option Addr) (n c i j : Nat) (l : List Pl) (w : World) (hR : RdP w A n l) (hb : OkP l) (hn : n ≤ 8) (hi : i < n) (hj : j < n) :
    Calls Try.prog 27 #[.slice A n c, .int .i64 i, .int .i64 j] w fun e w' => e = .returned (.bool (onP l i j)) ∧ w = w' := by
  have hlen : l.length = n := hR.count encP_len (by omega)
  subst hlen
  have hu := startL_up l hn
  have hsl := startL_len l
  obtain ⟨b, off, rfl, hbl, hc⟩ := hR.elems3 encP_len (by omega)
  have HON : Hid (onP l i j = decide (j ∈ pathL (startL l) i)) := rfl
  go_enter Try.func27, Try.ntmps27
  go_wp2_with fail
  go_loop [1] (fun t => ∃ q : Int, t = .int .i64 q ∧ -1 ≤ q ∧ q < l.length ∧ (j ∈ pathL (startL l) q ↔ j ∈ pathL (startL l) i)) (fun t => (intOf t + 1).toNat)
  case atStart => exact ⟨i, rfl, by omega, by omega, Iff.rfl⟩
  case round =>
    obtain ⟨q, rfl, q0, q1, hq⟩ := hrel
    have HQ := Lib.hid hq
    clear hq
    by_cases c0 : q < 0
    · have hno : ¬ j ∈ pathL (startL l) i := by rw [← HQ.out, pathL_neg _ c0]; simp
      have HNO := Lib.hid hno
      clear hno
      go_wp2_with fail
      go_ret
      exact ⟨ret_bool (by rw [HON.out, decide_eq_false HNO.out]), rfl⟩
    · obtain ⟨k, rfl⟩ : ∃ k : Nat, q = k := ⟨q.toNat, by omega⟩
      have hk : k < l.length := by omega
      have hst := pathL_step hu k (by rw [hsl]; exact hk)
      by_cases c1 : k = j
      · have hyes : j ∈ pathL (startL l) i := by rw [← HQ.out, hst, c1]; simp
        have HYES := Lib.hid hyes
        clear hyes hst
        subst c1
        go_wp2_with fail
        go_ret
        exact ⟨ret_bool (by rw [HON.out, decide_eq_true HYES.out]), rfl⟩
      · have hp := start_par l k hk
        have hup := hu k (by rw [hsl]; exact hk)
        obtain ⟨d0, _, _⟩ := hc k hk _ _ _ rfl
        have p0 := (hb l[k] (List.getElem_mem hk)).1
        have hne : ((k : Int) == (j : Int)) = false := by simp; omega
        have HST : Hid (j ∈ pathL (startL l) (bkAt (startL l) k).par ↔ j ∈ pathL (startL l) i) := by
          rw [Hid, ← HQ.out, hst, List.mem_cons]
          exact ⟨fun h => .inr h, fun h => h.resolve_left (fun e => c1 e.symm)⟩
        clear hst
        rw [hp] at HST hup
        generalize l[k].par = z at *
        have g0 : ((k : Int) + 1 == 0) = false := by simp; omega
        have g0' : ¬ (k : Int) + 1 = 0 := by omega
        have g3 := Int.emod_nonneg (z : Int) (by omega : (k : Int) + 1 ≠ 0)
        have g4 := Int.emod_lt_of_pos (z : Int) (by omega : (0 : Int) < (k : Int) + 1)
        have hkl : (k : Int) < l.length := by omega
        go_wp2_with fail
        go_round
        case rel => exact ⟨_, rfl, by omega, by omega, HST.out⟩
        case measure => simp [intOf]; omega
end Go.Proofs.Ytehfnanhamaenaa
