/- The walk of the laws' grown. Condition: a lineage in order, of small numbers. -/
import Derived.Test.YtnhemndpnjhbfaaWx
import Derived.Test.YtnhemndpnjhbfaaMathE
import Derived.Test.YtnhemndpnjhbfaaArgs
namespace Go.Proofs.Ytnhemndpnjhbfaa
open Go.RowKit Go.Shelf
theorem info3 : (Try.prog.info? 3).map (fun i => (i.zero, i.size, i.bytes)) = some (some (.int .i64 0), 1, 8) := by kernel_rfl
def encI (n : Int) : Value := .int .i64 n
/-- append of one element that lies in the newest block, with what it leaves alone -/
theorem wpList_append_elemG {P : Program} {ops : Array Oper} {rest : List Oper} {o : Oper} {a : Act} {Q : Exit → Act → World → Prop} (w : World) (hgd : o.guard = none) (s x : Operand) (t : TypeId)
    (ho : o.op = .call { callee := .builtin .append, args := #[s, x], argTypes := #[t, t] })
    (base : Nat) (e : TypeId) (i : TypeInfo) (z : Value) (size bytes : Nat) (ht : P.underlying t = some (.slice e)) (hi : P.info? e = some i) (hz : i.zero = some z)
    (hsize : i.size = size) (hby : i.bytes = bytes) (hzs : z.cells.size = size) (hsz : 0 < size)
    (v : Value) (n : Nat) (xs : List Value) (us : Array Value) (hus : us.size = size) (hs : a.eval s = v) (hx : a.eval x = .slice (some ⟨w.heap.size, 0, none⟩) 1 1) (hown : w.ownsRow base e size v n xs)
    (h1 : ∀ u ∈ us.toList, u.oneCell' = true)
    (h63 : n + 1 ≤ maxLen) (hbytes : (n + 1) * bytes ≤ 140737488355328) (hbase : base ≤ w.heap.size)
    (h : ∀ v' w', w'.ownsRow base e size v' (n + 1) (xs ++ us.toList) → (w.alloc (.cells us e)).grownBy w' v.ownBlock → (v'.ownBlock = v.ownBlock ∨ v'.ownBlock = some (w.heap.size + 1)) → wpList P ops Q rest (a.put o.dst v') w') : wpList P ops Q (o :: rest) a (w.alloc (.cells us e)) := by
  have hr := elem_reads w us e
  rw [hus] at hr
  refine wpList_append_any _ hgd s x t ho base e i z size bytes ht hi hz hsize hby hzs hsz v n xs hs (hown.alloc _) _ _ 1 1 us.toList hx hr h1 h63 hbytes (by simp; omega) ?_
  intro v' w' h2 h3 h4
  exact h v' w' h2 h3 (by rw [World.size_alloc] at h4; exact h4)
/-- two rows in different blocks, one of which grows -/
structure TwoR (w : World) (b0 b1 : Nat) (es : List Value) (n : Nat) (v : Value) (ls : List Value) (m : Nat) (u : Value) (wr : World) : Prop where
  one : wr.ownsRow b0 3 1 v n es
  two : wr.ownsRow b1 68 3 u m ls
  dif : ∀ g, v.ownBlock = some g → u.ownBlock ≠ some g
  bel : Below b0 w wr
theorem TwoR.grow {w : World} {b0 b1 : Nat} {es : List Value} {n : Nat} {v : Value} {ls : List Value} {m : Nat} {u : Value} {wr : World} (h : TwoR w b0 b1 es n v ls m u wr) {us : Array Value} {v' : Value} {w' : World} (hb : b0 ≤ wr.heap.size)
    (h2 : w'.ownsRow b0 3 1 v' (n + 1) (es ++ us.toList)) (h3 : (wr.alloc (.cells us 3)).grownBy w' v.ownBlock) (h4 : v'.ownBlock = v.ownBlock ∨ v'.ownBlock = some (wr.heap.size + 1)) :
    TwoR w b0 b1 (es ++ us.toList) (n + 1) v' ls m u w' := by
  refine ⟨h2, ?_, ?_, ?_⟩
  · refine own_keep (own_alloc h.two (.cells us 3)) fun g hg => h3.block g (own_lt (own_alloc h.two (.cells us 3)) g hg) fun q => ?_
    exact h.dif g q.symm hg
  · intro g hg hu
    rcases h4 with h4 | h4
    · exact h.dif g (h4 ▸ hg) hu
    · have := own_lt h.two g hu
      rw [h4] at hg
      injection hg with hg
      omega
  · exact (h.bel.alloc hb _).grown h3 (by simp; omega) (own_block_ge h.one)
/-- a row of pairs of bytes -/
theorem pairs_cells {w : World} {A : Option Addr} {n : Nat} {q : List (Nat × Nat)} (h : Reads w w.heap.size 2 A n (q.flatMap encP)) : q.length = n ∧ ∃ g off, (0 < n → A = some ⟨g, off, none⟩ ∧ g < w.heap.size) ∧ ∀ i (h : i < q.length), w.cell? ⟨g, off + i * 2, none⟩ = some (.int .u8 q[i].1) ∧ w.cell? ⟨g, off + i * 2 + 1, none⟩ = some (.int .u8 q[i].2) := by
  have hl : q.length = n := Reads.count h (fun _ => rfl) (by omega)
  refine ⟨hl, ?_⟩
  by_cases h0 : 0 < n
  · obtain ⟨g, off, e, hg, hc⟩ := h.elems (fun _ => rfl) (by omega) h0
    exact ⟨g, off, fun _ => ⟨e, hg⟩, fun i hi => ⟨hc i hi 0 _ rfl, hc i hi 1 _ rfl⟩⟩
  · exact ⟨0, 0, fun h => absurd h h0, fun i hi => by omega⟩
/-- the lineage and the epochs of a loop of grown -/
structure GrI (w : World) (n0 : Nat) (l : List Span) (E : List Int) (k : Nat) (v0 v9 : Value) (wr : World) : Prop where
  lin : ∃ A n c, v0 = .slice A n c ∧ RdS wr A n l ∧ n ≤ c ∧ c ≤ maxLen ∧ n ≤ n0 + k
  epo : wr.ownsRow w.heap.size 3 1 v9 E.length (E.map encI)
  len : E.length ≤ 4 * k
  bel : Below w.heap.size w wr
set_option maxRecDepth 100000 in
set_option maxHeartbeats 4000000 in
theorem grown_any (A : Option Addr) (n c : Nat) (l : List Span) (A' : Option Addr) (m c' : Nat) (q : List (Nat × Nat)) (w : World) (hR : RdS w A n l) (hnc : n ≤ c) (hcm : c ≤ maxLen) (hn : n ≤ 200) (hok : OkS l 500)
    (hQ : Reads w w.heap.size 2 A' m (q.flatMap encP)) (hmc : m ≤ c') (hcm' : c' ≤ maxLen) :
    Calls Try.prog 30 #[.slice A n c, .slice A' m c'] w fun e w' => (∃ A1 n1 c1 A2 n2 c2, e = .returned (.tuple #[.slice A1 n1 c1, .slice A2 n2 c2, .bool true]) ∧ (RdS w' A1 n1 (growL (q.take 20) l) ∧ n1 ≤ c1 ∧ c1 ≤ maxLen ∧ n1 ≤ n + 20) ∧ Reads w' w'.heap.size 1 A2 n2 ((growE (q.take 20) l).map encI) ∧ n2 ≤ 80 ∧ n2 ≤ c2) ∧ Below w.heap.size w w' := by
  have hm63 : m ≤ 9223372036854775807 := by unfold maxLen at hcm'; omega
  obtain ⟨hqm, g, off, hg, hqc⟩ := pairs_cells hQ
  subst hqm
  have HC := Lib.hid hqc
  have HG := Lib.hid hg
  have HR := Lib.hid hR
  have HOK := Lib.hid hok
  have HN := Lib.hid (And.intro hnc hcm)
  obtain ⟨i0, hi0, hz0, hz1, hz2⟩ := info_parts info3
  have HI0 := Lib.hid (And.intro hi0 (And.intro hz0 (And.intro hz1 hz2)))
  clear hi0 hz0 hz1 hz2 hqc hg hR hQ hok hnc hcm hmc hcm'
  by_cases h0 : n = 0
  · subst h0
    have HL0 := Lib.hid (List.eq_nil_of_length_eq_zero HR.out.len)
    go_enter Try.func30, Try.ntmps30
    go_wp2_with fail
    go_loopw [0, 7, 8, 9, 10] (fun v0 v7 v8 v9 i wr => ∃ k : Nat, k ≤ q.length ∧ k ≤ 20 ∧ i = .int .i64 k ∧ v7 = .int .i64 (lastS (growL (q.take k) l)).e ∧ v8 = .int .i64 (lastS (growL (q.take k) l)).t ∧ GrI w 0 (growL (q.take k) l) (growE (q.take k) l) k v0 v9 wr) (fun _ _ _ _ i _ => 21 - (intOf i).toNat)
    case atStart => exact ⟨0, by omega, by omega, rfl, by rw [HL0.out]; rfl, by rw [HL0.out]; rfl, ⟨⟨A, _, c, rfl, HR.out.up (Below.refl _ _), HN.out.1, HN.out.2, by omega⟩, by simpa [growE] using World.ownsRow_nil _ _ 3 1, by simp [growE], (Below.refl _ _)⟩⟩
    case round =>
      obtain ⟨k, hk, hk20, rfl, rfl, rfl, hI⟩ := hrel
      have HI := Lib.hid hI
      clear hI
      by_cases hlt : k < q.length ∧ k < 20
      · obtain ⟨hlt, hlt2⟩ := hlt
        have hS := grow_step HOK.out hlt hlt2
        obtain ⟨rfl, hgw⟩ := HG.out (by omega)
        obtain ⟨d0, d1⟩ := HC.out k hlt
        have hbw := HI.out.bel
        have hsz := hbw.size
        replace d0 := (hbw.cell (p := ⟨g, off + k * 2, none⟩) hgw).trans d0
        replace d1 := (hbw.cell (p := ⟨g, off + k * 2 + 1, none⟩) hgw).trans d1
        have ik : (k : Int) < q.length := by omega
        have ik2 : (k : Int) < 20 := by omega
        generalize q[k] = p at *
        obtain ⟨p1, p2⟩ := p
        change wr.cell? ⟨g, off + k * 2, none⟩ = some (.int .u8 p1) at d0
        change wr.cell? ⟨g, off + k * 2 + 1, none⟩ = some (.int .u8 p2) at d1
        obtain ⟨L, hL⟩ : ∃ L, growL (q.take k) l = L := ⟨_, rfl⟩
        obtain ⟨E, hE⟩ : ∃ E, growE (q.take k) l = E := ⟨_, rfl⟩
        rw [hL] at hS HI ⊢
        rw [hE] at hS HI
        obtain ⟨sE, sL, sG, se, st, b0, b1, b2, b3⟩ := hS
        have hC4 : (p2 : Int) % 4 < 4 ∧ 0 ≤ (p2 : Int) % 4 := by omega
        have HSE : Hid (stepE L (p1, p2) = List.replicate (p2 % 4 + 1) (stepN L (p1, p2))) := rfl
        have HCC : Hid (stepC L (p1, p2) = (lastS L).t + 1 + (p2 : Int) % 4) := by simp [Hid, stepC]
        obtain ⟨C, hC⟩ : ∃ C, (lastS L).t + 1 + (p2 : Int) % 4 = C := ⟨_, rfl⟩
        have hCb : C ≤ 604 ∧ (lastS L).t + 1 ≤ C := by omega
        have HCr : Hid (C = (lastS L).t + ((p2 % 4 + 1 : Nat) : Int)) := by rw [Hid, ← hC]; simp; omega
        have HCE := Lib.hid hC
        rw [HCC.out, hC] at sE sL st
        have HS := Lib.hid (And.intro sE (And.intro sL (And.intro sG (And.intro se st))))
        clear sE sL sG se st hL hE hbw hC4 HCC
        obtain ⟨A1, n1, c1, rfl, hR1, h1c, h1m, h1n⟩ := HI.out.lin
        have HR1 := Lib.hid hR1
        have H1 := Lib.hid (And.intro h1c h1m)
        clear hR1 h1c h1m hC
        by_cases c1 : 1 ≤ (lastS L).e + (p1 : Int) % 3
        · have HSN : Hid (stepN L (p1, p2) = (lastS L).e + (p1 : Int) % 3) := by
            have h9 : ((p1 % 3 : Nat) : Int) = (p1 : Int) % 3 := by simp
            simp only [Hid, stepN, h9]
            split <;> omega
          obtain ⟨N, hN⟩ : ∃ N, (lastS L).e + (p1 : Int) % 3 = N := ⟨_, rfl⟩
          rw [hN] at HSN
          rw [HSN.out] at HS HSE
          have HNE := Lib.hid hN
          clear hN
          go_wp2_with fail
          rw [HNE.out, HCE.out]
          refine (Extend_fresh A1 n1 _ N C L wr HR1.out (by omega)).mono ?_
          rintro e w1 ⟨⟨u, rfl, hown⟩, hb⟩
          rw [HS.out.1]
          rw [show extV L N C = extL L N C from if_pos HS.out.1] at hown
          obtain ⟨M, hM⟩ : ∃ M, wr.heap.size = M := ⟨_, rfl⟩
          rw [hM] at hown
          have HT : Hid (TwoR w w.heap.size M ((E ++ List.replicate 0 N).map encI) (E.length + 0) u9 ((extL L N C).flatMap encS) (extL L N C).length u w1) := by
            refine ⟨by simpa using own_below HI.out.epo hb, hown, fun g hg hu => ?_, HI.out.bel.trans (hb.mono HI.out.bel.size)⟩
            have h1 := own_lt HI.out.epo g hg
            have h2 := own_block_ge hown g hu
            omega
          clear hown hM
          go_wp2_with fail
          go_loopw [8, 9] (fun v8 v9 wr2 => ∃ j : Nat, v8 = .int .i64 ((lastS L).t + j) ∧ j ≤ p2 % 4 + 1 ∧ TwoR w w.heap.size M ((E ++ List.replicate j N).map encI) (E.length + j) v9 ((extL L N C).flatMap encS) (extL L N C).length u wr2) (fun v8 _ _ => (C - intOf v8).toNat)
          case atStart => exact ⟨0, by simp, by omega, HT.out⟩
          case round =>
            obtain ⟨j, rfl, hj, hT⟩ := hrel
            have HT2 := Lib.hid hT
            have hEl := HI.out.len
            have hsz2 := hT.bel.size
            clear hT
            by_cases hjl : j < p2 % 4 + 1
            · have c2 : (lastS L).t + (j : Int) < C := by have := HCr.out; omega
              go_wp2_with (at_builtin; go_must (refine wpList_append_elemG wr rfl (.tmp 76) (.tmp 78) _ rfl w.heap.size 3 i0 _ 1 8 Try.underlying58 HI0.out.1 HI0.out.2.1 HI0.out.2.2.1 HI0.out.2.2.2 rfl (by omega) u9 (E.length + j) ((E ++ List.replicate j N).map encI) #[.int .i64 N] rfl rfl rfl HT2.out.one (by simp [Value.oneCell']) (by simp only [maxLen]; omega) (by omega) hsz2 ?_; intro v2 w2 h2 h3 h4; have HT3 := Lib.hid (HT2.out.grow hsz2 h2 h3 h4); clear h2 h3 h4))
              go_roundw
              case rel => exact ⟨j + 1, by go_num, by omega, by
                have h9 := HT3.out
                rw [show (E ++ List.replicate (j + 1) N).map encI = (E ++ List.replicate j N).map encI ++ #[Value.int .i64 N].toList by rw [List.replicate_succ']; simp [encI]]
                exact h9⟩
              case measure => simp [intOf]; omega
            · obtain rfl : j = p2 % 4 + 1 := by omega
              have c2 : ¬ ((lastS L).t + ((p2 % 4 + 1 : Nat) : Int) < C) := by have := HCr.out; omega
              obtain ⟨A2, c9, rfl, h2c, h2m, hr2⟩ := own_slice HT2.out.two
              have HR2 := Lib.hid (And.intro h2c (And.intro h2m hr2))
              clear h2c h2m hr2
              go_wp2_with fail
              go_roundw
              case rel =>
                refine ⟨k + 1, by omega, by omega, by go_num, by rw [HS.out.2.2.2.1], by rw [HS.out.2.2.2.2, HCr.out], ⟨⟨A2, _, c9, rfl, ?_, HR2.out.1, HR2.out.2.1, ?_⟩, ?_, ?_, HT2.out.bel⟩⟩
                · rw [HS.out.2.1]; exact HR2.out.2.2
                · have h1 := extL_len1 L N C
                  have h2 := HR1.out.len
                  omega
                · rw [HS.out.2.2.1, HSE.out, List.length_append, List.length_replicate]; exact HT2.out.one
                · rw [HS.out.2.2.1, HSE.out, List.length_append, List.length_replicate]; omega
              case measure => simp [intOf]; omega
        · have HSN : Hid (stepN L (p1, p2) = 1) := by
            have h9 : ((p1 % 3 : Nat) : Int) = (p1 : Int) % 3 := by simp
            simp only [Hid, stepN, h9]
            rw [if_neg (by omega)]
          rw [HSN.out] at HS HSE
          go_wp2_with fail
          rw [HCE.out]
          refine (Extend_fresh A1 n1 _ (1 : Int) C L wr HR1.out (by omega)).mono ?_
          rintro e w1 ⟨⟨u, rfl, hown⟩, hb⟩
          rw [HS.out.1]
          rw [show extV L (1 : Int) C = extL L (1 : Int) C from if_pos HS.out.1] at hown
          obtain ⟨M, hM⟩ : ∃ M, wr.heap.size = M := ⟨_, rfl⟩
          rw [hM] at hown
          have HT : Hid (TwoR w w.heap.size M ((E ++ List.replicate 0 (1 : Int)).map encI) (E.length + 0) u9 ((extL L (1 : Int) C).flatMap encS) (extL L (1 : Int) C).length u w1) := by
            refine ⟨by simpa using own_below HI.out.epo hb, hown, fun g hg hu => ?_, HI.out.bel.trans (hb.mono HI.out.bel.size)⟩
            have h1 := own_lt HI.out.epo g hg
            have h2 := own_block_ge hown g hu
            omega
          clear hown hM
          go_wp2_with fail
          go_loopw [8, 9] (fun v8 v9 wr2 => ∃ j : Nat, v8 = .int .i64 ((lastS L).t + j) ∧ j ≤ p2 % 4 + 1 ∧ TwoR w w.heap.size M ((E ++ List.replicate j (1 : Int)).map encI) (E.length + j) v9 ((extL L (1 : Int) C).flatMap encS) (extL L (1 : Int) C).length u wr2) (fun v8 _ _ => (C - intOf v8).toNat)
          case atStart => exact ⟨0, by simp, by omega, HT.out⟩
          case round =>
            obtain ⟨j, rfl, hj, hT⟩ := hrel
            have HT2 := Lib.hid hT
            have hEl := HI.out.len
            have hsz2 := hT.bel.size
            clear hT
            by_cases hjl : j < p2 % 4 + 1
            · have c2 : (lastS L).t + (j : Int) < C := by have := HCr.out; omega
              go_wp2_with (at_builtin; go_must (refine wpList_append_elemG wr rfl (.tmp 76) (.tmp 78) _ rfl w.heap.size 3 i0 _ 1 8 Try.underlying58 HI0.out.1 HI0.out.2.1 HI0.out.2.2.1 HI0.out.2.2.2 rfl (by omega) u9 (E.length + j) ((E ++ List.replicate j (1 : Int)).map encI) #[.int .i64 (1 : Int)] rfl rfl rfl HT2.out.one (by simp [Value.oneCell']) (by simp only [maxLen]; omega) (by omega) hsz2 ?_; intro v2 w2 h2 h3 h4; have HT3 := Lib.hid (HT2.out.grow hsz2 h2 h3 h4); clear h2 h3 h4))
              go_roundw
              case rel => exact ⟨j + 1, by go_num, by omega, by
                have h9 := HT3.out
                rw [show (E ++ List.replicate (j + 1) (1 : Int)).map encI = (E ++ List.replicate j (1 : Int)).map encI ++ #[Value.int .i64 (1 : Int)].toList by rw [List.replicate_succ']; simp [encI]]
                exact h9⟩
              case measure => simp [intOf]; omega
            · obtain rfl : j = p2 % 4 + 1 := by omega
              have c2 : ¬ ((lastS L).t + ((p2 % 4 + 1 : Nat) : Int) < C) := by have := HCr.out; omega
              obtain ⟨A2, c9, rfl, h2c, h2m, hr2⟩ := own_slice HT2.out.two
              have HR2 := Lib.hid (And.intro h2c (And.intro h2m hr2))
              clear h2c h2m hr2
              go_wp2_with fail
              go_roundw
              case rel =>
                refine ⟨k + 1, by omega, by omega, by go_num, by rw [HS.out.2.2.2.1], by rw [HS.out.2.2.2.2, HCr.out], ⟨⟨A2, _, c9, rfl, ?_, HR2.out.1, HR2.out.2.1, ?_⟩, ?_, ?_, HT2.out.bel⟩⟩
                · rw [HS.out.2.1]; exact HR2.out.2.2
                · have h1 := extL_len1 L (1 : Int) C
                  have h2 := HR1.out.len
                  omega
                · rw [HS.out.2.2.1, HSE.out, List.length_append, List.length_replicate]; exact HT2.out.one
                · rw [HS.out.2.2.1, HSE.out, List.length_append, List.length_replicate]; omega
              case measure => simp [intOf]; omega
      · have hT : q.take k = q.take 20 := by
          by_cases h : k < q.length
          · have : k = 20 := by omega
            rw [this]
          · rw [List.take_of_length_le (by omega), List.take_of_length_le (by omega)]
        have h63 : ¬ ((k : Int) < q.length ∧ (k : Int) < 20) := by omega
        rw [hT] at HI
        obtain ⟨A1, n1, c1, rfl, hR1, h1c, h1m, h1n⟩ := HI.out.lin
        obtain ⟨A2, c2, rfl, h2c, h2m, hr2⟩ := own_slice HI.out.epo
        have HF := Lib.hid (And.intro hR1 (And.intro h1c (And.intro h1m (And.intro h1n (And.intro hr2 (And.intro HI.out.len h2c))))))
        clear hT hR1 h1c h1m h1n h2c h2m hr2
        by_cases hlq : k < q.length
        · have c3 : (k : Int) < q.length := by omega
          have c4 : ¬ (k : Int) < 20 := by omega
          go_wp2_with fail
          refine bodyPost_ret (v := .tuple #[.slice A1 n1 c1, .slice A2 (growE (q.take 20) l).length c2, .bool true]) (by simp [results, Try.results30, go_sem]) rfl ⟨⟨_, _, _, _, _, _, rfl, ⟨HF.out.1, HF.out.2.1, HF.out.2.2.1, by have := HF.out.2.2.2.1; omega⟩, HF.out.2.2.2.2.1, by have := HF.out.2.2.2.2.2.1; omega, HF.out.2.2.2.2.2.2⟩, HI.out.bel⟩
        · have c3 : ¬ (k : Int) < q.length := by omega
          go_wp2_with fail
          refine bodyPost_ret (v := .tuple #[.slice A1 n1 c1, .slice A2 (growE (q.take 20) l).length c2, .bool true]) (by simp [results, Try.results30, go_sem]) rfl ⟨⟨_, _, _, _, _, _, rfl, ⟨HF.out.1, HF.out.2.1, HF.out.2.2.1, by have := HF.out.2.2.2.1; omega⟩, HF.out.2.2.2.2.1, by have := HF.out.2.2.2.2.2.1; omega, HF.out.2.2.2.2.2.2⟩, HI.out.bel⟩
  · have hlen := HR.out.len
    subst hlen
    obtain ⟨g1, o1, j1, hj1, rfl, hg1, e0, _, e2⟩ := HR.out.last h0
    have HJ := Lib.hid hj1
    rw [hj1] at hn HR HN ⊢
    have jw : IntKind.i64.wrap ((j1 : Int) + 1 - 1) = j1 := by rw [IntWalk.i64_in _ (by omega)]; omega
    have jw2 : IntKind.i64.wrap (j1 : Int) = j1 := IntWalk.i64_in _ (by omega)
    clear hj1 h0
    go_enter Try.func30, Try.ntmps30
    go_wp2_with fail
    go_quiet (fail)
    generalize (⟨g1, o1, none⟩ : Addr) = A at *
    clear jw jw2 e0 e2
    go_wp2_with fail
    go_loopw [0, 7, 8, 9, 10] (fun v0 v7 v8 v9 i wr => ∃ k : Nat, k ≤ q.length ∧ k ≤ 20 ∧ i = .int .i64 k ∧ v7 = .int .i64 (lastS (growL (q.take k) l)).e ∧ v8 = .int .i64 (lastS (growL (q.take k) l)).t ∧ GrI w (j1 + 1) (growL (q.take k) l) (growE (q.take k) l) k v0 v9 wr) (fun _ _ _ _ i _ => 21 - (intOf i).toNat)
    case atStart => exact ⟨0, by omega, by omega, rfl, rfl, rfl, ⟨⟨some A, j1 + 1, c, rfl, HR.out.up (below_drewN (Below.refl _ _) _), HN.out.1, HN.out.2, by omega⟩, by simpa [growE] using World.ownsRow_nil _ _ 3 1, by simp [growE], (below_drewN (Below.refl _ _) _)⟩⟩
    case round =>
      obtain ⟨k, hk, hk20, rfl, rfl, rfl, hI⟩ := hrel
      have HI := Lib.hid hI
      clear hI
      by_cases hlt : k < q.length ∧ k < 20
      · obtain ⟨hlt, hlt2⟩ := hlt
        have hS := grow_step HOK.out hlt hlt2
        obtain ⟨rfl, hgw⟩ := HG.out (by omega)
        obtain ⟨d0, d1⟩ := HC.out k hlt
        have hbw := HI.out.bel
        have hsz := hbw.size
        replace d0 := (hbw.cell (p := ⟨g, off + k * 2, none⟩) hgw).trans d0
        replace d1 := (hbw.cell (p := ⟨g, off + k * 2 + 1, none⟩) hgw).trans d1
        have ik : (k : Int) < q.length := by omega
        have ik2 : (k : Int) < 20 := by omega
        generalize q[k] = p at *
        obtain ⟨p1, p2⟩ := p
        change wr.cell? ⟨g, off + k * 2, none⟩ = some (.int .u8 p1) at d0
        change wr.cell? ⟨g, off + k * 2 + 1, none⟩ = some (.int .u8 p2) at d1
        obtain ⟨L, hL⟩ : ∃ L, growL (q.take k) l = L := ⟨_, rfl⟩
        obtain ⟨E, hE⟩ : ∃ E, growE (q.take k) l = E := ⟨_, rfl⟩
        rw [hL] at hS HI ⊢
        rw [hE] at hS HI
        obtain ⟨sE, sL, sG, se, st, b0, b1, b2, b3⟩ := hS
        have hC4 : (p2 : Int) % 4 < 4 ∧ 0 ≤ (p2 : Int) % 4 := by omega
        have HSE : Hid (stepE L (p1, p2) = List.replicate (p2 % 4 + 1) (stepN L (p1, p2))) := rfl
        have HCC : Hid (stepC L (p1, p2) = (lastS L).t + 1 + (p2 : Int) % 4) := by simp [Hid, stepC]
        obtain ⟨C, hC⟩ : ∃ C, (lastS L).t + 1 + (p2 : Int) % 4 = C := ⟨_, rfl⟩
        have hCb : C ≤ 604 ∧ (lastS L).t + 1 ≤ C := by omega
        have HCr : Hid (C = (lastS L).t + ((p2 % 4 + 1 : Nat) : Int)) := by rw [Hid, ← hC]; simp; omega
        have HCE := Lib.hid hC
        rw [HCC.out, hC] at sE sL st
        have HS := Lib.hid (And.intro sE (And.intro sL (And.intro sG (And.intro se st))))
        clear sE sL sG se st hL hE hbw hC4 HCC
        obtain ⟨A1, n1, c1, rfl, hR1, h1c, h1m, h1n⟩ := HI.out.lin
        have HR1 := Lib.hid hR1
        have H1 := Lib.hid (And.intro h1c h1m)
        clear hR1 h1c h1m hC
        by_cases c1 : 1 ≤ (lastS L).e + (p1 : Int) % 3
        · have HSN : Hid (stepN L (p1, p2) = (lastS L).e + (p1 : Int) % 3) := by
            have h9 : ((p1 % 3 : Nat) : Int) = (p1 : Int) % 3 := by simp
            simp only [Hid, stepN, h9]
            split <;> omega
          obtain ⟨N, hN⟩ : ∃ N, (lastS L).e + (p1 : Int) % 3 = N := ⟨_, rfl⟩
          rw [hN] at HSN
          rw [HSN.out] at HS HSE
          have HNE := Lib.hid hN
          clear hN
          go_wp2_with fail
          rw [HNE.out, HCE.out]
          refine (Extend_fresh A1 n1 _ N C L wr HR1.out (by omega)).mono ?_
          rintro e w1 ⟨⟨u, rfl, hown⟩, hb⟩
          rw [HS.out.1]
          rw [show extV L N C = extL L N C from if_pos HS.out.1] at hown
          obtain ⟨M, hM⟩ : ∃ M, wr.heap.size = M := ⟨_, rfl⟩
          rw [hM] at hown
          have HT : Hid (TwoR w w.heap.size M ((E ++ List.replicate 0 N).map encI) (E.length + 0) u9 ((extL L N C).flatMap encS) (extL L N C).length u w1) := by
            refine ⟨by simpa using own_below HI.out.epo hb, hown, fun g hg hu => ?_, HI.out.bel.trans (hb.mono HI.out.bel.size)⟩
            have h1 := own_lt HI.out.epo g hg
            have h2 := own_block_ge hown g hu
            omega
          clear hown hM
          go_wp2_with fail
          go_loopw [8, 9] (fun v8 v9 wr2 => ∃ j : Nat, v8 = .int .i64 ((lastS L).t + j) ∧ j ≤ p2 % 4 + 1 ∧ TwoR w w.heap.size M ((E ++ List.replicate j N).map encI) (E.length + j) v9 ((extL L N C).flatMap encS) (extL L N C).length u wr2) (fun v8 _ _ => (C - intOf v8).toNat)
          case atStart => exact ⟨0, by simp, by omega, HT.out⟩
          case round =>
            obtain ⟨j, rfl, hj, hT⟩ := hrel
            have HT2 := Lib.hid hT
            have hEl := HI.out.len
            have hsz2 := hT.bel.size
            clear hT
            by_cases hjl : j < p2 % 4 + 1
            · have c2 : (lastS L).t + (j : Int) < C := by have := HCr.out; omega
              go_wp2_with (at_builtin; go_must (refine wpList_append_elemG wr rfl (.tmp 76) (.tmp 78) _ rfl w.heap.size 3 i0 _ 1 8 Try.underlying58 HI0.out.1 HI0.out.2.1 HI0.out.2.2.1 HI0.out.2.2.2 rfl (by omega) u9 (E.length + j) ((E ++ List.replicate j N).map encI) #[.int .i64 N] rfl rfl rfl HT2.out.one (by simp [Value.oneCell']) (by simp only [maxLen]; omega) (by omega) hsz2 ?_; intro v2 w2 h2 h3 h4; have HT3 := Lib.hid (HT2.out.grow hsz2 h2 h3 h4); clear h2 h3 h4))
              go_roundw
              case rel => exact ⟨j + 1, by go_num, by omega, by
                have h9 := HT3.out
                rw [show (E ++ List.replicate (j + 1) N).map encI = (E ++ List.replicate j N).map encI ++ #[Value.int .i64 N].toList by rw [List.replicate_succ']; simp [encI]]
                exact h9⟩
              case measure => simp [intOf]; omega
            · obtain rfl : j = p2 % 4 + 1 := by omega
              have c2 : ¬ ((lastS L).t + ((p2 % 4 + 1 : Nat) : Int) < C) := by have := HCr.out; omega
              obtain ⟨A2, c9, rfl, h2c, h2m, hr2⟩ := own_slice HT2.out.two
              have HR2 := Lib.hid (And.intro h2c (And.intro h2m hr2))
              clear h2c h2m hr2
              go_wp2_with fail
              go_roundw
              case rel =>
                refine ⟨k + 1, by omega, by omega, by go_num, by rw [HS.out.2.2.2.1], by rw [HS.out.2.2.2.2, HCr.out], ⟨⟨A2, _, c9, rfl, ?_, HR2.out.1, HR2.out.2.1, ?_⟩, ?_, ?_, HT2.out.bel⟩⟩
                · rw [HS.out.2.1]; exact HR2.out.2.2
                · have h1 := extL_len1 L N C
                  have h2 := HR1.out.len
                  omega
                · rw [HS.out.2.2.1, HSE.out, List.length_append, List.length_replicate]; exact HT2.out.one
                · rw [HS.out.2.2.1, HSE.out, List.length_append, List.length_replicate]; omega
              case measure => simp [intOf]; omega
        · have HSN : Hid (stepN L (p1, p2) = 1) := by
            have h9 : ((p1 % 3 : Nat) : Int) = (p1 : Int) % 3 := by simp
            simp only [Hid, stepN, h9]
            rw [if_neg (by omega)]
          rw [HSN.out] at HS HSE
          go_wp2_with fail
          rw [HCE.out]
          refine (Extend_fresh A1 n1 _ (1 : Int) C L wr HR1.out (by omega)).mono ?_
          rintro e w1 ⟨⟨u, rfl, hown⟩, hb⟩
          rw [HS.out.1]
          rw [show extV L (1 : Int) C = extL L (1 : Int) C from if_pos HS.out.1] at hown
          obtain ⟨M, hM⟩ : ∃ M, wr.heap.size = M := ⟨_, rfl⟩
          rw [hM] at hown
          have HT : Hid (TwoR w w.heap.size M ((E ++ List.replicate 0 (1 : Int)).map encI) (E.length + 0) u9 ((extL L (1 : Int) C).flatMap encS) (extL L (1 : Int) C).length u w1) := by
            refine ⟨by simpa using own_below HI.out.epo hb, hown, fun g hg hu => ?_, HI.out.bel.trans (hb.mono HI.out.bel.size)⟩
            have h1 := own_lt HI.out.epo g hg
            have h2 := own_block_ge hown g hu
            omega
          clear hown hM
          go_wp2_with fail
          go_loopw [8, 9] (fun v8 v9 wr2 => ∃ j : Nat, v8 = .int .i64 ((lastS L).t + j) ∧ j ≤ p2 % 4 + 1 ∧ TwoR w w.heap.size M ((E ++ List.replicate j (1 : Int)).map encI) (E.length + j) v9 ((extL L (1 : Int) C).flatMap encS) (extL L (1 : Int) C).length u wr2) (fun v8 _ _ => (C - intOf v8).toNat)
          case atStart => exact ⟨0, by simp, by omega, HT.out⟩
          case round =>
            obtain ⟨j, rfl, hj, hT⟩ := hrel
            have HT2 := Lib.hid hT
            have hEl := HI.out.len
            have hsz2 := hT.bel.size
            clear hT
            by_cases hjl : j < p2 % 4 + 1
            · have c2 : (lastS L).t + (j : Int) < C := by have := HCr.out; omega
              go_wp2_with (at_builtin; go_must (refine wpList_append_elemG wr rfl (.tmp 76) (.tmp 78) _ rfl w.heap.size 3 i0 _ 1 8 Try.underlying58 HI0.out.1 HI0.out.2.1 HI0.out.2.2.1 HI0.out.2.2.2 rfl (by omega) u9 (E.length + j) ((E ++ List.replicate j (1 : Int)).map encI) #[.int .i64 (1 : Int)] rfl rfl rfl HT2.out.one (by simp [Value.oneCell']) (by simp only [maxLen]; omega) (by omega) hsz2 ?_; intro v2 w2 h2 h3 h4; have HT3 := Lib.hid (HT2.out.grow hsz2 h2 h3 h4); clear h2 h3 h4))
              go_roundw
              case rel => exact ⟨j + 1, by go_num, by omega, by
                have h9 := HT3.out
                rw [show (E ++ List.replicate (j + 1) (1 : Int)).map encI = (E ++ List.replicate j (1 : Int)).map encI ++ #[Value.int .i64 (1 : Int)].toList by rw [List.replicate_succ']; simp [encI]]
                exact h9⟩
              case measure => simp [intOf]; omega
            · obtain rfl : j = p2 % 4 + 1 := by omega
              have c2 : ¬ ((lastS L).t + ((p2 % 4 + 1 : Nat) : Int) < C) := by have := HCr.out; omega
              obtain ⟨A2, c9, rfl, h2c, h2m, hr2⟩ := own_slice HT2.out.two
              have HR2 := Lib.hid (And.intro h2c (And.intro h2m hr2))
              clear h2c h2m hr2
              go_wp2_with fail
              go_roundw
              case rel =>
                refine ⟨k + 1, by omega, by omega, by go_num, by rw [HS.out.2.2.2.1], by rw [HS.out.2.2.2.2, HCr.out], ⟨⟨A2, _, c9, rfl, ?_, HR2.out.1, HR2.out.2.1, ?_⟩, ?_, ?_, HT2.out.bel⟩⟩
                · rw [HS.out.2.1]; exact HR2.out.2.2
                · have h1 := extL_len1 L (1 : Int) C
                  have h2 := HR1.out.len
                  omega
                · rw [HS.out.2.2.1, HSE.out, List.length_append, List.length_replicate]; exact HT2.out.one
                · rw [HS.out.2.2.1, HSE.out, List.length_append, List.length_replicate]; omega
              case measure => simp [intOf]; omega
      · have hT : q.take k = q.take 20 := by
          by_cases h : k < q.length
          · have : k = 20 := by omega
            rw [this]
          · rw [List.take_of_length_le (by omega), List.take_of_length_le (by omega)]
        have h63 : ¬ ((k : Int) < q.length ∧ (k : Int) < 20) := by omega
        rw [hT] at HI
        obtain ⟨A1, n1, c1, rfl, hR1, h1c, h1m, h1n⟩ := HI.out.lin
        obtain ⟨A2, c2, rfl, h2c, h2m, hr2⟩ := own_slice HI.out.epo
        have HF := Lib.hid (And.intro hR1 (And.intro h1c (And.intro h1m (And.intro h1n (And.intro hr2 (And.intro HI.out.len h2c))))))
        clear hT hR1 h1c h1m h1n h2c h2m hr2
        by_cases hlq : k < q.length
        · have c3 : (k : Int) < q.length := by omega
          have c4 : ¬ (k : Int) < 20 := by omega
          go_wp2_with fail
          refine bodyPost_ret (v := .tuple #[.slice A1 n1 c1, .slice A2 (growE (q.take 20) l).length c2, .bool true]) (by simp [results, Try.results30, go_sem]) rfl ⟨⟨_, _, _, _, _, _, rfl, ⟨HF.out.1, HF.out.2.1, HF.out.2.2.1, by have := HF.out.2.2.2.1; omega⟩, HF.out.2.2.2.2.1, by have := HF.out.2.2.2.2.2.1; omega, HF.out.2.2.2.2.2.2⟩, HI.out.bel⟩
        · have c3 : ¬ (k : Int) < q.length := by omega
          go_wp2_with fail
          refine bodyPost_ret (v := .tuple #[.slice A1 n1 c1, .slice A2 (growE (q.take 20) l).length c2, .bool true]) (by simp [results, Try.results30, go_sem]) rfl ⟨⟨_, _, _, _, _, _, rfl, ⟨HF.out.1, HF.out.2.1, HF.out.2.2.1, by have := HF.out.2.2.2.1; omega⟩, HF.out.2.2.2.2.1, by have := HF.out.2.2.2.2.2.1; omega, HF.out.2.2.2.2.2.2⟩, HI.out.bel⟩
end Go.Proofs.Ytnhemndpnjhbfaa
