/- The walk of the law ChecksumAdds. No condition. -/
import Derived.Test.YtncpafibcpphfaaLc
import Derived.Test.YtncpafibcpphfaaArgsB
import Derived.Test.YtncpafibcpphfaaMathD
namespace Go.Proofs.Ytncpafibcpphfaa
open Go.RowKit
theorem step_append_elem {P : Program} {ops : Array Oper} {o : Oper} {a : Act} {K : Act → World → Prop} {Q : Exit → Act → World → Prop} {E : Prop} (w : World) (hgd : o.guard = none) (s x : Operand) (t : TypeId)
    (ho : o.op = .call { callee := .builtin .append, args := #[s, x], argTypes := #[t, t] })
    (base : Nat) (e : TypeId) (i : TypeInfo) (z : Value) (size bytes : Nat) (ht : P.underlying t = some (.slice e)) (hi : P.info? e = some i) (hz : i.zero = some z)
    (hsize : i.size = size) (hby : i.bytes = bytes) (hzs : z.cells.size = size) (hsz : 0 < size)
    (v : Value) (n : Nat) (xs : List Value) (us : Array Value) (hus : us.size = size) (hs : a.eval s = v) (hx : a.eval x = .slice (some ⟨w.heap.size, 0, none⟩) 1 1) (hown : w.ownsRow base e size v n xs)
    (h1 : ∀ u ∈ us.toList, u.oneCell' = true)
    (h63 : n + 1 ≤ maxLen) (hbytes : (n + 1) * bytes ≤ 140737488355328) (hbase : base ≤ w.heap.size)
    (h : ∀ v' w', w'.ownsRow base e size v' (n + 1) (xs ++ us.toList) → Below base w w' → K (a.put o.dst v') w') :
    if Region.wanted o (yielded ops a.tmps) = true then Oper.wp P o a (w.alloc (.cells us e)) K Q else E := by
  have hr := elem_reads w us e
  rw [hus] at hr
  refine step_append_any _ hgd s x t ho base e i z size bytes ht hi hz hsize hby hzs hsz v n xs hs (hown.alloc _) _ _ 1 1 us.toList hx hr h1 h63 hbytes (by simp; omega) ?_
  intro v' w' h2 h3 _
  exact h v' w' h2 (((Below.refl base w).alloc hbase _).grown h3 (by simp; omega) (own_block_ge hown))
theorem u8s_get (l : List Nat) (k : Nat) (h : k < l.length) : (u8s l)[k]? = some (.int .u8 (l[k] : Int)) := by simp [u8s, h]
theorem u8s_snoc (l : List Nat) (x : Nat) : u8s (l ++ [x]) = u8s l ++ (#[Value.int .u8 (x : Int)] : Array Value).toList := by simp [u8s]
/-- the bytes' exclusive or -/
def xor3 (lx ly lz : List Nat) (n : Nat) : List Nat := (List.range n).map fun j => lx.getD j 0 ^^^ ly.getD j 0 ^^^ lz.getD j 0
theorem xor3_succ (lx ly lz : List Nat) (n : Nat) : xor3 lx ly lz (n + 1) = xor3 lx ly lz n ++ [lx.getD n 0 ^^^ ly.getD n 0 ^^^ lz.getD n 0] := by simp [xor3, List.range_succ]
theorem getD_lt {l : List Nat} (h : ∀ x ∈ l, x < 256) (k : Nat) : l.getD k 0 < 256 := by
  rw [List.getD_eq_getElem?_getD]
  by_cases hk : k < l.length
  · rw [List.getElem?_eq_getElem hk]; exact h _ (List.getElem_mem _)
  · rw [List.getElem?_eq_none (by omega)]; exact (by omega : (0 : Nat) < 256)
theorem xor3_lt {lx ly lz : List Nat} (hx : ∀ x ∈ lx, x < 256) (hy : ∀ x ∈ ly, x < 256) (hz : ∀ x ∈ lz, x < 256) (n : Nat) : ∀ x ∈ xor3 lx ly lz n, x < 256 := by
  intro x hm
  obtain ⟨j, _, rfl⟩ := List.mem_map.1 hm
  exact Nat.xor_lt_two_pow (n := 8) (Nat.xor_lt_two_pow (n := 8) (getD_lt hx j) (getD_lt hy j)) (getD_lt hz j)
theorem u8s_getD {l : List Nat} {k : Nat} (h : k < l.length) : (u8s l)[k]? = some (.int .u8 (l.getD k 0 : Int)) := by
  rw [u8s_get l k h, List.getD_eq_getElem?_getD, List.getElem?_eq_getElem h]
  rfl
theorem xor6 (p q r x y z : Nat) : p ^^^ q ^^^ r ^^^ (x ^^^ y ^^^ z) = p ^^^ x ^^^ (q ^^^ y) ^^^ (r ^^^ z) := by
  apply Nat.eq_of_testBit_eq
  intro i
  simp only [Nat.testBit_xor]
  cases p.testBit i <;> cases q.testBit i <;> cases r.testBit i <;> cases x.testBit i <;> cases y.testBit i <;> cases z.testBit i <;> rfl
theorem updB_xor3 (p q r x y z : Nat) : updB (p ^^^ q ^^^ r) (x ^^^ y ^^^ z) = updB p x ^^^ updB q y ^^^ updB r z := by
  unfold updB crc8
  rw [← crcN_xor, ← crcN_xor, xor6]
theorem take_snocD {l : List Nat} {n : Nat} (h : n < l.length) : l.take (n + 1) = l.take n ++ [l.getD n 0] := by
  rw [← List.take_append_getElem h, List.getD_eq_getElem?_getD, List.getElem?_eq_getElem h]
  rfl
theorem updL_xor3 (lx ly lz : List Nat) (p q r : Nat) : ∀ n, n ≤ lx.length → n ≤ ly.length → n ≤ lz.length → updL (p ^^^ q ^^^ r) (xor3 lx ly lz n) = updL p (lx.take n) ^^^ updL q (ly.take n) ^^^ updL r (lz.take n)
  | 0, _, _, _ => rfl
  | n + 1, h1, h2, h3 => by
    rw [xor3_succ, take_snocD (by omega), take_snocD (l := ly) (by omega), take_snocD (l := lz) (by omega), updL_snoc, updL_snoc, updL_snoc, updL_snoc, updL_xor3 lx ly lz p q r n (by omega) (by omega) (by omega), updB_xor3]
theorem xor_three (m x y z : Nat) : m ^^^ (x ^^^ y ^^^ z) = (m ^^^ x) ^^^ (m ^^^ y) ^^^ (m ^^^ z) := by
  apply Nat.eq_of_testBit_eq
  intro i
  simp only [Nat.testBit_xor]
  cases m.testBit i <;> cases x.testBit i <;> cases y.testBit i <;> cases z.testBit i <;> rfl
theorem adds_eq (lx ly lz : List Nat) (n : Nat) (h1 : n ≤ lx.length) (h2 : n ≤ ly.length) (h3 : n ≤ lz.length) : updS 0 (xor3 lx ly lz n) = updS 0 (lx.take n) ^^^ updS 0 (ly.take n) ^^^ updS 0 (lz.take n) := by
  unfold updS
  have hm : not32 0 = not32 0 ^^^ not32 0 ^^^ not32 0 := by rw [Nat.xor_self, Nat.zero_xor]
  conv => lhs; rw [hm]
  rw [updL_xor3 lx ly lz _ _ _ n h1 h2 h3]
  simp only [not32_def]
  generalize 4294967295 = M
  exact xor_three M _ _ _
set_option maxHeartbeats 1000000 in
theorem adds_go (w : World) (A B C : Option Addr) (na nb nc ca cb cc n : Nat) (lx ly lz : List Nat) (hx : Reads w w.heap.size 1 A na (u8s lx)) (hy : Reads w w.heap.size 1 B nb (u8s ly)) (hz : Reads w w.heap.size 1 C nc (u8s lz))
    (bx : ∀ x ∈ lx, x < 256) (by' : ∀ x ∈ ly, x < 256) (bz : ∀ x ∈ lz, x < 256) (ha : na ≤ ca) (hb : nb ≤ cb) (hc : nc ≤ cc) (ha2 : ca ≤ maxLen) (hb2 : cb ≤ maxLen) (hc2 : cc ≤ maxLen) (hn : n = min (min (min na nb) nc) 2000) :
    Calls Try.prog 6 #[.slice A na ca, .slice B nb cb, .slice C nc cc] w fun e w' => e = .returned (.bool true) ∧ Below w.heap.size w w' := by
  unfold maxLen at ha2 hb2 hc2
  have lax : lx.length = na := by have := hx.1; rw [u8s_len] at this; omega
  have lay : ly.length = nb := by have := hy.1; rw [u8s_len] at this; omega
  have laz : lz.length = nc := by have := hz.1; rw [u8s_len] at this; omega
  have HL := Lib.hid (And.intro lax (And.intro lay laz))
  clear lax lay laz
  have n1 : n ≤ na := by omega
  have n2 : n ≤ nb := by omega
  have n3 : n ≤ nc := by omega
  have n4 : n ≤ 2000 := by omega
  have hmin : ∀ ts t w', (Builtin.min_ ts t #[.int .i64 na, .int .i64 nb, .int .i64 nc, .int .i64 2000]).run Try.prog w' = .ok (.int .i64 n) w' := by
    intro ts t w'
    simp [Builtin.min_, Builtin.min2]
    omega
  have HN := Lib.hid hn
  clear hn
  obtain ⟨i0, hi0, hz0, hz1, hz2⟩ := info_parts info5
  have HI := Lib.hid (And.intro hi0 (And.intro hz0 (And.intro hz1 hz2)))
  clear hi0 hz0 hz1 hz2
  go_enter Try.func6, Try.ntmps6
  go_wp2_with fail
  go_loopw [8, 9] (fun v i wr => ∃ k : Nat, k ≤ n ∧ i = .int .i64 k ∧ wr.ownsRow w.heap.size 5 1 v k (u8s (xor3 lx ly lz k)) ∧ Below w.heap.size w wr) (fun _ i _ => n - (intOf i).toNat)
  case atStart => exact ⟨0, by omega, rfl, World.ownsRow_nil w w.heap.size 5 1, Below.refl _ _⟩
  case round =>
    obtain ⟨k, hk, rfl, hown, hbw⟩ := hrel
    have HO := Lib.hid hown
    clear hown
    by_cases hlt : k < n
    · obtain ⟨b1, o1, rfl, hb1, hc1⟩ := hx.plain (by omega) (by omega)
      obtain ⟨b2, o2, rfl, hb2, hc2⟩ := hy.plain (by omega) (by omega)
      obtain ⟨b3, o3, rfl, hb3, hc3⟩ := hz.plain (by omega) (by omega)
      have d1 := (hbw.cell (p := ⟨b1, o1 + k, none⟩) hb1).trans (hc1 k _ (u8s_getD (by rw [HL.out.1]; omega)))
      have d2 := (hbw.cell (p := ⟨b2, o2 + k, none⟩) hb2).trans (hc2 k _ (u8s_getD (by rw [HL.out.2.1]; omega)))
      have d3 := (hbw.cell (p := ⟨b3, o3 + k, none⟩) hb3).trans (hc3 k _ (u8s_getD (by rw [HL.out.2.2]; omega)))
      have x1 := getD_lt bx k
      have x2 := getD_lt by' k
      have x3 := getD_lt bz k
      have HX := Lib.hid (xor3_succ lx ly lz k)
      have HC := Lib.hid (And.intro hc1 (And.intro hc2 hc3))
      clear hc1 hc2 hc3
      generalize lx.getD k 0 = q1 at *
      generalize ly.getD k 0 = q2 at *
      generalize lz.getD k 0 = q3 at *
      have y12 : q1 ^^^ q2 < 256 := Nat.xor_lt_two_pow (n := 8) x1 x2
      have e1 : bits .xor .u8 (q1 : Int) (q2 : Int) = ((q1 ^^^ q2 : Nat) : Int) := u8_xor_nat q1 q2 x1 x2
      have e2 : bits .xor .u8 ((q1 ^^^ q2 : Nat) : Int) (q3 : Int) = ((q1 ^^^ q2 ^^^ q3 : Nat) : Int) := u8_xor_nat _ q3 y12 x3
      have hkn : (k : Int) < na := by omega
      have hkm : (k : Int) < nb := by omega
      have hko : (k : Int) < nc := by omega
      go_wp2_with fail
      go_region_held3 (fun w' => w'.cell? ⟨b1, o1 + k, none⟩ = some (.int .u8 (q1 : Int)) ∧ w'.cell? ⟨b2, o2 + k, none⟩ = some (.int .u8 (q2 : Int)) ∧ w'.cell? ⟨b3, o3 + k, none⟩ = some (.int .u8 (q3 : Int)))
        (first
          | (go_keep; done)
          | (go_split_ands; exact ⟨(hba.cell hb1).trans d1, (hba.cell hb2).trans d2, (hba.cell hb3).trans d3⟩))
        ((refine step_append_elem wr.drew rfl (.tmp 22) (.tmp 37) _ rfl w.heap.size 5 i0 _ 1 1 Try.underlying26 HI.out.1 HI.out.2.1 HI.out.2.2.1 HI.out.2.2.2 rfl (by omega) u8 k (u8s (xor3 lx ly lz k)) #[.int .u8 ((q1 ^^^ q2 ^^^ q3 : Nat) : Int)] rfl rfl rfl HO.out (by simp [Value.oneCell']) (by simp only [maxLen]; omega) (by omega) hbw.size ?_; intro v2 w2 hown2 hba))
      rename_i hH
      clear hH
      rw [← u8s_snoc, ← HX.out] at hown2
      go_wp2
      go_roundw
      case rel => exact ⟨k + 1, by omega, by go_num, hown2, hbw.drew.trans hba⟩
      case measure => simp [intOf]; omega
    · have hkn : k = n := by omega
      subst hkn
      have heq := adds_eq lx ly lz k (by rw [HL.out.1]; omega) (by rw [HL.out.2.1]; omega) (by rw [HL.out.2.2]; omega)
      obtain ⟨A2, c2, rfl, _, _, hr2⟩ := own_slice HO.out
      have HR2 := Lib.hid hr2
      have rx := hx.take n1
      have ry := hy.take n2
      have rz := hz.take n3
      rw [Nat.mul_one, show (u8s lx).take k = u8s (lx.take k) by simp [u8s]] at rx
      rw [Nat.mul_one, show (u8s ly).take k = u8s (ly.take k) by simp [u8s]] at ry
      rw [Nat.mul_one, show (u8s lz).take k = u8s (lz.take k) by simp [u8s]] at rz
      have tx : ∀ x ∈ lx.take k, x < 256 := fun x hx => bx x (List.mem_of_mem_take hx)
      have ty : ∀ x ∈ ly.take k, x < 256 := fun x hx => by' x (List.mem_of_mem_take hx)
      have tz : ∀ x ∈ lz.take k, x < 256 := fun x hx => bz x (List.mem_of_mem_take hx)
      have txyz := xor3_lt bx by' bz k
      have ux := updS_lt (s := 0) (by omega) tx
      have uy := updS_lt (s := 0) (by omega) ty
      have uz := updS_lt (s := 0) (by omega) tz
      clear hr2 HO
      generalize hl1 : lx.take k = l1 at *
      generalize hl2 : ly.take k = l2 at *
      generalize hl3 : lz.take k = l3 at *
      generalize xor3 lx ly lz k = l4 at *
      have uxy : updS 0 l1 ^^^ updS 0 l2 < 4294967296 := Nat.xor_lt_two_pow (n := 32) ux uy
      have e1 : bits .xor .u32 (updS 0 l1 : Nat) (updS 0 l2 : Nat) = ((updS 0 l1 ^^^ updS 0 l2 : Nat) : Int) := u32_xor_nat _ _ ux uy
      have e2 : bits .xor .u32 ((updS 0 l1 ^^^ updS 0 l2 : Nat) : Int) (updS 0 l3 : Nat) = ((updS 0 l1 ^^^ updS 0 l2 ^^^ updS 0 l3 : Nat) : Int) := u32_xor_nat _ _ uxy uz
      rw [← heq] at e2
      have HRX := Lib.hid (And.intro rx (And.intro ry rz))
      clear hl1 hl2 hl3 heq rx ry rz
      have i0' : (0 : Int) ≤ (k : Int) := by omega
      have i1 : (k : Int) ≤ (ca : Int) := by omega
      have i2 : (k : Int) ≤ (cb : Int) := by omega
      have i3 : (k : Int) ≤ (cc : Int) := by omega
      go_wp2_with fail
      go_region_held3 (fun w' => Below w.heap.size w w' ∧ Below wr.heap.size wr w')
        (first
          | exact ⟨Below.drew (by assumption), Below.drew (Below.refl _ _)⟩
          | (go_split_ands; exact ⟨Below.trans (by assumption) (hba.mono (Below.size (by assumption))), Below.trans (by assumption) (hba.mono (Below.size (by assumption)))⟩)
          | (go_split_ands; exact ⟨by assumption, by assumption⟩))
        (first
          | (go_at_call 10; refine (awake_any _).mono ?_; rintro e w' ⟨rfl, hba⟩)
          | (go_at_call_of 13 (Value.slice A2 k c2); refine (sum_any _ _ _ l4 _ (by omega) (HR2.out.up (by go_split_ands; assumption)) txyz).mono ?_; rintro e w' ⟨rfl, hba⟩)
          | (go_at_call_of 13 (Value.slice A k ca); refine (sum_any _ _ _ l1 _ (by omega) (HRX.out.1.up (by go_split_ands; assumption)) tx).mono ?_; rintro e w' ⟨rfl, hba⟩)
          | (go_at_call_of 13 (Value.slice B k cb); refine (sum_any _ _ _ l2 _ (by omega) (HRX.out.2.1.up (by go_split_ands; assumption)) ty).mono ?_; rintro e w' ⟨rfl, hba⟩)
          | (go_at_call_of 13 (Value.slice C k cc); refine (sum_any _ _ _ l3 _ (by omega) (HRX.out.2.2.up (by go_split_ands; assumption)) tz).mono ?_; rintro e w' ⟨rfl, hba⟩))
      rename_i hH
      have HH := Lib.hid hH
      clear hH
      go_wp2
      go_ret
      exact ⟨rfl, HH.out.1⟩
theorem walkChecksumAdds (w : World) (v0 v1 v2 : Value) (h0 : Arg26 w v0) (h1 : Arg26 w v1) (h2 : Arg26 w v2) :
    Calls Try.prog 6 #[v0, v1, v2] w fun e w' => e = .returned (.bool true) ∧ Below w.heap.size w w' := by
  obtain ⟨A, na, ca, lx, rfl, hx, bx, ha, ha2⟩ := h0
  obtain ⟨B, nb, cb, ly, rfl, hy, by', hb, hb2⟩ := h1
  obtain ⟨C, nc, cc, lz, rfl, hz, bz, hc, hc2⟩ := h2
  exact adds_go w A B C na nb nc ca cb cc _ lx ly lz hx hy hz bx by' bz ha hb hc ha2 hb2 hc2 rfl
end Go.Proofs.Ytncpafibcpphfaa
