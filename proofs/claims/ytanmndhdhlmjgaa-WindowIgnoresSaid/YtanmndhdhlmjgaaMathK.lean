/- A step of a transmission, as a plain function; what bounds it. No condition. -/
import Derived.Test.YtanmndhdhlmjgaaRa
import Derived.Test.YtanmndhdhlmjgaaMathG
import Derived.Test.YtanmndhdhlmjgaaMathD
import Derived.Test.YtanmndhdhlmjgaaWp
namespace Go.Proofs.Ytanmndhdhlmjgaa
theorem bits_and_le (x : Int) (m : Nat) (hm : m < 4611686018427387904) : 0 ≤ bits .and .i64 x (m : Int) ∧ bits .and .i64 x (m : Int) ≤ (m : Int) := by
  unfold bits
  dsimp only
  have h1 : (BitVec.ofInt 64 x &&& BitVec.ofInt 64 (m : Int)).toNat ≤ m := by
    rw [BitVec.toNat_and]
    refine Nat.le_trans Nat.and_le_right ?_
    rw [BitVec.ofInt_natCast, BitVec.toNat_ofNat]
    exact Nat.mod_le _ _
  show 0 ≤ IntKind.i64.wrap (((BitVec.ofInt 64 x &&& BitVec.ofInt 64 (m : Int)).toNat : Int)) ∧ IntKind.i64.wrap (((BitVec.ofInt 64 x &&& BitVec.ofInt 64 (m : Int)).toNat : Int)) ≤ (m : Int)
  generalize (BitVec.ofInt 64 x &&& BitVec.ofInt 64 (m : Int)).toNat = N at *
  rw [IntWalk.i64_in _ (by omega)]
  omega
def stepJ (n : Int) : Nat := (bits .and .i64 n 3).toNat
def stepK (n : Int) : Nat := (bits .and .i64 (n.tdiv 4) 1048575).toNat
theorem stepJ_eq (n : Int) : bits .and .i64 n 3 = (stepJ n : Int) ∧ stepJ n ≤ 3 := by
  have h : 0 ≤ bits .and .i64 n 3 ∧ bits .and .i64 n 3 ≤ 3 := bits_and_le n 3 (by omega)
  unfold stepJ
  omega
theorem stepK_eq (n : Int) : bits .and .i64 (n.tdiv 4) 1048575 = (stepK n : Int) ∧ stepK n ≤ 1048575 := by
  have h : 0 ≤ bits .and .i64 (n.tdiv 4) 1048575 ∧ bits .and .i64 (n.tdiv 4) 1048575 ≤ 1048575 := bits_and_le (n.tdiv 4) 1048575 (by omega)
  unfold stepK
  omega
attribute [irreducible] stepJ stepK
def pshM (m : RunM) : RunM := { m with s := (pushS m.s [m.pu.length, 0]).1, pu := m.pu ++ [[m.pu.length, 0]] }
def pollM (m : RunM) (t : Int) : RunM := { m with s := (pollS m.s (m.now + t)).1, now := m.now + t, pk := m.pk ++ (pollS m.s (m.now + t)).2 }
def arrM (m : RunM) (p : Pm) : RunM := { m with r := (recvR m.r p).1, dl := m.dl ++ (recvR m.r p).2.1, an := m.an ++ (recvR m.r p).2.2 }
def ansM (m : RunM) (p : Pm) : RunM := { m with s := (ackS m.s m.now p).1 }
/-- one of all packets that were ever sent -/
def pickP (l : List Pm) (k : Nat) : Option Pm := l[l.length - 1 - k % l.length]?
theorem pickP_some {l : List Pm} {k : Nat} (h : 0 < l.length) : ∃ hi : l.length - 1 - k % l.length < l.length, pickP l k = some (l[l.length - 1 - k % l.length]'hi) := by
  have hi : l.length - 1 - k % l.length < l.length := by omega
  exact ⟨hi, List.getElem?_eq_getElem hi⟩
theorem pickP_mem {l : List Pm} {k : Nat} {p : Pm} (h : pickP l k = some p) : p ∈ l := List.mem_of_getElem? h
def stepR (m : RunM) (n : Int) : RunM :=
  if stepJ n = 0 then pshM m else if stepJ n = 1 then pollM m ((stepK n % 8 : Nat) : Int)
  else if stepJ n = 2 then (match pickP m.pk (stepK n) with | some p => arrM m p | none => m)
  else (match pickP m.an (stepK n) with | some p => ansM m p | none => m)
/-- small enough to be walked -/
structure Fit (m : RunM) : Prop where
  s : chkS m.s = 0
  r : chkR m.r = 0
  q : m.s.q.length ≤ 80
  pu : m.pu.length ≤ 200
  now : 0 ≤ m.now ∧ m.now ≤ 100000
  pk : m.pk.length ≤ 50000
  an : m.an.length ≤ 50000
  dl : m.dl.length ≤ 1000
  pks : ∀ p ∈ m.pk, SmallP p
  ans : ∀ p ∈ m.an, SmallP p
theorem deliv_len2 : ∀ (l : List Am) (n : Int), (deliv n l).1.length ≤ l.length
  | [], n => by rw [deliv]; exact Nat.le_refl _
  | a :: l, n => by
    rw [deliv]
    split
    · have := deliv_len2 l (n + 1); simp only [List.length_cons]; omega
    · simp
structure SmallT2 (q : Rm × List (List Nat) × List Pm) : Prop where
  r : q.1.early.length ≤ 81
  d : q.2.1.length ≤ 81
  k : q.2.2.length ≤ 1
  ks : ∀ x ∈ q.2.2, SmallP x
theorem recvR_small2 {r : Rm} {p : Pm} (h : r.early.length ≤ 80) : SmallT2 (recvR r p) := by
  unfold recvR
  split
  · exact ⟨by dsimp only; omega, by simp, by simp, nofun⟩
  · have h1 : (if p.kind = 0 then keepR r p else r).early.length ≤ 81 := by
      split
      · have := keep_len r p; omega
      · omega
    generalize (if p.kind = 0 then keepR r p else r) = r1 at *
    have h2 := deliv_len r1.early r1.next
    have h3 := deliv_len2 r1.early r1.next
    refine ⟨by dsimp only; omega, by dsimp only; omega, by simp, fun x hx => ?_⟩
    rw [List.mem_singleton] at hx
    subst hx
    refine ⟨?_, by simp [answP]⟩
    show (selA _).length ≤ _
    have h4 := selA_len (deliv r1.next r1.early).2.2
    dsimp only
    omega
theorem Fit.small {m : RunM} (h : Fit m) : Small m.s ∧ SmallR m.r ∧ m.r.early.length ≤ 80 := by
  have h1 := chkS_rng h.s
  have h2 := (chkR_ok m.r).1 h.r
  have h3 := h1.out
  have h4 := h1.lim
  have h5 := h2.few
  have h6 := h2.lim
  exact ⟨⟨by omega, Nat.le_trans h1.q (by omega)⟩, ⟨by omega⟩, by omega⟩
theorem Fit.push {m : RunM} (h : Fit m) : (pushS m.s [m.pu.length, 0]) = ({ m.s with q := m.s.q ++ [[m.pu.length, 0]] }, 0) := by
  unfold pushS
  have h1 := h.q
  rw [if_neg (not_not_intro h.s), if_neg (by simp), if_neg (by omega)]
end Go.Proofs.Ytanmndhdhlmjgaa
