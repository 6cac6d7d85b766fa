/- What runs are, in plain words. No condition. -/
import Derived.Test.YtjaoppopfeonhaaMathC
import Derived.Test.YtjaoppopfeonhaaWy
namespace Go.Proofs.Ytjaoppopfeonhaa
/-- what a run has made -/
structure RunS where
  l : Lm
  tm : List Int
  id : List Int
  cp : List Int
  rs : List Int
  now : Int
def run0 (mi ma ra : Int) (cs : List Int) : RunS := ⟨⟨mi, ma, ra, false, 0, 0, []⟩, [], [], [], cs, 0⟩
def nowR (r : RunS) (x : Sp) : Int := r.now + ((x.t % 20 : Nat) : Int)
def sendR (r : RunS) (k : Nat) (x : Sp) : SendA := sendM r.l (nowR r x) (payM x.s k) r.rs
def stepR (r : RunS) (k : Nat) (x : Sp) : RunS :=
  ⟨(sendR r k x).l, r.tm ++ [nowR r x], r.id ++ [(sendR r k x).l.idle], r.cp ++ [((timesOf (decV r.rs 3) : Nat) : Int)], (sendR r k x).r, nowR r x⟩
def runK (mi ma ra : Int) (cs : List Int) (st : List Sp) : Nat → RunS
  | 0 => run0 mi ma ra cs
  | k + 1 => match st[k]? with
    | some x => stepR (runK mi ma ra cs st k) k x
    | none => runK mi ma ra cs st k
/-- a run in order -/
structure OkR (mi ma ra : Int) (n k : Nat) (r : RunS) : Prop where
  ok : OkL r.l
  dn : r.l.dn = false
  mi : r.l.mi = mi
  ma : r.l.ma = ma
  ra : r.l.ra = ra
  nx : r.l.nx = r.l.fl.length
  fl : r.l.fl.length ≤ 2 * k
  now0 : 0 ≤ r.now
  now : r.now ≤ 19 * k
  idle0 : 0 ≤ r.l.idle
  idle : r.l.idle ≤ 28 * k
  ltm : r.tm.length = k
  lid : r.id.length = k
  lcp : r.cp.length = k
  lrs : r.rs.length ≤ n
theorem pay_len (s k : Nat) : (payM s k).length = s % 9 + 1 := by simp [payM]
theorem ticks_small {b : Nat} {ra : Int} (hb : 0 < b) (h0 : 0 ≤ ra) : 0 ≤ ticksM b ra ∧ ticksM b ra ≤ b := by
  unfold ticksM
  split
  · omega
  · have hp : 0 < ra := by omega
    rw [Int.tdiv_eq_ediv_of_nonneg (by omega)]
    refine ⟨Int.ediv_nonneg (by omega) h0, ?_⟩
    have h1 : (b : Int) * 1 ≤ (b : Int) * ra := Int.mul_le_mul_of_nonneg_left (by omega) (by omega)
    rw [Int.mul_one] at h1
    have h2 : (b : Int) + ra - 1 < ((b : Int) + 1) * ra := by
      rw [Int.add_mul, Int.one_mul]
      omega
    have := Int.ediv_lt_of_lt_mul hp h2
    omega
theorem run0_ok {mi ma ra : Int} {cs : List Int} (h : 0 ≤ mi ∧ mi ≤ ma ∧ ma ≤ 100 ∧ 0 ≤ ra ∧ ra ≤ 100) : OkR mi ma ra cs.length 0 (run0 mi ma ra cs) :=
  ⟨⟨h.1, h.2.1, by dsimp only [run0]; omega, h.2.2.2.1, by dsimp only [run0]; omega, Int.le_refl _, by dsimp only [run0]; omega, Int.le_refl _, by dsimp only [run0]; omega, by simp [run0], fun _ => rfl, nofun, nofun, nofun⟩, rfl, rfl, rfl, rfl, rfl, Nat.le_refl _, Int.le_refl _, by simp [run0], Int.le_refl _, by simp [run0], rfl, rfl, rfl, Nat.le_refl _⟩
theorem max_lo {a b m : Int} (h : max a b = m) : a ≤ m ∧ b ≤ m ∧ (m = a ∨ m = b) := by
  subst h
  refine ⟨Int.le_max_left _ _, Int.le_max_right _ _, ?_⟩
  rcases Int.le_total a b with h | h
  · exact .inr (Int.max_eq_right h)
  · exact .inl (Int.max_eq_left h)
/-- where a step's transmission ends -/
theorem endR_b {mi ma ra : Int} {n k : Nat} {r : RunS} (h : OkR mi ma ra n k r) (x : Sp) : nowR r x ≤ 19 * (k + 1) ∧ r.now ≤ nowR r x ∧ nowR r x ≤ endM r.l (nowR r x) (payM x.s k).length ∧ r.l.idle ≤ endM r.l (nowR r x) (payM x.s k).length ∧ endM r.l (nowR r x) (payM x.s k).length ≤ 28 * (k + 1) := by
  have h1 : nowR r x ≤ 19 * (k + 1) ∧ r.now ≤ nowR r x := by
    have := h.now
    unfold nowR
    omega
  have h2 := ticks_small (b := (payM x.s k).length) (ra := r.l.ra) (by rw [pay_len]; omega) h.ok.ra0
  rw [pay_len] at h2
  obtain ⟨m1, m2, m3⟩ := max_lo (a := nowR r x) (b := r.l.idle) rfl
  have := h.idle
  refine ⟨h1.1, h1.2, ?_, ?_, ?_⟩ <;> (unfold endM; rw [pay_len]; omega)
theorem step_ok {mi ma ra : Int} {n k : Nat} {r : RunS} (h : OkR mi ma ra n k r) (x : Sp) (hk : k < 20) (hma : ma ≤ 100) :
    OkR mi ma ra n (k + 1) (stepR r k x) ∧ (sendR r k x).e = 0 ∧ (sendR r k x).l.idle = endM r.l (nowR r x) (payM x.s k).length := by
  obtain ⟨a1, a2, a3, a4, a5⟩ := endR_b h x
  have b1 := h.now0
  have b2 := h.fl
  have b3 := h.nx
  have b4 := h.ma
  have b5 := h.idle0
  have b6 := pay_len x.s k
  obtain ⟨s1, s2, s3, s4, s5, s6, s7, s8, s9, s10⟩ := send_facts (l := r.l) (now := nowR r x) (p := payM x.s k) (cs := r.rs) h.ok h.dn ⟨by omega, by omega⟩ (by omega) (by omega) (by omega) (by omega)
  have ht := times_le (decV r.rs 3)
  refine ⟨⟨s2, s3, s4.trans h.mi, s5.trans h.ma, s6.trans h.ra, ?_, ?_, ?_, ?_, ?_, ?_, ?_, ?_, ?_, Nat.le_trans s10 h.lrs⟩, s1, s7⟩
  · show (sendM r.l (nowR r x) (payM x.s k) r.rs).l.nx = _
    rw [s8, show (stepR r k x).l = (sendM r.l (nowR r x) (payM x.s k) r.rs).l from rfl, s9, b3]
    simp
  · show (sendM r.l (nowR r x) (payM x.s k) r.rs).l.fl.length ≤ _
    rw [s9]
    omega
  · show 0 ≤ nowR r x
    omega
  · show nowR r x ≤ _
    omega
  · show 0 ≤ (sendM r.l (nowR r x) (payM x.s k) r.rs).l.idle
    omega
  · show (sendM r.l (nowR r x) (payM x.s k) r.rs).l.idle ≤ _
    omega
  · simp [stepR, h.ltm]
  · simp [stepR, h.lid]
  · simp [stepR, h.lcp]
theorem runK_succ {mi ma ra : Int} {cs : List Int} {st : List Sp} {k : Nat} {x : Sp} (h : st[k]? = some x) : runK mi ma ra cs st (k + 1) = stepR (runK mi ma ra cs st k) k x := by
  show (match st[k]? with | some x => stepR (runK mi ma ra cs st k) k x | none => runK mi ma ra cs st k) = _
  rw [h]
theorem runK_ok {mi ma ra : Int} {cs : List Int} {st : List Sp} (h : 0 ≤ mi ∧ mi ≤ ma ∧ ma ≤ 100 ∧ 0 ≤ ra ∧ ra ≤ 100) (hs : st.length ≤ 20) : ∀ k, k ≤ st.length → OkR mi ma ra cs.length k (runK mi ma ra cs st k) := by
  intro k
  induction k with
  | zero => intro _; exact run0_ok h
  | succ k ih =>
    intro hk
    rw [runK_succ (List.getElem?_eq_getElem (by omega))]
    exact (step_ok (ih (by omega)) _ (by omega) h.2.2.1).1
end Go.Proofs.Ytjaoppopfeonhaa
