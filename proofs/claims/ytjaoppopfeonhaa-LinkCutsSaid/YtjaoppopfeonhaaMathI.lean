/- What the law on cuts says of a run. No condition. -/
import Derived.Test.YtjaoppopfeonhaaMathE
namespace Go.Proofs.Ytjaoppopfeonhaa
theorem cut_law {l : Lm} (h : OkL l) : OkL (cutM l) ∧ (cutM l).dn = true ∧ (cutM l).fl = [] ∧ (cutM l).mi = l.mi ∧ (cutM l).ma = l.ma ∧ (cutM l).ra = l.ra ∧ (cutM l).nx = l.nx := by
  have e : cutM l = { l with dn := true, fl := [] } := by
    unfold cutM
    rw [if_neg (by rw [chkL_of h]; simp)]
  rw [e]
  exact ⟨⟨h.mi0, h.mima, h.ma, h.ra0, h.ra, h.idle0, h.idle, h.nx0, h.nx, Nat.zero_le _, fun _ => rfl, nofun, nofun, nofun⟩, rfl, rfl, rfl, rfl, rfl, rfl⟩
theorem cutsend {l : Lm} {now : Int} {p : List Nat} {cs : List Int} (h : OkL l) (hd : l.dn = true) (hn : 0 ≤ now ∧ now ≤ 1073741824) (hp : p.length ≤ 65536) : sendM l now p cs = ⟨l, cs, 0⟩ := by
  unfold sendM
  rw [if_neg (by rw [chkL_of h]; simp), if_neg (by omega), if_neg (by omega), if_pos hd]
theorem next_nil {l : Lm} (h : l.fl = []) : nextM l = (0, false) := by
  unfold nextM
  rw [h]
  split <;> rfl
theorem rest_law {l : Lm} {now : Int} (h : OkL l) (hd : l.dn = true) (hn : 0 ≤ now ∧ now ≤ 1073741824) : OkL (restM l now) ∧ (restM l now).dn = false ∧ (restM l now).fl = [] ∧ (restM l now).mi = l.mi ∧ (restM l now).ma = l.ma ∧ (restM l now).ra = l.ra ∧ (restM l now).nx = l.nx ∧ (restM l now).idle = now := by
  have e : restM l now = { l with dn := false, idle := now } := by
    unfold restM
    rw [if_neg (by rw [chkL_of h, hd]; simp; omega)]
  rw [e]
  exact ⟨⟨h.mi0, h.mima, h.ma, h.ra0, h.ra, hn.1, hn.2, h.nx0, h.nx, h.len, nofun, h.each, h.ord, h.dis⟩, rfl, h.dn hd, rfl, rfl, rfl, rfl, rfl⟩
theorem send_one {l : Lm} {now : Int} (h : OkL l) (hd : l.dn = false) (hf : l.fl = []) (hi : l.idle = now) (hn : 0 ≤ now ∧ now ≤ 65535) (hma : l.ma ≤ 100) (hx : l.nx ≤ 100) :
    (sendM l now [9] []).e = 0 ∧ OkL (sendM l now [9] []).l ∧ (sendM l now [9] []).l.fl.map Em.p = [[9]] := by
  have ht := ticks_small (b := 1) (ra := l.ra) (by omega) h.ra0
  have he : endM l now 1 = now + ticksM 1 l.ra := by
    unfold endM
    rw [hi, Int.max_self]
  have hmi := h.mi0
  have hmm := h.mima
  obtain ⟨s1, s2, _⟩ := send_facts (l := l) (now := now) (p := [9]) (cs := []) h hd ⟨by omega, by omega⟩ (by simp) (by rw [List.length_singleton, he]; omega) (by rw [hf]; simp) (by omega)
  refine ⟨s1, s2, ?_⟩
  rw [send_ok (l := l) (now := now) (p := [9]) (cs := []) h hd ⟨by omega, by omega⟩ (by simp) (by rw [List.length_singleton, he]; omega) (by rw [hf]; simp) (by omega)]
  dsimp only
  rw [show timesOf (decV [] 3) = 1 from rfl, sendN_succ]
  simp only [sendN, hf]
  rfl
end Go.Proofs.Ytjaoppopfeonhaa
