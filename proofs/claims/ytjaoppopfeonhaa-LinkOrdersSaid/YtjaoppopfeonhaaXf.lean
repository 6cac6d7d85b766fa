/- The link's functions on links as values; what run leaves, as values. Conditions: few flights, short payloads. -/
import Derived.Test.YtjaoppopfeonhaaXc
import Derived.Test.YtjaoppopfeonhaaWt
import Derived.Test.YtjaoppopfeonhaaMathE
namespace Go.Proofs.Ytjaoppopfeonhaa
open Go.RowKit
/-- a link with few flights and short payloads -/
def SmL (K : Lm) : Prop := K.fl.length ≤ 4000 ∧ ∀ e ∈ K.fl, e.p.length ≤ 100000
theorem SmL.ev {K : Lm} (h : SmL K) {es : List Ev} (he : es.map Ev.em = K.fl) : es.length ≤ 4000 ∧ ∀ e ∈ es, e.p.length ≤ 100000 := by
  refine ⟨by have := h.1; rw [← he, List.length_map] at this; exact this, fun e hm => ?_⟩
  exact h.2 e.em (by rw [← he]; exact List.mem_map_of_mem hm)
theorem lk_eta (K : Lm) {L : List Em} (h : L = K.fl) : (⟨K.mi, K.ma, K.ra, K.dn, K.idle, K.nx, L⟩ : Lm) = K := by subst h; rfl
theorem deliv_lv (K : Lm) (hs : SmL K) (now : Int) (v : Value) (W : World) (hv : FlV W 0 K.fl v) : Calls Try.prog 23 #[.agg (lkV K v), .int .i64 now] W (DelivR W (delivM K now)) := by
  obtain ⟨A, c, es, rfl, h2, h3, h4, h5, _⟩ := hv.val
  have := Deliver_any K.mi K.ma K.ra K.dn K.idle K.nx A es.length c es now W h2 (hs.ev h3).1 h4 (hs.ev h3).2
  rw [lk_eta K h3] at this
  exact this
theorem next_lv (K : Lm) (hs : SmL K) (v : Value) (W : World) (hv : FlV W 0 K.fl v) : Calls Try.prog 25 #[.agg (lkV K v)] W fun e w' => e = .returned (.tuple #[.int .i64 (nextM K).1, .bool (nextM K).2]) ∧ Below W.heap.size W w' := by
  obtain ⟨A, c, es, rfl, h2, h3, h4, h5, _⟩ := hv.val
  have := Next_any K.mi K.ma K.ra K.dn K.idle K.nx A es.length c es W h2 (hs.ev h3).1 h4
  rw [lk_eta K h3] at this
  exact this
theorem cut_lv (K : Lm) (hs : SmL K) (v : Value) (W : World) (hv : FlV W 0 K.fl v) : Calls Try.prog 29 #[.agg (lkV K v)] W (LinkW W (cutM K)) := by
  obtain ⟨A, c, es, rfl, h2, h3, h4, h5, _⟩ := hv.val
  have := Cut_any K.mi K.ma K.ra K.dn K.idle K.nx A es.length c es W h2 (hs.ev h3).1 h4 h5 (hs.ev h3).2
  rw [lk_eta K h3] at this
  exact this
theorem rest_lv (K : Lm) (hs : SmL K) (now : Int) (v : Value) (W : World) (hv : FlV W 0 K.fl v) : Calls Try.prog 31 #[.agg (lkV K v), .int .i64 now] W (LinkW W (restM K now)) := by
  obtain ⟨A, c, es, rfl, h2, h3, h4, h5, _⟩ := hv.val
  have := Restore_any K.mi K.ma K.ra K.dn K.idle K.nx A es.length c es now W h2 (hs.ev h3).1 h4 h5 (hs.ev h3).2
  rw [lk_eta K h3] at this
  exact this
/-- what Send leaves, as values -/
structure SendW (w : World) (a : SendA) (e : Ending) (w' : World) : Prop where
  bel : Below w.heap.size w w'
  val : ∃ v A c, e = .returned (.tuple #[.agg (lkV a.l v), .slice A (List.length a.r) c, .int .i64 (a.e : Nat)]) ∧ FlV w' 0 a.l.fl v ∧ Reads w' w'.heap.size 1 A a.r.length (i64s a.r)
theorem send_lv (K : Lm) (hs : SmL K) (now : Int) (Ap : Option Addr) (cp : Nat) (p : List Nat) (Ac : Option Addr) (cc : Nat) (cs : List Int) (v : Value) (W : World) (hv : FlV W 0 K.fl v) (hP : Reads W W.heap.size 1 Ap p.length (u8s p)) (hp : p.length ≤ 65536) (hC : Reads W W.heap.size 1 Ac cs.length (i64s cs)) (hcl : cs.length ≤ 10000) :
    Calls Try.prog 18 #[.agg (lkV K v), .int .i64 now, .slice Ap p.length cp, .slice Ac cs.length cc] W (SendW W (sendM K now p cs)) := by
  obtain ⟨A, c, es, rfl, h2, h3, h4, h5, _⟩ := hv.val
  have := Send_any K.mi K.ma K.ra K.dn K.idle K.nx A es.length c es now Ap cp p Ac cc cs W h2 (hs.ev h3).1 h4 hP hp hC hcl (hs.ev h3).2
  rw [lk_eta K h3] at this
  refine this.mono ?_
  rintro e w' ⟨hb, v, es, A, c, he, hE, hm, hN, hr, _⟩
  refine ⟨hb, v, A, c, he, ?_, hr⟩
  have := FlV.of_own hE hN
  rw [hm] at this
  exact this.low (Nat.zero_le _)
theorem same_lk (K : Lm) (hk : K.fl.length ≤ 10000) (v u : Value) (W : World) (hv : FlV W 0 K.fl v) (hu : FlV W 0 K.fl u) : Calls Try.prog 15 #[.agg (lkV K v), .agg (lkV K u)] W fun e w' => e = .returned (.bool true) ∧ Below W.heap.size W w' := by
  obtain ⟨A, c, es, rfl, h2, h3, _⟩ := hv.val
  obtain ⟨A', c', es', rfl, g2, g3, _⟩ := hu.val
  have hl : es.length = K.fl.length := by rw [← h3, List.length_map]
  have hl' : es'.length = K.fl.length := by rw [← g3, List.length_map]
  rw [hl] at h2 ⊢
  rw [hl'] at g2 ⊢
  exact Same_true K.mi K.ma K.ra K.dn K.idle K.nx A A' K.fl.length c c' es es' W h2 g2 hk (by rw [h3, g3])
theorem FlV.form {W : World} {low : Nat} {l : List Em} {v : Value} (h : FlV W low l v) : ∃ A c, v = .slice A l.length c := by
  obtain ⟨A, c, es, rfl, _, hev, _⟩ := h.val
  rw [← hev, List.length_map]
  exact ⟨A, c, rfl⟩
theorem PlV.form {W : World} {low : Nat} {l : List (List Nat)} {v : Value} (h : PlV W low l v) : ∃ A c, v = .slice A l.length c := by
  obtain ⟨A, c, es, rfl, _, hev, _⟩ := h.val
  rw [← hev, List.length_map]
  exact ⟨A, c, rfl⟩
/-- what run answers, as values -/
structure RunW (w : World) (r : RunS) (e : Ending) (w' : World) : Prop where
  bel : Below w.heap.size w w'
  val : ∃ v A3 c3 A4 c4 A5 c5, e = .returned (.tuple #[.agg (lkV r.l v), .slice A3 (List.length r.tm) c3, .slice A4 (List.length r.id) c4, .slice A5 (List.length r.cp) c5, .bool true]) ∧ FlV w' 0 r.l.fl v ∧
    Reads w' w'.heap.size 1 A3 r.tm.length (i64s r.tm) ∧ Reads w' w'.heap.size 1 A4 r.id.length (i64s r.id) ∧ w'.ownsRow w.heap.size 3 1 (.slice A5 (List.length r.cp) c5) r.cp.length (i64s r.cp)
theorem run_lv (mi ma ra : Int) (As : Option Addr) (ns c1 : Nat) (st : List Sp) (Ac : Option Addr) (cc : Nat) (cs : List Int) (w : World) (hfit : 0 ≤ mi ∧ mi ≤ ma ∧ ma ≤ 100 ∧ 0 ≤ ra ∧ ra ≤ 100) (hns : ns ≤ 20) (hnc : cs.length ≤ 100)
    (hS : Reads w w.heap.size 2 As ns (st.flatMap encSp)) (hst : ∀ x ∈ st, x.s < 256 ∧ x.t < 256) (hC : Reads w w.heap.size 1 Ac cs.length (i64s cs)) (hcc : cs.length ≤ cc) (hcm : cc ≤ maxLen) :
    Calls Try.prog 22 #[.agg #[.int .i64 mi, .int .i64 ma, .int .i64 ra, .slice As ns c1, .slice Ac cs.length cc]] w (RunW w (runK mi ma ra cs st ns)) := by
  refine (run_any mi ma ra As ns c1 st Ac cc cs w hfit hns hnc hS hst hC hcc hcm).mono ?_
  rintro e w' ⟨hb, v, es, u3, u4, u5, rfl, hE, hN, hm, hT⟩
  obtain ⟨A3, c3, rfl, _, _, h3⟩ := own_slice hT.o3
  obtain ⟨A4, c4, rfl, _, _, h4⟩ := own_slice hT.o4
  obtain ⟨A5, c5, rfl, _, _, h5⟩ := own_slice hT.o5
  have hF := FlV.of_own hE hN
  rw [hm] at hF
  refine ⟨hb, v, A3, c3, A4, c4, A5, c5, rfl, hF.low (Nat.zero_le _), h3, h4, hT.o5⟩
theorem SmL.of {mi ma ra : Int} {n k : Nat} {r : RunS} (h : OkR mi ma ra n k r) (hk : k ≤ 20) : SmL r.l := by
  refine ⟨by have := h.fl; omega, fun e he => ?_⟩
  have := wrong_fact (h.ok.each e he)
  omega
end Go.Proofs.Ytjaoppopfeonhaa
