/- PROVED: lemmas that the row uses (cut copies of my texts and of the printed ones). No condition beyond what each line says. -/
import Derived.Test.YtpgmfjpjjnpiiaaBRLeaseC
import Derived.Test.YtpgmfjpjjnpiiaaBRLeaseD
import Derived.Test.YtpgmfjpjjnpiiaaBRLeaseE
import Derived.Test.YtpgmfjpjjnpiiaaBRLeaseG
import Derived.Test.YtpgmfjpjjnpiiaaBLeaseQ
import Derived.Test.YtpgmfjpjjnpiiaaBRLeaseF
import Derived.Test.YtpgmfjpjjnpiiaaBRLeaseB
import Derived.Test.YtpgmfjpjjnpiiaaBRLeaseA
import Derived.Test.YtpgmfjpjjnpiiaaBLeaseO
import Derived.Test.YtpgmfjpjjnpiiaaBLeaseM
import Derived.Test.YtpgmfjpjjnpiiaaBLeaseN
import Derived.Test.YtpgmfjpjjnpiiaaBXA
import Derived.Test.YtpgmfjpjjnpiiaaBLeaseE
import Derived.Test.YtpgmfjpjjnpiiaaBLeaseK
import Derived.Test.YtpgmfjpjjnpiiaaBWAll
import Derived.WalkKit
import Derived.WalkSpells
import Derived.WalkLawsBesides
import Derived.Outline
import Derived.Lib.Hide
import Derived.Deep.LoopGhost
import Derived.Deep.RegionHeld3
import Derived.Deep.DeepCutAuto
import Derived.Deep.RegionLaw
import Derived.BigQuiet
import Derived.Deep.QuietTactic
namespace Go.Proofs.Ytpgmfjpjjnpiiaa.RLeaseH
open Go.RowKit Go.Proofs.Ytpgmfjpjjnpiiaa.PLeaseWakes Go.Proofs.YtpgmfjpjjnpiiaaW.PrintWords Go.Proofs.YtpgmfjpjjnpiiaaW.PrintLast Go.Proofs.YtpgmfjpjjnpiiaaW.PrintMore
attribute [local go_sem] max2_int min2_int max_two min_two max_three min_three max_four min_four
set_option linter.unusedSimpArgs false
set_option linter.unusedVariables false
open Go.Proofs.Ytpgmfjpjjnpiiaa.LeaseA
open Go.Proofs.Ytpgmfjpjjnpiiaa.LeaseB Go.Proofs.Ytpgmfjpjjnpiiaa.LeaseC Go.Proofs.Ytpgmfjpjjnpiiaa.LeaseD Go.Proofs.Ytpgmfjpjjnpiiaa.LeaseH Go.Proofs.Ytpgmfjpjjnpiiaa.LeaseJ Go.Proofs.Ytpgmfjpjjnpiiaa.LeaseK
open Go.Proofs.Ytpgmfjpjjnpiiaa.LeaseL Go.Proofs.Ytpgmfjpjjnpiiaa.LeaseM Go.Proofs.Ytpgmfjpjjnpiiaa.LeaseN Go.Proofs.Ytpgmfjpjjnpiiaa.LeaseG Go.Proofs.Ytpgmfjpjjnpiiaa.LeaseF Go.Proofs.Ytpgmfjpjjnpiiaa.LeaseI
open Go.Proofs.Ytpgmfjpjjnpiiaa.LeaseO
open Go.Proofs.Ytpgmfjpjjnpiiaa.RLeaseA
open Go.Proofs.Ytpgmfjpjjnpiiaa.RLeaseB
open Go.Proofs.Ytpgmfjpjjnpiiaa.RLeaseF
open Go.Proofs.Ytpgmfjpjjnpiiaa.RLeaseC Go.Proofs.Ytpgmfjpjjnpiiaa.RLeaseD Go.Proofs.Ytpgmfjpjjnpiiaa.RLeaseE Go.Proofs.Ytpgmfjpjjnpiiaa.RLeaseG Go.Proofs.Ytpgmfjpjjnpiiaa.LeaseQ
theorem rtick_z (base : Nat) (ts ts' : List Thing) (i r m n : Nat) (s s' : ES) (t : Int) (l : List S38) (w : World) (h : Apt base w ts) (hi : ts[i]? = some (reT r s)) (hf : Fine m s) (hn : s.n = n) (hx : tickS s t n = (s', l)) (ht : ts.set i (reT r s') = ts') :
    Calls Try.prog 24 #[.pointer (some ⟨r, 0, none⟩), .int .i64 t] w fun e w' => ∃ A c, e = .returned (.slice A l.length c) ∧ Apt base w' (ts' ++ [posts (.slice A l.length c) l]) ∧ Below base w w' := by
  obtain ⟨U, hT, hU, hP⟩ := Apt.op2 h hi
  obtain ⟨okl, v, h1, h2, h3, h4⟩ := reT_open hT hU
  have hbw : base ≤ w.heap.size := Nat.le_trans h1.2.1 (Nat.le_of_lt h1.lt)
  refine (rtick_a base r okl v s t w h1 m hf h4 n hn).mono fun e w' hp => ?_
  rw [hx] at hp
  obtain ⟨A, c, v', q1, q2, q3, q4⟩ := hp
  refine ⟨A, c, q1, ?_, q4.1⟩
  rw [← ht]
  exact hP w' (reT r s') (posts _ l) q4.2.1 ⟨okl, v', q2, h2, h3⟩ (Kd.R_lower (Kd.R_mono (Kd.R_bound q3) (fun k hk => hk.2.1)) hbw) (q4.2.mono (fun k hk => by subst hk; exact h2))
theorem rask_z (base : Nat) (ts ts' : List Thing) (i r m : Nat) (s s' : ES) (t x y z : Int) (q : S38) (pr : Int) (w : World) (h : Apt base w ts) (hi : ts[i]? = some (reT r s)) (hf : Fine m s) (hx : askS s t x y z = (s', q, pr)) (ht : ts.set i (reT r s') = ts') :
    Calls Try.prog 25 #[.pointer (some ⟨r, 0, none⟩), .int .i64 t, .agg #[.int .i64 x, .int .i64 y, .int .i64 z]] w fun e w' => e = .returned (.tuple #[.agg #[.int .i64 q.f0, .int .i64 q.f1, .int .i64 q.f2.f0, .int .i64 q.f2.f1, .int .i64 q.f2.f2, .int .i64 q.f3.f0, .bool q.f3.f1, .int .i64 q.f3.f2, .int .i64 q.f3.f3], .int .i64 pr]) ∧ Apt base w' ts' ∧ Below base w w' := by
  obtain ⟨U, hT, hU, hP⟩ := Apt.op3 h hi
  obtain ⟨okl, v, h1, h2, h3, h4⟩ := reT_open hT hU
  refine (rasks_ok base r okl v s t x y z w h1 m hf h4).mono fun e w' hp => ?_
  rw [hx] at hp
  obtain ⟨q1, q2, q4⟩ := hp
  refine ⟨q1, ?_, q4.1⟩
  rw [← ht]
  exact hP w' (reT r s') q4.2.1 ⟨okl, v, q2, .inl h2, fun k hk => ⟨.inl (h3 k hk).1, (h3 k hk).2⟩⟩ (q4.2.mono (fun k hk => by subst hk; exact h2))
theorem rreply_z (base : Nat) (ts ts' : List Thing) (i r m : Nat) (s s' : ES) (t : Int) (p : S36) (w : World) (h : Apt base w ts) (hi : ts[i]? = some (reT r s)) (hf : Fine m s) (hm : m ≤ 900) (hx : replyS s t p = s') (ht : ts.set i (reT r s') = ts') :
    Calls Try.prog 26 #[.pointer (some ⟨r, 0, none⟩), .int .i64 t, .agg #[.int .i64 p.f0, .bool p.f1, .int .i64 p.f2, .int .i64 p.f3]] w fun e w' => e = .returned (.tuple #[]) ∧ Apt base w' ts' ∧ Below base w w' := by
  obtain ⟨U, hT, hU, hP⟩ := Apt.op3 h hi
  obtain ⟨okl, v, h1, h2, h3, h4⟩ := reT_open hT hU
  have hrl := h1.lt
  refine (rreply_ok base r okl v s t p w h1 m hf hm).mono fun e w' hp => ?_
  rw [hx] at hp
  obtain ⟨v', q1, q2, q3, q4⟩ := hp
  refine ⟨q1, ?_, q3⟩
  rw [← ht]
  exact hP w' (reT r s') q4.1 ⟨_, v', q2, .inl h2, fun k hk => hk.elim (fun hk => ⟨.inl (h3 k hk).1, (h3 k hk).2⟩) (fun hk => ⟨.inr hk, by omega⟩)⟩ (q4.mono (fun k hk => hk.elim (fun hk => by subst hk; exact h2) (fun hk => (h3 k hk).1)))
theorem rfree_z (base : Nat) (ts ts' : List Thing) (i r : Nat) (s s' : ES) (t x y z : Int) (w : World) (h : Apt base w ts) (hi : ts[i]? = some (reT r s)) (hx : freeE s t x y z = s') (ht : ts.set i (reT r s') = ts') :
    Calls Try.prog 27 #[.pointer (some ⟨r, 0, none⟩), .int .i64 t, .agg #[.int .i64 x, .int .i64 y, .int .i64 z]] w fun e w' => e = .returned (.tuple #[]) ∧ Apt base w' ts' ∧ Below base w w' := by
  obtain ⟨U, hT, hU, hP⟩ := Apt.op3 h hi
  obtain ⟨okl, v, h1, h2, h3, h4⟩ := reT_open hT hU
  refine (rfree_ok base r okl v s (toldS s t) t x y z _ _ _ _ w h1 rfl (ref_free_is _ _ _ _ _ _ _ _)).mono fun e w' hp => ?_
  obtain ⟨q1, q2, q3, q4⟩ := hp
  refine ⟨q1, ?_, q3⟩
  rw [← ht, ← hx]
  exact hP w' (reT r (freeE s t x y z)) q4.1 ⟨okl, v, q2, .inl h2, fun k hk => ⟨.inl (h3 k hk).1, (h3 k hk).2⟩⟩ (q4.mono (fun k hk => by subst hk; exact h2))
theorem rlead_z (base : Nat) (ts ts' : List Thing) (i r : Nat) (s s' : ES) (t a : Int) (b : Bool) (w : World) (h : Apt base w ts) (hi : ts[i]? = some (reT r s)) (hx : toldS s t = s') (ha : (if leadsB s' = true then s'.led else 0) = a) (hb : leadsB s' = b) (ht : ts.set i (reT r s') = ts') :
    Calls Try.prog 28 #[.pointer (some ⟨r, 0, none⟩), .int .i64 t] w fun e w' => e = .returned (.tuple #[.int .i64 a, .bool b]) ∧ Apt base w' ts' ∧ Below base w w' := by
  obtain ⟨U, hT, hU, hP⟩ := Apt.op3 h hi
  obtain ⟨okl, v, h1, h2, h3, h4⟩ := reT_open hT hU
  refine (rlead_ok base r okl v s s' t w h1 hx).mono fun e w' hp => ?_
  obtain ⟨q1, q2, q3, q4⟩ := hp
  rw [ha, hb] at q1
  refine ⟨q1, ?_, q3⟩
  rw [← ht]
  exact hP w' (reT r s') q4.1 ⟨okl, v, q2, .inl h2, fun k hk => ⟨.inl (h3 k hk).1, (h3 k hk).2⟩⟩ (q4.mono (fun k hk => by subst hk; exact h2))
/-- The reference's vote. -/
theorem rvote_at {base : Nat} {ts : List Thing} {w : World} {i r : Nat} {s : ES} (h : Apt base w ts) (hi : ts[i]? = some (reT r s)) : w.cell? ⟨r, 5, none⟩ = some (.int .i64 s.ve) ∧ w.cell? ⟨r, 6, none⟩ = some (.int .i64 s.vh) ∧ w.cell? ⟨r, 7, none⟩ = some (.int .i64 s.vu) ∧ w.cell? ⟨r, 8, none⟩ = some (.int .i64 s.vs) := by
  obtain ⟨U, okl, v, h1, h2, h3⟩ := h.get hi
  have h4 := h1.cells
  exact ⟨h4.2.2.2.2.2.1, h4.2.2.2.2.2.2.1, h4.2.2.2.2.2.2.2.1, h4.2.2.2.2.2.2.2.2.1⟩
/-- Posts are the same as themselves. -/
theorem same_l (l : List S38) (hl : l.length ≤ 100) : ∀ (d k i : Nat), l.length - i ≤ d → d < k → i ≤ l.length → juratref16_Same.l0 k l l (i : Int) = some true := by
  intro d
  induction d with
  | zero =>
    intro k i hd hk hi
    obtain ⟨k, rfl⟩ : ∃ j, k = j + 1 := ⟨k - 1, by omega⟩
    unfold juratref16_Same.l0
    rw [if_neg (by omega)]
  | succ d ih =>
    intro k i hd hk hi
    obtain ⟨k, rfl⟩ : ∃ j, k = j + 1 := ⟨k - 1, by omega⟩
    unfold juratref16_Same.l0
    by_cases q : i < l.length
    · rw [if_pos (by omega), if_pos (by omega), if_pos (by omega), if_neg (by simp)]
      have e : wrap64 ((i : Int) + 1) = ((i + 1 : Nat) : Int) := by unfold wrap64; omega
      rw [e]
      exact ih k (i + 1) (by omega) (by omega) (by omega)
    · rw [if_neg (by omega)]
theorem same_f (l : List S38) (hl : l.length ≤ 100) : juratref16_Same.f 200 l l = some true := by
  unfold juratref16_Same.f
  rw [if_pos rfl]
  exact same_l l hl l.length 200 0 (by omega) (by omega) (by omega)
theorem same_z (base : Nat) (ts : List Thing) (i j : Nat) (A1 A2 : Option Addr) (n1 n2 c1 c2 : Nat) (l : List S38) (w : World) (h : Apt base w ts) (hl : l.length ≤ 100) (hi : ts[i]? = some (posts (.slice A1 n1 c1) l)) (hj : ts[j]? = some (posts (.slice A2 n2 c2) l)) :
    Calls Try.prog 23 #[.slice A1 n1 c1, .slice A2 n2 c2] w fun e w' => e = .returned (.bool true) ∧ Apt base w' ts ∧ Below w.heap.size w w' := by
  obtain ⟨p1, p2, p3⟩ := post_at h hi
  obtain ⟨q1, q2, q3⟩ := post_at h hj
  subst p1
  subst q1
  exact (juratref16_Same.calls 200 A1 c1 l A2 c2 l true w p3 p2 q3 q2 (same_f l hl)).mono fun e w' ⟨he, hb⟩ => ⟨he, h.below hb.below, hb.below⟩
/-- How many posts a tick sends. -/
theorem tick_len (s : ES) (t : Int) (n : Nat) : (tickS s t n).2.length ≤ 2 * n := by
  unfold tickS tickC
  have h := outB_len (tickA (toldS s t)) n
  split
  · rw [List.length_append, outA_len]; omega
  split
  · show (outB _ n).length ≤ _; omega
  · rw [List.length_append, outA_len]; omega
end Go.Proofs.Ytpgmfjpjjnpiiaa.RLeaseH
