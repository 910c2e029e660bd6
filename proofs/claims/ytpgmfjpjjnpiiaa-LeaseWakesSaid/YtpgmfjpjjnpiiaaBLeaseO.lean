/- PROVED: lemmas that the row uses (cut copies of my texts and of the printed ones). No condition beyond what each line says. -/
import Derived.Test.YtpgmfjpjjnpiiaaBLeaseM
import Derived.Test.YtpgmfjpjjnpiiaaBLeaseN
import Derived.Test.YtpgmfjpjjnpiiaaBXA
import Derived.Test.YtpgmfjpjjnpiiaaBLeaseE
import Derived.Test.YtpgmfjpjjnpiiaaBLeaseK
import Derived.Test.YtpgmfjpjjnpiiaaBWAll
import Derived.WalkKit
import Derived.WalkSpells
import Derived.WalkLawsBesides
import Derived.Outline
import Derived.Lib.Hide
import Derived.Deep.LoopGhost
import Derived.Deep.RegionHeld3
import Derived.Deep.DeepCutAuto
import Derived.Deep.RegionLaw
import Derived.BigQuiet
import Derived.Deep.QuietTactic
namespace Go.Proofs.Ytpgmfjpjjnpiiaa.LeaseO
open Go.RowKit Go.Proofs.Ytpgmfjpjjnpiiaa.PLeaseWakes Go.Proofs.YtpgmfjpjjnpiiaaW.PrintWords Go.Proofs.YtpgmfjpjjnpiiaaW.PrintLast Go.Proofs.YtpgmfjpjjnpiiaaW.PrintMore
attribute [local go_sem] max2_int min2_int max_two min_two max_three min_three max_four min_four
set_option linter.unusedSimpArgs false
set_option linter.unusedVariables false
open Go.Proofs.Ytpgmfjpjjnpiiaa.LeaseA
open Go.Proofs.Ytpgmfjpjjnpiiaa.LeaseB Go.Proofs.Ytpgmfjpjjnpiiaa.LeaseC Go.Proofs.Ytpgmfjpjjnpiiaa.LeaseD Go.Proofs.Ytpgmfjpjjnpiiaa.LeaseH Go.Proofs.Ytpgmfjpjjnpiiaa.LeaseJ Go.Proofs.Ytpgmfjpjjnpiiaa.LeaseK
open Go.Proofs.Ytpgmfjpjjnpiiaa.LeaseL Go.Proofs.Ytpgmfjpjjnpiiaa.LeaseM Go.Proofs.Ytpgmfjpjjnpiiaa.LeaseN Go.Proofs.Ytpgmfjpjjnpiiaa.LeaseG Go.Proofs.Ytpgmfjpjjnpiiaa.LeaseF Go.Proofs.Ytpgmfjpjjnpiiaa.LeaseI
theorem Apt.op2 {base : Nat} {w : World} {ts : List Thing} (h : Apt base w ts) {i : Nat} {t : Thing} (ht : ts[i]? = some t) : ∃ U, t.H w base U ∧ (∀ k, U k → k < w.heap.size) ∧
    ∀ (w1 : World) (t1 t2 : Thing), w.heap.size ≤ w1.heap.size → t1.H w1 base U → t2.H w1 base (fun k => w.heap.size ≤ k) → Kept w w1 U → Apt base w1 (ts.set i t1 ++ [t2]) := by
  obtain ⟨O, h1, h2, h3⟩ := h
  refine ⟨O i, h3 i t ht, h2 i, fun w1 t1 t2 hs hH hH2 hK => ?_⟩
  have hil : i < ts.length := (List.getElem?_eq_some_iff.1 ht).1
  refine ⟨fun j k => if j = ts.length then w.heap.size ≤ k ∧ k < w1.heap.size else O j k, fun a b k ha hb => ?_, fun j k hk => ?_, fun j t' ht' => ?_⟩
  · dsimp only at ha hb
    split at ha <;> split at hb
    · omega
    · have := h2 b k hb; omega
    · have := h2 a k ha; omega
    · exact h1 a b k ha hb
  · dsimp only at hk
    split at hk
    · exact hk.2
    · exact Nat.lt_of_lt_of_le (h2 j k hk) hs
  · by_cases q : j < ts.length
    · have hne : ¬ j = ts.length := by omega
      rw [List.getElem?_append_left (by rw [List.length_set]; exact q)] at ht'
      simp only [if_neg hne]
      by_cases q2 : j = i
      · subst q2
        rw [List.getElem?_set_self hil] at ht'
        injection ht' with ht'
        subst ht'
        exact hH
      · rw [List.getElem?_set_ne (Ne.symm q2)] at ht'
        exact t'.step (h3 j t' ht') hs (fun k hk hl => hK.2 k hl (fun hu => q2 (h1 j i k hk hu)))
    · rw [List.getElem?_append_right (by rw [List.length_set]; omega), List.length_set] at ht'
      have hj : j = ts.length := by
        by_cases q2 : j - ts.length = 0
        · omega
        · rw [List.getElem?_eq_none (by simp; omega)] at ht'
          cases ht'
      subst hj
      simp only [Nat.sub_self, List.getElem?_cons_zero, Option.some.injEq] at ht'
      subst ht'
      simp only [if_true]
      exact t2.mono (fun k hk => hk) (t2.bound hH2)
/-- Posts in a row of their own. -/
def posts (v : Value) (l : List S38) : Thing where
  H := fun w base ok => Kd.R k38 38 w base ok v l
  mono := fun h hr => Kd.R_mono hr h
  bound := fun h => Kd.R_mono (Kd.R_bound h) (fun k hk => ⟨hk.1, hk.2.2.1⟩)
  lower := fun hb h => Kd.R_lower h hb
  step := fun h _ hm => Kd.R_step h hm
theorem elT_open {base r : Nat} {w : World} {U : Nat → Prop} {s : ES} (h : (elT r s).H w base U) (hU : ∀ k, U k → k < w.heap.size) : ∃ okl v, EIs base okl w r v s ∧ U r ∧ (∀ k, okl k → U k ∧ k ≠ r) ∧ ∀ k, okl k → k < w.heap.size := by
  obtain ⟨okl, v, h1, h2, h3⟩ := h
  exact ⟨okl, v, h1, h2, h3, fun k hk => hU k (h3 k hk).1⟩
theorem Apt.op3 {base : Nat} {w : World} {ts : List Thing} (h : Apt base w ts) {i : Nat} {t : Thing} (ht : ts[i]? = some t) : ∃ U, t.H w base U ∧ (∀ k, U k → k < w.heap.size) ∧
    ∀ (w1 : World) (t1 : Thing), w.heap.size ≤ w1.heap.size → t1.H w1 base (fun k => U k ∨ w.heap.size ≤ k) → Kept w w1 U → Apt base w1 (ts.set i t1) := by
  obtain ⟨U, hU, _, hP⟩ := h.op ht
  refine ⟨fun k => U k ∧ k < w.heap.size, t.bound hU, fun k hk => hk.2, fun w1 t1 hs h1 hK => hP w1 t1 hs (t1.mono (fun k hk => ?_) h1) (hK.mono (fun k hk => hk.1))⟩
  rcases hk with hk | hk
  · exact .inl hk.1
  · exact .inr hk
theorem tick_z (base : Nat) (ts ts' : List Thing) (i r m n : Nat) (s s' : ES) (t : Int) (l : List S38) (w : World) (h : Apt base w ts) (hi : ts[i]? = some (elT r s)) (hf : Fine m s) (hn : s.n = n) (hx : tickS s t n = (s', l)) (ht : ts.set i (elT r s') = ts') :
    Calls Try.prog 14 #[.pointer (some ⟨r, 0, none⟩), .int .i64 t] w fun e w' => ∃ A c, e = .returned (.slice A l.length c) ∧ Apt base w' (ts' ++ [posts (.slice A l.length c) l]) ∧ Below base w w' := by
  obtain ⟨U, hT, hU, hP⟩ := Apt.op2 h hi
  obtain ⟨okl, v, h1, h2, h3, h4⟩ := elT_open hT hU
  have hbw : base ≤ w.heap.size := Nat.le_trans h1.2.1 (Nat.le_of_lt h1.lt)
  refine (tick_a base r okl v s t w h1 m hf h4 n hn).mono fun e w' hp => ?_
  rw [hx] at hp
  obtain ⟨A, c, v', q1, q2, q3, q4⟩ := hp
  refine ⟨A, c, q1, ?_, q4.1⟩
  rw [← ht]
  exact hP w' (elT r s') (posts _ l) q4.2.1 ⟨okl, v', q2, h2, h3⟩ (Kd.R_lower (Kd.R_mono (Kd.R_bound q3) (fun k hk => hk.2.1)) hbw) (q4.2.mono (fun k hk => by subst hk; exact h2))
theorem ask_z (base : Nat) (ts ts' : List Thing) (i r m : Nat) (s s' : ES) (t x y z : Int) (q : S38) (pr : Int) (w : World) (h : Apt base w ts) (hi : ts[i]? = some (elT r s)) (hf : Fine m s) (hx : askS s t x y z = (s', q, pr)) (ht : ts.set i (elT r s') = ts') :
    Calls Try.prog 10 #[.pointer (some ⟨r, 0, none⟩), .int .i64 t, .agg #[.int .i64 x, .int .i64 y, .int .i64 z]] w fun e w' => e = .returned (.tuple #[.agg #[.int .i64 q.f0, .int .i64 q.f1, .int .i64 q.f2.f0, .int .i64 q.f2.f1, .int .i64 q.f2.f2, .int .i64 q.f3.f0, .bool q.f3.f1, .int .i64 q.f3.f2, .int .i64 q.f3.f3], .int .i64 pr]) ∧ Apt base w' ts' ∧ Below base w w' := by
  obtain ⟨U, hT, hU, hP⟩ := Apt.op3 h hi
  obtain ⟨okl, v, h1, h2, h3, h4⟩ := elT_open hT hU
  refine (ask_ok base r okl v s t x y z w h1 m hf h4).mono fun e w' hp => ?_
  rw [hx] at hp
  obtain ⟨q1, q2, q4⟩ := hp
  refine ⟨q1, ?_, q4.1⟩
  rw [← ht]
  exact hP w' (elT r s') q4.2.1 ⟨okl, v, q2, .inl h2, fun k hk => ⟨.inl (h3 k hk).1, (h3 k hk).2⟩⟩ (q4.2.mono (fun k hk => by subst hk; exact h2))
theorem reply_z (base : Nat) (ts ts' : List Thing) (i r m : Nat) (s s' : ES) (t : Int) (p : S36) (w : World) (h : Apt base w ts) (hi : ts[i]? = some (elT r s)) (hf : Fine m s) (hm : m ≤ 900) (hx : replyS s t p = s') (ht : ts.set i (elT r s') = ts') :
    Calls Try.prog 11 #[.pointer (some ⟨r, 0, none⟩), .int .i64 t, .agg #[.int .i64 p.f0, .bool p.f1, .int .i64 p.f2, .int .i64 p.f3]] w fun e w' => e = .returned (.tuple #[]) ∧ Apt base w' ts' ∧ Below base w w' := by
  obtain ⟨U, hT, hU, hP⟩ := Apt.op3 h hi
  obtain ⟨okl, v, h1, h2, h3, h4⟩ := elT_open hT hU
  have hrl := h1.lt
  refine (reply_ok base r okl v s t p w h1 m hf hm).mono fun e w' hp => ?_
  rw [hx] at hp
  obtain ⟨v', q1, q2, q3, q4⟩ := hp
  refine ⟨q1, ?_, q3⟩
  rw [← ht]
  exact hP w' (elT r s') q4.1 ⟨_, v', q2, .inl h2, fun k hk => hk.elim (fun hk => ⟨.inl (h3 k hk).1, (h3 k hk).2⟩) (fun hk => ⟨.inr hk, by omega⟩)⟩ (q4.mono (fun k hk => hk.elim (fun hk => by subst hk; exact h2) (fun hk => (h3 k hk).1)))
theorem free_z (base : Nat) (ts ts' : List Thing) (i r : Nat) (s s' : ES) (t x y z : Int) (w : World) (h : Apt base w ts) (hi : ts[i]? = some (elT r s)) (hx : freeE s t x y z = s') (ht : ts.set i (elT r s') = ts') :
    Calls Try.prog 12 #[.pointer (some ⟨r, 0, none⟩), .int .i64 t, .agg #[.int .i64 x, .int .i64 y, .int .i64 z]] w fun e w' => e = .returned (.tuple #[]) ∧ Apt base w' ts' ∧ Below base w w' := by
  obtain ⟨U, hT, hU, hP⟩ := Apt.op3 h hi
  obtain ⟨okl, v, h1, h2, h3, h4⟩ := elT_open hT hU
  refine (free_ok base r okl v s (toldS s t) t x y z _ _ _ _ w h1 rfl (free_is _ _ _ _ _ _ _ _)).mono fun e w' hp => ?_
  obtain ⟨q1, q2, q3, q4⟩ := hp
  refine ⟨q1, ?_, q3⟩
  rw [← ht, ← hx]
  exact hP w' (elT r (freeE s t x y z)) q4.1 ⟨okl, v, q2, .inl h2, fun k hk => ⟨.inl (h3 k hk).1, (h3 k hk).2⟩⟩ (q4.mono (fun k hk => by subst hk; exact h2))
theorem lead_z (base : Nat) (ts ts' : List Thing) (i r : Nat) (s s' : ES) (t a : Int) (b : Bool) (w : World) (h : Apt base w ts) (hi : ts[i]? = some (elT r s)) (hx : toldS s t = s') (ha : (if leadsB s' = true then s'.led else 0) = a) (hb : leadsB s' = b) (ht : ts.set i (elT r s') = ts') :
    Calls Try.prog 13 #[.pointer (some ⟨r, 0, none⟩), .int .i64 t] w fun e w' => e = .returned (.tuple #[.int .i64 a, .bool b]) ∧ Apt base w' ts' ∧ Below base w w' := by
  obtain ⟨U, hT, hU, hP⟩ := Apt.op3 h hi
  obtain ⟨okl, v, h1, h2, h3, h4⟩ := elT_open hT hU
  refine (lead_ok base r okl v s s' t w h1 hx).mono fun e w' hp => ?_
  obtain ⟨q1, q2, q3, q4⟩ := hp
  rw [ha, hb] at q1
  refine ⟨q1, ?_, q3⟩
  rw [← ht]
  exact hP w' (elT r s') q4.1 ⟨okl, v, q2, .inl h2, fun k hk => ⟨.inl (h3 k hk).1, (h3 k hk).2⟩⟩ (q4.mono (fun k hk => by subst hk; exact h2))
theorem vote_z (base : Nat) (ts : List Thing) (i r : Nat) (s : ES) (w : World) (h : Apt base w ts) (hi : ts[i]? = some (elT r s)) :
    Calls Try.prog 15 #[.pointer (some ⟨r, 0, none⟩)] w fun e w' => e = .returned (.agg #[.int .i64 s.ve, .int .i64 s.vh, .int .i64 s.vu, .int .i64 s.vs]) ∧ Apt base w' ts ∧ Below w.heap.size w w' := by
  obtain ⟨U, hT, hU, hP⟩ := Apt.op3 h hi
  obtain ⟨okl, v, h1, h2, h3, h4⟩ := elT_open hT hU
  exact (vote_ok base r okl v s w h1).mono fun e w' ⟨q1, q2⟩ => ⟨q1, h.below q2, q2⟩
theorem newS_fine (me n l sf : Int) (hl : 40 ≤ l) (hl2 : l ≤ 1000) (hn : n = 1 ∨ n = 3 ∨ n = 5) (hm : 0 ≤ me ∧ me < n) (hs : 0 ≤ sf ∧ sf ≤ 1000) : Fine 0 (newS me n l sf) :=
  ⟨hn, hm.1, hm.2, hl, hl2, hs.1, hs.2, (show (0 : Int) ≤ 0 by decide), (show (0 : Int) ≤ 1099511627776 by decide), (show (0 : Int) ≤ 0 by decide), (show (0 : Int) ≤ 1099511627776 by decide), (show (0 : Int) ≤ 0 by decide), (show (0 : Int) ≤ 1099511627776 by decide), (show (0 : Int) ≤ 0 by decide), (show (0 : Int) ≤ 1099511627776 by decide), by simp [newS], fun p hp => by simp [newS] at hp, fun h => by simp [newS] at h⟩
/-- A post of a row. -/
theorem post_at {base : Nat} {ts : List Thing} {w : World} {i n c : Nat} {A : Option Addr} {l : List S38} (h : Apt base w ts) (hi : ts[i]? = some (posts (.slice A n c) l)) : n = l.length ∧ l.length ≤ c ∧ Kd.C k38 w A l.length l := by
  obtain ⟨U, hR⟩ := h.get hi
  obtain ⟨h1, h2, h3⟩ := Kd.R_reads' (show Kd.R k38 38 w base U (.slice A n c) l from hR)
  exact ⟨h1, h1 ▸ h2, h3⟩
end Go.Proofs.Ytpgmfjpjjnpiiaa.LeaseO
