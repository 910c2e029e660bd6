/- PROVED: lemmas that the row uses (cut copies of my texts and of the printed ones). No condition beyond what each line says. -/
import Derived.Test.YtpgmfjpjjnpiiaaBLeaseJ
import Derived.Test.YtpgmfjpjjnpiiaaBLeaseK
import Derived.Test.YtpgmfjpjjnpiiaaBXA
import Derived.Test.YtpgmfjpjjnpiiaaBWAll
import Derived.WalkKit
import Derived.WalkSpells
import Derived.WalkLawsBesides
import Derived.Outline
import Derived.Lib.Hide
import Derived.Deep.LoopGhost
import Derived.Deep.RegionHeld3
import Derived.Deep.DeepCutAuto
import Derived.Deep.RegionLaw
import Derived.BigQuiet
import Derived.Deep.QuietTactic
namespace Go.Proofs.Ytpgmfjpjjnpiiaa.LeaseL
open Go.RowKit Go.Proofs.Ytpgmfjpjjnpiiaa.PLeaseWakes Go.Proofs.YtpgmfjpjjnpiiaaW.PrintWords Go.Proofs.YtpgmfjpjjnpiiaaW.PrintLast Go.Proofs.YtpgmfjpjjnpiiaaW.PrintMore
attribute [local go_sem] max2_int min2_int max_two min_two max_three min_three max_four min_four
set_option linter.unusedSimpArgs false
set_option linter.unusedVariables false
open Go.Proofs.Ytpgmfjpjjnpiiaa.LeaseA
open Go.Proofs.Ytpgmfjpjjnpiiaa.LeaseB Go.Proofs.Ytpgmfjpjjnpiiaa.LeaseC Go.Proofs.Ytpgmfjpjjnpiiaa.LeaseD Go.Proofs.Ytpgmfjpjjnpiiaa.LeaseH Go.Proofs.Ytpgmfjpjjnpiiaa.LeaseJ Go.Proofs.Ytpgmfjpjjnpiiaa.LeaseK
theorem in_is (n a b : Int) : juratref15_in.f n a b = some (decide (a ≤ n ∧ n ≤ b)) := by
  unfold juratref15_in.f
  by_cases c : n ≥ a <;> by_cases c1 : n ≤ b <;> simp [c, c1] <;> omega
theorem right_is (now lease : Int) : ballot_right.f now lease = some (decide (0 ≤ now ∧ now ≤ 1099511627776 ∧ 40 ≤ lease ∧ lease ≤ 1000)) := by
  unfold ballot_right.f
  by_cases c : now ≥ 0 <;> by_cases c1 : now ≤ 1099511627776 <;> by_cases c2 : lease ≥ 40 <;> by_cases c3 : lease ≤ 1000 <;> simp [c, c1, c2, c3] <;> omega
theorem ref_right_is (now lease : Int) : juratref15_Right.f now lease = some (decide (0 ≤ now ∧ now ≤ 1099511627776 ∧ 40 ≤ lease ∧ lease ≤ 1000)) := by
  unfold juratref15_Right.f
  rw [in_is, in_is]
  by_cases c : 0 ≤ now ∧ now ≤ 1099511627776 <;> by_cases c2 : 40 ≤ lease ∧ lease ≤ 1000 <;> simp [c, c2] <;> omega
/-- May an ask be heard at all? -/
def hfitB (now lease from_ epoch : Int) : Bool := decide (0 ≤ now ∧ now ≤ 1099511627776 ∧ 40 ≤ lease ∧ lease ≤ 1000 ∧ 0 ≤ from_ ∧ 1 ≤ epoch ∧ epoch ≤ 1099511627776)
/-- Is it the same holder's, or the vote over, and the epoch greater? -/
def grantB (v0 v1 v2 now lease from_ epoch : Int) : Bool := hfitB now lease from_ epoch && (decide (epoch = v0 ∧ from_ = v1) || decide (v2 ≤ now ∧ v0 < epoch))
/-- The vote behind an ask and the reply, in plain numbers. -/
def hearS (v0 v1 v2 v3 now lease a0 a1 a2 : Int) : Int × Int × Int × Int × Int × Bool × Int × Int :=
  if grantB v0 v1 v2 now lease a0 a1 = true then (a1, a0, wrap64 (now + lease), (if a1 = v0 ∧ a0 = v1 then mx v3 a2 else a2), 0, true, a1, a2) else (v0, v1, v2, v3, 0, false, v0, a2)
theorem hear_is (k : Nat) (v0 v1 v2 v3 now lease a0 a1 a2 : Int) : ballot_Hear.f (k + 1) v0 v1 v2 v3 now lease a0 a1 a2 = some (hearS v0 v1 v2 v3 now lease a0 a1 a2) := by
  unfold ballot_Hear.f hearS grantB hfitB
  rw [right_is]
  simp only [Option.bind_some, decide_eq_true_eq]
  by_cases c : 0 ≤ now ∧ now ≤ 1099511627776 ∧ 40 ≤ lease ∧ lease ≤ 1000
  · rw [if_pos c]
    by_cases c0 : a0 < 0
    · rw [if_pos c0, ballot_Hear.j0, if_pos rfl, decide_eq_false (by omega)]; rfl
    rw [if_neg c0]
    by_cases c1 : a1 < 1
    · rw [if_pos c1, ballot_Hear.j0, if_pos rfl, decide_eq_false (by omega)]; rfl
    rw [if_neg c1]
    by_cases c2 : a1 > 1099511627776
    · rw [decide_eq_true c2, ballot_Hear.j0, if_pos rfl, decide_eq_false (by omega)]; rfl
    rw [decide_eq_false c2, ballot_Hear.j0, if_neg (by simp), decide_eq_true (by omega)]
    by_cases e : a1 = v0 ∧ a0 = v1
    · rw [if_pos (by simp [e])]
      simp [e]
    · rw [if_neg (by simpa using e)]
      by_cases n : now < v2
      · rw [if_pos n, decide_eq_false e, decide_eq_false (by omega)]; rfl
      rw [if_neg n]
      by_cases m : a1 ≤ v0
      · rw [if_pos m, decide_eq_false e, decide_eq_false (by omega)]; rfl
      rw [if_neg m, decide_eq_false e, decide_eq_true (by omega), if_neg e]; rfl
  · rw [if_neg c, ballot_Hear.j0, if_pos rfl, decide_eq_false (by omega)]; rfl
theorem grants_is (k : Nat) (v0 v1 v2 v3 now lease a0 a1 a2 : Int) : juratref15_Grants.f (k + 1) v0 v1 v2 v3 now lease a0 a1 a2 = some (grantB v0 v1 v2 now lease a0 a1) := by
  unfold juratref15_Grants.f grantB hfitB
  rw [ref_right_is, in_is]
  simp only [Option.bind_some, decide_eq_true_eq]
  by_cases c : 0 ≤ now ∧ now ≤ 1099511627776 ∧ 40 ≤ lease ∧ lease ≤ 1000
  · rw [if_pos c]
    by_cases c0 : a0 < 0
    · rw [if_pos c0, juratref15_Grants.j0, if_pos rfl, decide_eq_false (by omega)]; rfl
    rw [if_neg c0]
    by_cases c1 : 1 ≤ a1 ∧ a1 ≤ 1099511627776
    rotate_left
    · rw [decide_eq_false c1, juratref15_Grants.j0, if_pos (show (!false) = true from rfl), decide_eq_false (by omega)]; rfl
    rw [decide_eq_true c1, juratref15_Grants.j0, if_neg (show ¬ (!true) = true by simp), decide_eq_true (show 0 ≤ now ∧ now ≤ 1099511627776 ∧ 40 ≤ lease ∧ lease ≤ 1000 ∧ 0 ≤ a0 ∧ 1 ≤ a1 ∧ a1 ≤ 1099511627776 by omega), Bool.true_and]
    have hd : ∀ (p : Prop) [Decidable p], (if now ≥ v2 then some (decide p) else some false) = some (decide (now ≥ v2 ∧ p)) := by
      intro p _
      by_cases n : now ≥ v2
      · rw [if_pos n]
        simp [n]
      · rw [if_neg n, decide_eq_false (by omega)]
    rw [hd]
    by_cases e : a1 = v0 ∧ a0 = v1
    · rw [if_pos e.2, if_pos e.1, decide_eq_true e]; rfl
    · rw [decide_eq_false e, Bool.false_or]
      by_cases e1 : a0 = v1
      · rw [if_pos e1, if_neg (by omega)]
      · rw [if_neg e1]
  · rw [if_neg c, juratref15_Grants.j0, if_pos rfl, decide_eq_false (by omega)]; rfl
theorem ref_hear_is (k : Nat) (v0 v1 v2 v3 now lease a0 a1 a2 : Int) : juratref15_Hear.f (k + 1) v0 v1 v2 v3 now lease a0 a1 a2 = some (hearS v0 v1 v2 v3 now lease a0 a1 a2) := by
  unfold juratref15_Hear.f hearS
  rw [grants_is]
  simp only [Option.bind_some]
  by_cases g : grantB v0 v1 v2 now lease a0 a1 = true
  · rw [if_pos g, if_pos g]
    by_cases e : a1 = v0 ∧ a0 = v1
    · rw [if_pos (by omega), if_pos (by omega), if_pos e]
      unfold mx
      by_cases h : v3 > a2
      · rw [if_pos h, if_neg (by omega)]
      · rw [if_neg h]
        by_cases h' : v3 < a2
        · rw [if_pos h']
        · rw [if_neg h', show v3 = a2 by omega]
    · rw [if_neg e]
      by_cases e1 : v1 = a0
      · rw [if_pos e1, if_neg (by omega)]
      · rw [if_neg e1]
  · rw [if_neg g, if_neg g]
theorem woken_is (a now lease : Int) : ballot_Woken.f a now lease = juratref15_Woken.f a now lease := by
  unfold ballot_Woken.f juratref15_Woken.f
  rw [right_is, ref_right_is, in_is]
  simp only [Option.bind_some, decide_eq_true_eq]
  by_cases c : a < 0
  · rw [if_pos c, if_neg (by omega)]
  rw [if_neg c]
  by_cases c1 : a > 1099511627776
  · rw [if_pos c1, if_neg (by omega)]
  rw [if_neg c1, if_pos (show 0 ≤ a ∧ a ≤ 1099511627776 by omega)]
theorem woken_some (a now lease : Int) : ∃ r1 r2 r3 r4 r5, ballot_Woken.f a now lease = some (r1, r2, r3, r4, r5) := by
  unfold ballot_Woken.f
  rw [right_is]
  simp only [Option.bind_some, decide_eq_true_eq]
  by_cases c : a < 0
  · rw [if_pos c]; exact ⟨_, _, _, _, _, rfl⟩
  rw [if_neg c]
  by_cases c1 : a > 1099511627776
  · rw [if_pos c1]; exact ⟨_, _, _, _, _, rfl⟩
  rw [if_neg c1]
  by_cases c2 : 0 ≤ now ∧ now ≤ 1099511627776 ∧ 40 ≤ lease ∧ lease ≤ 1000
  · rw [if_pos c2]; exact ⟨_, _, _, _, _, rfl⟩
  · rw [if_neg c2]; exact ⟨_, _, _, _, _, rfl⟩
/-- A vote that is given back. -/
def freeS (v0 v1 v2 v3 now a0 a1 a2 : Int) : Int × Int × Int × Int := (v0, v1, (if a1 = v0 ∧ a0 = v1 ∧ v3 ≤ a2 then mn v2 now else v2), v3)
theorem free_is (v0 v1 v2 v3 now a0 a1 a2 : Int) : ballot_Free.f v0 v1 v2 v3 now a0 a1 a2 = some (freeS v0 v1 v2 v3 now a0 a1 a2) := by
  unfold ballot_Free.f freeS
  by_cases e : a1 = v0 ∧ a0 = v1
  · rw [if_pos (by simp [e])]
    by_cases h : a2 ≥ v3
    · rw [if_pos h, if_pos (by omega)]
    · rw [if_neg h, if_neg (by omega)]
  · rw [if_neg (by simpa using e), if_neg (by omega)]
theorem ref_free_is (v0 v1 v2 v3 now a0 a1 a2 : Int) : juratref15_Free.f v0 v1 v2 v3 now a0 a1 a2 = some (freeS v0 v1 v2 v3 now a0 a1 a2) := by
  unfold juratref15_Free.f freeS
  by_cases e : v1 = a0
  · rw [if_pos e]
    by_cases e1 : v0 = a1
    · rw [if_pos e1]
      by_cases h : a2 ≥ v3
      · rw [if_pos h]
        unfold mn
        by_cases n : v2 > now
        · rw [if_pos n, if_pos (by omega), if_pos (by omega)]
        · rw [if_neg n, if_pos (by omega), if_neg (by omega)]
      · rw [if_neg h, if_neg (by omega)]
    · rw [if_neg e1, if_neg (by omega)]
  · rw [if_neg e, if_neg (by omega)]
/-- An ask is heard. -/
def askS (s : ES) (t x y z : Int) : ES × S38 × Int :=
  if x < 0 ∨ s.n ≤ x then (s, z38, 0)
  else
    let s1 := toldS s t
    let h := hearS s1.ve s1.vh s1.vu s1.vs s1.now s1.lease x y z
    ({ s1 with ve := h.1, vh := h.2.1, vu := h.2.2.1, vs := h.2.2.2.1 }, ⟨x, 2, z34, ⟨s1.me, h.2.2.2.2.2.1, h.2.2.2.2.2.2.1, h.2.2.2.2.2.2.2⟩⟩, if h.1 = s1.ve then 0 else h.1)
theorem hear_rng {v0 v1 v2 v3 now lease a0 a1 a2 : Int} (h0 : 0 ≤ v0) (h1 : v0 ≤ 1099511627776) : 0 ≤ (hearS v0 v1 v2 v3 now lease a0 a1 a2).1 ∧ (hearS v0 v1 v2 v3 now lease a0 a1 a2).1 ≤ 1099511627776 := by
  unfold hearS
  split
  · rename_i q
    unfold grantB hfitB at q
    rw [Bool.and_eq_true, decide_eq_true_eq] at q
    exact ⟨by show 0 ≤ a1; omega, by show a1 ≤ _; omega⟩
  · exact ⟨h0, h1⟩
theorem hear_up {v0 v1 v2 v3 now lease a0 a1 a2 : Int} : v0 ≤ (hearS v0 v1 v2 v3 now lease a0 a1 a2).1 := by
  unfold hearS
  split
  · rename_i q
    unfold grantB at q
    rw [Bool.and_eq_true, Bool.or_eq_true, decide_eq_true_eq, decide_eq_true_eq] at q
    show v0 ≤ a1
    omega
  · exact Int.le_refl _
theorem ask_fine {m : Nat} {s : ES} (h : Fine m s) (t x y z : Int) : Fine m (askS s t x y z).1 := by
  unfold askS
  split
  · exact h
  · have h1 := told_fine h t
    have := hear_rng (v0 := (toldS s t).ve) (v1 := (toldS s t).vh) (v2 := (toldS s t).vu) (v3 := (toldS s t).vs) (now := (toldS s t).now) (lease := (toldS s t).lease) (a0 := x) (a1 := y) (a2 := z) h1.e0 h1.e1
    exact { h1 with e0 := this.1, e1 := this.2 }
def freeE (s : ES) (t x y z : Int) : ES :=
  let s1 := toldS s t
  { s1 with ve := (freeS s1.ve s1.vh s1.vu s1.vs s1.now x y z).1, vh := (freeS s1.ve s1.vh s1.vu s1.vs s1.now x y z).2.1, vu := (freeS s1.ve s1.vh s1.vu s1.vs s1.now x y z).2.2.1, vs := (freeS s1.ve s1.vh s1.vu s1.vs s1.now x y z).2.2.2 }
theorem free_fine {m : Nat} {s : ES} (h : Fine m s) (t x y z : Int) : Fine m (freeE s t x y z) := by
  have h1 := told_fine h t
  exact { h1 with e0 := h1.e0, e1 := h1.e1 }
/-- A reply is heard. -/
def replyS (s : ES) (t : Int) (p : S36) : ES :=
  if p.f0 < 0 ∨ s.n ≤ p.f0 ∨ p.f2 < 0 ∨ 1099511627776 < p.f2 then s
  else
    let s1 := { toldS s t with heard := mx s.heard p.f2 }
    if s1.opn = false then s1
    else
      let s2 := { s1 with gr := s1.gr ++ [p] }
      if wonB s2.n (seenOf s2.n s2.a1 s2.a2 s2.gr).length = true then { s2 with opn := false, led := s2.a1, unt := s2.a2 + s2.safe } else s2
theorem reply_fine {m : Nat} {s : ES} (h : Fine m s) (t : Int) (p : S36) : Fine (m + 1) (replyS s t p) := by
  have h1 := told_fine h t
  unfold replyS
  split
  · exact h.mono (by omega)
  rename_i q
  have hd : Fine m { toldS s t with heard := mx s.heard p.f2 } := { h1 with d0 := by have := h.d0; show 0 ≤ mx _ _; unfold mx; split <;> omega, d1 := by have := h.d1; show mx _ _ ≤ _; unfold mx; split <;> omega }
  dsimp only
  split
  · exact hd.mono (by omega)
  have hgw : ∀ x ∈ s.gr ++ [p], -9223372036854775808 ≤ x.f0 ∧ x.f0 ≤ 9223372036854775807 := by
    intro x hx
    rcases List.mem_append.1 hx with hx | hx
    · exact h.gw x hx
    · rw [List.mem_singleton] at hx
      subst hx
      have := h.hn
      omega
  have hg : Fine (m + 1) { toldS s t with heard := mx s.heard p.f2, gr := s.gr ++ [p] } := { hd with gl := (by have := h.gl; simp; omega), gw := hgw }
  split
  · exact { hg with ak := (fun h => by cases h) }
  · exact hg
theorem kept_blk {w1 w2 : World} {r g N : Nat} {o : Obj} (hk : Kept w1 w2 (fun k => k = r)) (hb : w1.heap[g]? = some o) (hr : r < N) (hg : N ≤ g) : w2.heap[g]? = some o := (hk.2 g (blk_lt hb) (by show ¬ g = r; omega)).trans hb
end Go.Proofs.Ytpgmfjpjjnpiiaa.LeaseL
