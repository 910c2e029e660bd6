/- PROVED: what hearing an ask, giving a vote back and being woken come to in plain numbers, for the program and for the reference alike. No condition. -/
import Derived.Test.YtdeejdjekjdgpaaPBallotHearsx6
import Derived.Test.YtdeejdjekjdgpaaPBallotHearsx7
namespace Go.Proofs.Ytdeejdjekjdgpaa.HearPure
open Go.RowKit Go.Proofs.Ytdeejdjekjdgpaa.PBallotHears Go.Proofs.YtdeejdjekjdgpaaW.PrintWords Go.Proofs.YtdeejdjekjdgpaaW.PrintLast Go.Proofs.YtdeejdjekjdgpaaW.PrintMore
theorem in_is (n a b : Int) : juratref15_in.f n a b = some (decide (a ≤ n ∧ n ≤ b)) := by
  unfold juratref15_in.f
  by_cases c : n ≥ a <;> by_cases c1 : n ≤ b <;> simp [c, c1] <;> omega
theorem right_is (now lease : Int) : ballot_right.f now lease = some (decide (0 ≤ now ∧ now ≤ 1099511627776 ∧ 40 ≤ lease ∧ lease ≤ 1000)) := by
  unfold ballot_right.f
  by_cases c : now ≥ 0 <;> by_cases c1 : now ≤ 1099511627776 <;> by_cases c2 : lease ≥ 40 <;> by_cases c3 : lease ≤ 1000 <;> simp [c, c1, c2, c3] <;> omega
theorem ref_right_is (now lease : Int) : juratref15_Right.f now lease = some (decide (0 ≤ now ∧ now ≤ 1099511627776 ∧ 40 ≤ lease ∧ lease ≤ 1000)) := by
  unfold juratref15_Right.f
  rw [in_is, in_is]
  by_cases c : 0 ≤ now ∧ now ≤ 1099511627776 <;> by_cases c2 : 40 ≤ lease ∧ lease ≤ 1000 <;> simp [c, c2] <;> omega
/-- May an ask be heard at all? -/
def fitB (now lease from_ epoch : Int) : Bool := decide (0 ≤ now ∧ now ≤ 1099511627776 ∧ 40 ≤ lease ∧ lease ≤ 1000 ∧ 0 ≤ from_ ∧ 1 ≤ epoch ∧ epoch ≤ 1099511627776)
/-- Is it the same holder's, or the vote over, and the epoch greater? -/
def grantB (v0 v1 v2 now lease from_ epoch : Int) : Bool := fitB now lease from_ epoch && (decide (epoch = v0 ∧ from_ = v1) || decide (v2 ≤ now ∧ v0 < epoch))
/-- The vote behind an ask and the reply, in plain numbers. -/
def hearS (v0 v1 v2 v3 now lease a0 a1 a2 : Int) : Int × Int × Int × Int × Int × Bool × Int × Int :=
  if grantB v0 v1 v2 now lease a0 a1 = true then (a1, a0, wrap64 (now + lease), (if a1 = v0 ∧ a0 = v1 then mx v3 a2 else a2), 0, true, a1, a2) else (v0, v1, v2, v3, 0, false, v0, a2)
theorem hear_is (k : Nat) (v0 v1 v2 v3 now lease a0 a1 a2 : Int) : ballot_Hear.f (k + 1) v0 v1 v2 v3 now lease a0 a1 a2 = some (hearS v0 v1 v2 v3 now lease a0 a1 a2) := by
  unfold ballot_Hear.f hearS grantB fitB
  rw [right_is]
  simp only [Option.bind_some, decide_eq_true_eq]
  by_cases c : 0 ≤ now ∧ now ≤ 1099511627776 ∧ 40 ≤ lease ∧ lease ≤ 1000
  · rw [if_pos c]
    by_cases c0 : a0 < 0
    · rw [if_pos c0, ballot_Hear.j0, if_pos rfl, decide_eq_false (by omega)]; rfl
    rw [if_neg c0]
    by_cases c1 : a1 < 1
    · rw [if_pos c1, ballot_Hear.j0, if_pos rfl, decide_eq_false (by omega)]; rfl
    rw [if_neg c1]
    by_cases c2 : a1 > 1099511627776
    · rw [decide_eq_true c2, ballot_Hear.j0, if_pos rfl, decide_eq_false (by omega)]; rfl
    rw [decide_eq_false c2, ballot_Hear.j0, if_neg (by simp), decide_eq_true (by omega)]
    by_cases e : a1 = v0 ∧ a0 = v1
    · rw [if_pos (by simp [e])]
      simp [e]
    · rw [if_neg (by simpa using e)]
      by_cases n : now < v2
      · rw [if_pos n, decide_eq_false e, decide_eq_false (by omega)]; rfl
      rw [if_neg n]
      by_cases m : a1 ≤ v0
      · rw [if_pos m, decide_eq_false e, decide_eq_false (by omega)]; rfl
      rw [if_neg m, decide_eq_false e, decide_eq_true (by omega), if_neg e]; rfl
  · rw [if_neg c, ballot_Hear.j0, if_pos rfl, decide_eq_false (by omega)]; rfl
theorem grants_is (k : Nat) (v0 v1 v2 v3 now lease a0 a1 a2 : Int) : juratref15_Grants.f (k + 1) v0 v1 v2 v3 now lease a0 a1 a2 = some (grantB v0 v1 v2 now lease a0 a1) := by
  unfold juratref15_Grants.f grantB fitB
  rw [ref_right_is, in_is]
  simp only [Option.bind_some, decide_eq_true_eq]
  by_cases c : 0 ≤ now ∧ now ≤ 1099511627776 ∧ 40 ≤ lease ∧ lease ≤ 1000
  · rw [if_pos c]
    by_cases c0 : a0 < 0
    · rw [if_pos c0, juratref15_Grants.j0, if_pos rfl, decide_eq_false (by omega)]; rfl
    rw [if_neg c0]
    by_cases c1 : 1 ≤ a1 ∧ a1 ≤ 1099511627776
    rotate_left
    · rw [decide_eq_false c1, juratref15_Grants.j0, if_pos (show (!false) = true from rfl), decide_eq_false (by omega)]; rfl
    rw [decide_eq_true c1, juratref15_Grants.j0, if_neg (show ¬ (!true) = true by simp), decide_eq_true (show 0 ≤ now ∧ now ≤ 1099511627776 ∧ 40 ≤ lease ∧ lease ≤ 1000 ∧ 0 ≤ a0 ∧ 1 ≤ a1 ∧ a1 ≤ 1099511627776 by omega), Bool.true_and]
    have hd : ∀ (p : Prop) [Decidable p], (if now ≥ v2 then some (decide p) else some false) = some (decide (now ≥ v2 ∧ p)) := by
      intro p _
      by_cases n : now ≥ v2
      · rw [if_pos n]
        simp [n]
      · rw [if_neg n, decide_eq_false (by omega)]
    rw [hd]
    by_cases e : a1 = v0 ∧ a0 = v1
    · rw [if_pos e.2, if_pos e.1, decide_eq_true e]; rfl
    · rw [decide_eq_false e, Bool.false_or]
      by_cases e1 : a0 = v1
      · rw [if_pos e1, if_neg (by omega)]
      · rw [if_neg e1]
  · rw [if_neg c, juratref15_Grants.j0, if_pos rfl, decide_eq_false (by omega)]; rfl
theorem ref_hear_is (k : Nat) (v0 v1 v2 v3 now lease a0 a1 a2 : Int) : juratref15_Hear.f (k + 1) v0 v1 v2 v3 now lease a0 a1 a2 = some (hearS v0 v1 v2 v3 now lease a0 a1 a2) := by
  unfold juratref15_Hear.f hearS
  rw [grants_is]
  simp only [Option.bind_some]
  by_cases g : grantB v0 v1 v2 now lease a0 a1 = true
  · rw [if_pos g, if_pos g]
    by_cases e : a1 = v0 ∧ a0 = v1
    · rw [if_pos (by omega), if_pos (by omega), if_pos e]
      unfold mx
      by_cases h : v3 > a2
      · rw [if_pos h, if_neg (by omega)]
      · rw [if_neg h]
        by_cases h' : v3 < a2
        · rw [if_pos h']
        · rw [if_neg h', show v3 = a2 by omega]
    · rw [if_neg e]
      by_cases e1 : v1 = a0
      · rw [if_pos e1, if_neg (by omega)]
      · rw [if_neg e1]
  · rw [if_neg g, if_neg g]
theorem woken_is (a now lease : Int) : ballot_Woken.f a now lease = juratref15_Woken.f a now lease := by
  unfold ballot_Woken.f juratref15_Woken.f
  rw [right_is, ref_right_is, in_is]
  simp only [Option.bind_some, decide_eq_true_eq]
  by_cases c : a < 0
  · rw [if_pos c, if_neg (by omega)]
  rw [if_neg c]
  by_cases c1 : a > 1099511627776
  · rw [if_pos c1, if_neg (by omega)]
  rw [if_neg c1, if_pos (show 0 ≤ a ∧ a ≤ 1099511627776 by omega)]
theorem woken_some (a now lease : Int) : ∃ r1 r2 r3 r4 r5, ballot_Woken.f a now lease = some (r1, r2, r3, r4, r5) := by
  unfold ballot_Woken.f
  rw [right_is]
  simp only [Option.bind_some, decide_eq_true_eq]
  by_cases c : a < 0
  · rw [if_pos c]; exact ⟨_, _, _, _, _, rfl⟩
  rw [if_neg c]
  by_cases c1 : a > 1099511627776
  · rw [if_pos c1]; exact ⟨_, _, _, _, _, rfl⟩
  rw [if_neg c1]
  by_cases c2 : 0 ≤ now ∧ now ≤ 1099511627776 ∧ 40 ≤ lease ∧ lease ≤ 1000
  · rw [if_pos c2]; exact ⟨_, _, _, _, _, rfl⟩
  · rw [if_neg c2]; exact ⟨_, _, _, _, _, rfl⟩
/-- A vote that is given back. -/
def freeS (v0 v1 v2 v3 now a0 a1 a2 : Int) : Int × Int × Int × Int := (v0, v1, (if a1 = v0 ∧ a0 = v1 ∧ v3 ≤ a2 then mn v2 now else v2), v3)
theorem free_is (v0 v1 v2 v3 now a0 a1 a2 : Int) : ballot_Free.f v0 v1 v2 v3 now a0 a1 a2 = some (freeS v0 v1 v2 v3 now a0 a1 a2) := by
  unfold ballot_Free.f freeS
  by_cases e : a1 = v0 ∧ a0 = v1
  · rw [if_pos (by simp [e])]
    by_cases h : a2 ≥ v3
    · rw [if_pos h, if_pos (by omega)]
    · rw [if_neg h, if_neg (by omega)]
  · rw [if_neg (by simpa using e), if_neg (by omega)]
theorem ref_free_is (v0 v1 v2 v3 now a0 a1 a2 : Int) : juratref15_Free.f v0 v1 v2 v3 now a0 a1 a2 = some (freeS v0 v1 v2 v3 now a0 a1 a2) := by
  unfold juratref15_Free.f freeS
  by_cases e : v1 = a0
  · rw [if_pos e]
    by_cases e1 : v0 = a1
    · rw [if_pos e1]
      by_cases h : a2 ≥ v3
      · rw [if_pos h]
        unfold mn
        by_cases n : v2 > now
        · rw [if_pos n, if_pos (by omega), if_pos (by omega)]
        · rw [if_neg n, if_pos (by omega), if_neg (by omega)]
      · rw [if_neg h, if_neg (by omega)]
    · rw [if_neg e1, if_neg (by omega)]
  · rw [if_neg e, if_neg (by omega)]
theorem awake_is (k : Nat) : juratlaw15_awake.f (k + 1) = some true := by
  unfold juratlaw15_awake.f ballot_Fresh.f
  simp only [Option.bind_some, hear_is k]
  have w1 : wrap64 45 = 45 := by unfold wrap64; omega
  simp [hearS, grantB, fitB, w1]
end Go.Proofs.Ytdeejdjekjdgpaa.HearPure
