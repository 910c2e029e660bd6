/- PROVED: the law BallotWoken over the printed contract of its function: a woken voter grants nothing for a lease; then it grants what is above its epoch. No condition beyond the statement's own bounds. -/
import Derived.Test.YtdeejdjekjdgpaaPBallotWokenx6
namespace Go.Proofs.Ytdeejdjekjdgpaa.Woken
open Go.RowKit Go.Proofs.Ytdeejdjekjdgpaa.PBallotWoken Go.Proofs.YtdeejdjekjdgpaaW.PrintWords Go.Proofs.YtdeejdjekjdgpaaW.PrintLast Go.Proofs.YtdeejdjekjdgpaaW.PrintMore
theorem bd {a : Int} (h : (Lit.int .i64 a).wf = true) : -9223372036854775808 ≤ a ∧ a ≤ 9223372036854775807 := by
  simp [Lit.wf, IntKind.min, IntKind.max, IntKind.signed, IntKind.bits] at h
  omega
theorem w_in {n : Int} (h : -9223372036854775808 ≤ n) (h' : n ≤ 9223372036854775807) : wrap64 n = n := by
  unfold wrap64
  omega
theorem right_is (now lease : Int) : ballot_right.f now lease = some (decide (0 ≤ now ∧ now ≤ 1099511627776 ∧ 40 ≤ lease ∧ lease ≤ 1000)) := by
  unfold ballot_right.f
  by_cases c : now ≥ 0 <;> by_cases c1 : now ≤ 1099511627776 <;> by_cases c2 : lease ≥ 40 <;> by_cases c3 : lease ≤ 1000 <;> simp [c, c1, c2, c3] <;> omega
/-- May an ask be heard at all? -/
def fitB (now lease from_ epoch : Int) : Bool := decide (0 ≤ now ∧ now ≤ 1099511627776 ∧ 40 ≤ lease ∧ lease ≤ 1000 ∧ 0 ≤ from_ ∧ 1 ≤ epoch ∧ epoch ≤ 1099511627776)
/-- Is it the same holder's, or the vote over, and the epoch greater? -/
def grantB (v0 v1 v2 now lease from_ epoch : Int) : Bool := fitB now lease from_ epoch && (decide (epoch = v0 ∧ from_ = v1) || decide (v2 ≤ now ∧ v0 < epoch))
/-- The vote behind an ask and the reply, in plain numbers. -/
def hearS (v0 v1 v2 v3 now lease a0 a1 a2 : Int) : Int × Int × Int × Int × Int × Bool × Int × Int :=
  if grantB v0 v1 v2 now lease a0 a1 = true then (a1, a0, wrap64 (now + lease), (if a1 = v0 ∧ a0 = v1 then mx v3 a2 else a2), 0, true, a1, a2) else (v0, v1, v2, v3, 0, false, v0, a2)
theorem hear_is (k : Nat) (v0 v1 v2 v3 now lease a0 a1 a2 : Int) : ballot_Hear.f (k + 1) v0 v1 v2 v3 now lease a0 a1 a2 = some (hearS v0 v1 v2 v3 now lease a0 a1 a2) := by
  unfold ballot_Hear.f hearS grantB fitB
  rw [right_is]
  simp only [Option.bind_some, decide_eq_true_eq]
  by_cases c : 0 ≤ now ∧ now ≤ 1099511627776 ∧ 40 ≤ lease ∧ lease ≤ 1000
  · rw [if_pos c]
    by_cases c0 : a0 < 0
    · rw [if_pos c0, ballot_Hear.j0, if_pos rfl, decide_eq_false (by omega)]; rfl
    rw [if_neg c0]
    by_cases c1 : a1 < 1
    · rw [if_pos c1, ballot_Hear.j0, if_pos rfl, decide_eq_false (by omega)]; rfl
    rw [if_neg c1]
    by_cases c2 : a1 > 1099511627776
    · rw [decide_eq_true c2, ballot_Hear.j0, if_pos rfl, decide_eq_false (by omega)]; rfl
    rw [decide_eq_false c2, ballot_Hear.j0, if_neg (by simp), decide_eq_true (by omega)]
    by_cases e : a1 = v0 ∧ a0 = v1
    · rw [if_pos (by simp [e])]
      simp [e]
    · rw [if_neg (by simpa using e)]
      by_cases n : now < v2
      · rw [if_pos n, decide_eq_false e, decide_eq_false (by omega)]; rfl
      rw [if_neg n]
      by_cases m : a1 ≤ v0
      · rw [if_pos m, decide_eq_false e, decide_eq_false (by omega)]; rfl
      rw [if_neg m, decide_eq_false e, decide_eq_true (by omega), if_neg e]; rfl
  · rw [if_neg c, ballot_Hear.j0, if_pos rfl, decide_eq_false (by omega)]; rfl
theorem awake_is (k : Nat) : juratlaw15_awake.f (k + 1) = some true := by
  unfold juratlaw15_awake.f ballot_Fresh.f
  simp only [Option.bind_some, hear_is k]
  have w1 : wrap64 45 = 45 := by unfold wrap64; omega
  simp [hearS, grantB, fitB, w1]
theorem woken_in (a now lease : Int) (h : 0 ≤ a ∧ a ≤ 1099511627776 ∧ 0 ≤ now ∧ now ≤ 1099511627776 ∧ 40 ≤ lease ∧ lease ≤ 1000) : ballot_Woken.f a now lease = some (a, -1, wrap64 (now + lease), 0, 0) := by
  unfold ballot_Woken.f
  rw [right_is, if_neg (by omega), if_neg (by omega)]
  simp only [Option.bind_some, decide_eq_true_eq]
  rw [if_pos (by omega)]
theorem woken_out (a now lease : Int) (h : ¬ (0 ≤ a ∧ a ≤ 1099511627776 ∧ 0 ≤ now ∧ now ≤ 1099511627776 ∧ 40 ≤ lease ∧ lease ≤ 1000)) : ballot_Woken.f a now lease = some (0, 0, 0, 0, 1) := by
  unfold ballot_Woken.f
  rw [right_is]
  simp only [Option.bind_some, decide_eq_true_eq]
  by_cases c : a < 0
  · rw [if_pos c]
  rw [if_neg c]
  by_cases c1 : a > 1099511627776
  · rw [if_pos c1]
  rw [if_neg c1, if_neg (by omega)]
theorem woken_law (a0 a1 a2 a3 b0 b1 b2 : Int) (h1 : -9223372036854775808 ≤ a1 ∧ a1 ≤ 9223372036854775807) (h2 : -9223372036854775808 ≤ a2 ∧ a2 ≤ 9223372036854775807) (h3 : -9223372036854775808 ≤ a3 ∧ a3 ≤ 9223372036854775807) :
    juratlaw15_BallotWoken.f 2 a0 a1 a2 a3 b0 b1 b2 = some true := by
  have hout : ∀ x y z u, juratlaw15_BallotWoken.j0 2 a0 a1 a2 a3 true b0 b1 b2 x y z u = some true := by
    intro x y z u
    rw [juratlaw15_BallotWoken.j0, if_pos rfl, awake_is 0]
    rfl
  unfold juratlaw15_BallotWoken.f
  by_cases h : 0 ≤ a0 ∧ a0 ≤ 1099511627776 ∧ 0 ≤ a1 ∧ a1 ≤ 1099511627776 ∧ 40 ≤ a2 ∧ a2 ≤ 1000
  · rw [woken_in _ _ _ h]
    simp only [Option.bind_some]
    rw [if_pos trivial]
    by_cases c : a3 < 0
    · rw [if_pos c]; exact hout _ _ _ _
    rw [if_neg c]
    by_cases c1 : a3 > 5000
    · rw [if_pos c1]; exact hout _ _ _ _
    rw [if_neg c1]
    by_cases c2 : a1 > 1099511622776
    · rw [if_pos c2]; exact hout _ _ _ _
    rw [if_neg c2]
    by_cases c3 : b0 < 0
    · rw [decide_eq_true c3]; exact hout _ _ _ _
    rw [decide_eq_false c3, juratlaw15_BallotWoken.j0, if_neg (by simp), w_in (n := a1 + a2) (by omega) (by omega), w_in (n := a1 + a3) (by omega) (by omega), hear_is 0]
    simp only [Option.bind_some, awake_is 0]
    have hg : grantB a0 (-1) (a1 + a2) (a1 + a3) a2 b0 b1 = decide (a3 ≥ a2 ∧ b1 > a0 ∧ b1 ≤ 1099511627776) := by
      unfold grantB fitB
      rw [← Bool.decide_or, ← Bool.decide_and]
      apply decide_eq_decide.2
      omega
    have hr : (hearS a0 (-1) (a1 + a2) 0 (a1 + a3) a2 b0 b1 b2).2.2.2.2.2.1 = decide (a3 ≥ a2 ∧ b1 > a0 ∧ b1 ≤ 1099511627776) := by
      unfold hearS
      rw [hg]
      by_cases d : a3 ≥ a2 ∧ b1 > a0 ∧ b1 ≤ 1099511627776
      · rw [decide_eq_true d, if_pos rfl]
      · rw [decide_eq_false d, if_neg (by simp)]
    rw [hr]
    by_cases d : a3 ≥ a2
    · rw [if_pos d]
      by_cases d1 : b1 > a0
      · rw [if_pos d1, if_pos]
        simp [d, d1]
      · rw [if_neg d1, if_pos]
        simp [d1]
    · rw [if_neg d, if_pos]
      simp [d]
  · rw [woken_out _ _ _ h]
    simp [awake_is 1]
theorem woken_walk (a0 a1 a2 a3 b0 b1 b2 : Int) (w : World) (_h0 : (Lit.int .i64 a0).wf = true) (h1 : (Lit.int .i64 a1).wf = true) (h2 : (Lit.int .i64 a2).wf = true) (h3 : (Lit.int .i64 a3).wf = true) (_g0 : (Lit.int .i64 b0).wf = true) (_g1 : (Lit.int .i64 b1).wf = true) (_g2 : (Lit.int .i64 b2).wf = true) :
    Calls Try.prog 4 #[.int .i64 a0, .int .i64 a1, .int .i64 a2, .int .i64 a3, .agg #[.int .i64 b0, .int .i64 b1, .int .i64 b2]] w fun e w' => e = .returned (.bool true) ∧ Below w.heap.size w w' :=
  juratlaw15_BallotWoken.calls 2 a0 a1 a2 a3 b0 b1 b2 true w (woken_law a0 a1 a2 a3 b0 b1 b2 (bd h1) (bd h2) (bd h3))
end Go.Proofs.Ytdeejdjekjdgpaa.Woken
