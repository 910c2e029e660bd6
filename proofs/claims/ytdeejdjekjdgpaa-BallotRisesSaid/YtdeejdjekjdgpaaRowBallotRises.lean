/- PROVED: the given statement Rows.BallotRisesSaid: a vote's epoch never falls, and for one epoch it is never for two, whatever is asked and given back in whatever order. No condition. -/
import Derived.Test.YtdeejdjekjdgpaaRows
import Derived.Test.YtdeejdjekjdgpaaRises
import Derived.Test.YtdeejdjekjdgpaaLOpen
import Derived.WalkKit
import Derived.ProofKit
import Derived.OpenShut
import Derived.ShutString
import Derived.ChangeOld
import Derived.Below
import Derived.SizedLaws
import Derived.Lib.SmallJoins
namespace Go.Proofs.Ytdeejdjekjdgpaa.ballotRisesRow
open Go.ChangeShapes Go.WideShapes Go.ChangeAt Go.RowKit Go.Joins
open Go.ChangeMaps (open_string shut_string)
open Go.Proofs.YtdeejdjekjdgpaaW.PrintWords
set_option linter.unusedVariables false
theorem own : ownKnob Try.prog.godebug = none := by kernel_rfl
theorem laidOut : laidOutB Try.prog = true := by kernel_rfl
theorem oI : LOpen.Opens Try.prog 3 (Kd.int .i64) (fun n => (Lit.int .i64 n).wf = true) := LOpen.opens_int Try.underlying3 (by kernel_rfl)
theorem oB : LOpen.Opens Try.prog 4 Kd.bool (fun _ => True) := LOpen.opens_bool Try.underlying4 (by kernel_rfl)
theorem oAsk : LOpen.Opens Try.prog 28 (Kd.pair (Kd.int .i64) (Kd.pair (Kd.int .i64) (Kd.int .i64))) (fun _ => True) :=
  LOpen.opens_true (LOpen.opens_struct Try.underlying28 (by kernel_rfl) (LOpen.opens_cons rfl oI (LOpen.opens_cons rfl oI (LOpen.opens_last rfl oI))))
theorem oHeard : LOpen.Opens Try.prog 30 (Kd.pair (Kd.int .i64) (Kd.pair Kd.bool (Kd.pair (Kd.int .i64) (Kd.pair (Kd.int .i64) (Kd.int .i64))))) (fun _ => True) :=
  LOpen.opens_true (LOpen.opens_struct Try.underlying30 (by kernel_rfl) (LOpen.opens_cons rfl oI (LOpen.opens_cons rfl oB (LOpen.opens_last rfl oAsk))))
set_option maxRecDepth 100000 in
theorem lifted (os : Os) (started : os.Started) (H : Type) (enc : TypeId × Value → H) :
    ReturnsInHanded {} Try.checked os 5 .any (Rows.ballotRisesSpec.pre6 enc Try.prog Try.f5 Rows.ballotRisesRow.domain false) (Rows.ballotRisesSpec.post enc Try.prog Try.f5 false true false false) := by
  refine returnsInHanded_of_change_sized (C := Try.checked) own started (by kernel_rfl) Try.func5
    (ChangeSpec.witness6 (enc := enc) (C := Try.checked) false ⟨#[], #[.int .i64 0, .slice none 0 0], []⟩ 8 (by kernel_rfl) (by kernel_rfl) (by kernel_rfl) (by kernel_rfl)) ?_
  intro W base args ds gs before hval0 hW hcnd hsz0 _
  have hsz : (DataW.weightsEach Try.prog (Try.f5.params.toList ++ Rows.ballotRisesSpec.plain.varTypes Try.prog) (ds ++ gs)).all (· ≤ reachBytes) = true := hsz0
  have hval : ∀ (j : Nat) t v, Try.f5.params[j]? = some t → args[j]? = some v → Value.okWide Try.prog W .any base t v := hval0
  have hW' := hW
  obtain ⟨p, q, hA0, hV, rfl, hfz, hnd⟩ := hW
  have hA : DataW.TrodAll enc Try.prog W 0 (fun _ => true) true Try.f5.params.toList args.toList ds p := hA0
  rw [Try.params5] at hA hval hsz
  obtain ⟨v0, vs0, d0, ds0, p0, q0, hargs, rfl, rfl, h0, r0⟩ := trodAll_cons hA
  obtain ⟨v1, vs1, d1, ds1, p1, q1, rfl, rfl, rfl, h1, r1⟩ := trodAll_cons r0
  obtain ⟨rfl, rfl, rfl⟩ := trodAll_nil r1
  obtain rfl : args = #[v0, v1] := by cases args; simp_all
  obtain ⟨rfl, rfl⟩ := trodVars_none hV
  obtain ⟨a0, rfl, rfl, rfl, w0⟩ := open_int Try.underlying3 (hval 0 3 v0 rfl rfl) h0
  have k1 := h1
  have lt1 : ∀ x ∈ p1, x.block < W.heap.size := by obtain ⟨m, hm⟩ := k1; exact DataW.trod_lt m _ _ _ hm
  obtain ⟨A1, l1, c1, rfl⟩ := okWide_slice Try.underlying22 (hval 1 22 v1 rfl rfl)
  obtain ⟨x1, rfl, L1, C1, O1⟩ : ∃ xs, l1 = xs.length ∧ l1 ≤ c1 ∧ (Rises.kHeard).C W A1 xs.length xs ∧ ∀ y ∈ xs, (fun _ => True) y := by obtain ⟨fuel, hf⟩ := h1; exact LOpen.row_of_open Try.underlying22 (oHeard) hf
  clear hA0 hval0 hsz0
  refine (Rises.rises_walk a0 A1 c1 x1 W C1).mono fun e W' ⟨he, bel⟩ => ?_
  subst he
  exact ⟨_, rfl, _, _, _, [], _, [], hW', trodAll_mk1 (shut_bool Try.underlying4 _), (trodAll_cons_mk (shut_int Try.underlying3 w0) (trodAll_cons_mk (Below.trod laidOut (by kernel_rfl) (of_decide_eq_true (by kernel_rfl)) k1 bel lt1) trodAll_mk0)), rfl, bel.frame _, fun h => by cases h⟩
theorem over : Rows.ballotRisesRow.holds Try.pinned (OpenSpec.ofChange Rows.ballotRisesSpec) :=
  OpenClaim.holds_of_wide 5 Try.f5 rfl rfl rfl rfl rfl rfl rfl ⟨rfl, rfl, rfl, rfl, rfl⟩ rfl rfl rfl rfl rfl (by kernel_rfl) Try.func5 (by kernel_rfl)
    (of_decide_eq_true (by kernel_rfl)) (by unfold Func.isWrapper; first | (rw [if_pos (by decide +kernel)]; kernel_rfl) | (rw [if_neg (by decide +kernel)]; exact ⟨rfl, rfl⟩))
    (fun os started H enc _ => lifted os started H enc)
theorem proved : Rows.BallotRisesSaid := over
#print axioms proved
end Go.Proofs.Ytdeejdjekjdgpaa.ballotRisesRow
namespace Go.Proofs.Ytdeejdjekjdgpaa
/-- The row, under a short name, for the claim. -/
theorem ballotRises_holds : Rows.BallotRisesSaid := ballotRisesRow.proved
end Go.Proofs.Ytdeejdjekjdgpaa
