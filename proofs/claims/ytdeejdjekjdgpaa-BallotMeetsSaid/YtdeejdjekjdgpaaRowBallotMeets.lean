/- PROVED: the given statement Rows.BallotMeetsSaid: of two majorities of the same replicas one replica is in both. No condition. -/
import Derived.Test.YtdeejdjekjdgpaaRows
import Derived.Test.YtdeejdjekjdgpaaMeets
import Derived.Test.YtdeejdjekjdgpaaLOpen
import Derived.WalkKit
import Derived.ProofKit
import Derived.OpenShut
import Derived.ShutString
import Derived.ChangeOld
import Derived.Below
import Derived.SizedLaws
import Derived.Lib.SmallJoins
namespace Go.Proofs.Ytdeejdjekjdgpaa.ballotMeetsRow
open Go.ChangeShapes Go.WideShapes Go.ChangeAt Go.RowKit Go.Joins
open Go.ChangeMaps (open_string shut_string)
open Go.Proofs.YtdeejdjekjdgpaaW.PrintWords
set_option linter.unusedVariables false
theorem own : ownKnob Try.prog.godebug = none := by kernel_rfl
theorem laidOut : laidOutB Try.prog = true := by kernel_rfl
theorem oI : LOpen.Opens Try.prog 3 (Kd.int .i64) (fun n => (Lit.int .i64 n).wf = true) := LOpen.opens_int Try.underlying3 (by kernel_rfl)
theorem oB : LOpen.Opens Try.prog 4 Kd.bool (fun _ => True) := LOpen.opens_bool Try.underlying4 (by kernel_rfl)
theorem oReply : LOpen.Opens Try.prog 32 PBallotCounts.k32 (fun b => (Lit.int .i64 b.f0).wf = true ∧ True) :=
  let h := LOpen.opens_iso (fun x : PBallotCounts.S32 => (x.f0, x.f1, x.f2, x.f3)) (fun a => ⟨a.1, a.2.1, a.2.2.1, a.2.2.2⟩) (fun _ => rfl) (LOpen.opens_struct Try.underlying32 (by kernel_rfl) (LOpen.opens_cons rfl oI (LOpen.opens_cons rfl oB (LOpen.opens_cons rfl oI (LOpen.opens_last rfl oI)))))
  ⟨h.1, fun enc w base spare held fuel cs x hx => by obtain ⟨a, k, o⟩ := h.2 enc w base spare held fuel cs x hx; exact ⟨a, k, o.1, trivial⟩⟩
theorem bd {a : Int} (h : (Lit.int .i64 a).wf = true) : -9223372036854775808 ≤ a ∧ a ≤ 9223372036854775807 := by
  simp [Lit.wf, IntKind.min, IntKind.max, IntKind.signed, IntKind.bits] at h
  omega
set_option maxRecDepth 100000 in
theorem lifted (os : Os) (started : os.Started) (H : Type) (enc : TypeId × Value → H) :
    ReturnsInHanded {} Try.checked os 8 .any (Rows.ballotMeetsSpec.pre6 enc Try.prog Try.f8 Rows.ballotMeetsRow.domain false) (Rows.ballotMeetsSpec.post enc Try.prog Try.f8 false true false false) := by
  refine returnsInHanded_of_change_sized (C := Try.checked) own started (by kernel_rfl) Try.func8
    (ChangeSpec.witness6 (enc := enc) (C := Try.checked) false ⟨#[], #[.slice none 0 0, .slice none 0 0, .int .i64 0, .int .i64 0, .int .i64 0, .int .i64 0, .int .i64 0], []⟩ 8 (by kernel_rfl) (by kernel_rfl) (by kernel_rfl) (by kernel_rfl)) ?_
  intro W base args ds gs before hval0 hW hcnd hsz0 _
  have hsz : (DataW.weightsEach Try.prog (Try.f8.params.toList ++ Rows.ballotMeetsSpec.plain.varTypes Try.prog) (ds ++ gs)).all (· ≤ reachBytes) = true := hsz0
  have hval : ∀ (j : Nat) t v, Try.f8.params[j]? = some t → args[j]? = some v → Value.okWide Try.prog W .any base t v := hval0
  have hW' := hW
  obtain ⟨p, q, hA0, hV, rfl, hfz, hnd⟩ := hW
  have hA : DataW.TrodAll enc Try.prog W 0 (fun _ => true) true Try.f8.params.toList args.toList ds p := hA0
  rw [Try.params8] at hA hval hsz
  obtain ⟨v0, vs0, d0, ds0, p0, q0, hargs, rfl, rfl, h0, r0⟩ := trodAll_cons hA
  obtain ⟨v1, vs1, d1, ds1, p1, q1, rfl, rfl, rfl, h1, r1⟩ := trodAll_cons r0
  obtain ⟨v2, vs2, d2, ds2, p2, q2, rfl, rfl, rfl, h2, r2⟩ := trodAll_cons r1
  obtain ⟨v3, vs3, d3, ds3, p3, q3, rfl, rfl, rfl, h3, r3⟩ := trodAll_cons r2
  obtain ⟨v4, vs4, d4, ds4, p4, q4, rfl, rfl, rfl, h4, r4⟩ := trodAll_cons r3
  obtain ⟨v5, vs5, d5, ds5, p5, q5, rfl, rfl, rfl, h5, r5⟩ := trodAll_cons r4
  obtain ⟨v6, vs6, d6, ds6, p6, q6, rfl, rfl, rfl, h6, r6⟩ := trodAll_cons r5
  obtain ⟨rfl, rfl, rfl⟩ := trodAll_nil r6
  obtain rfl : args = #[v0, v1, v2, v3, v4, v5, v6] := by cases args; simp_all
  obtain ⟨rfl, rfl⟩ := trodVars_none hV
  have k0 := h0
  have lt0 : ∀ x ∈ p0, x.block < W.heap.size := by obtain ⟨m, hm⟩ := k0; exact DataW.trod_lt m _ _ _ hm
  obtain ⟨A0, l0, c0, rfl⟩ := okWide_slice Try.underlying44 (hval 0 44 v0 rfl rfl)
  obtain ⟨x0, rfl, L0, C0, O0⟩ : ∃ xs, l0 = xs.length ∧ l0 ≤ c0 ∧ (PBallotCounts.k32).C W A0 xs.length xs ∧ ∀ y ∈ xs, (fun b => (Lit.int .i64 b.f0).wf = true ∧ True) y := by obtain ⟨fuel, hf⟩ := h0; exact LOpen.row_of_open Try.underlying44 (oReply) hf
  have k1 := h1
  have lt1 : ∀ x ∈ p1, x.block < W.heap.size := by obtain ⟨m, hm⟩ := k1; exact DataW.trod_lt m _ _ _ hm
  obtain ⟨A1, l1, c1, rfl⟩ := okWide_slice Try.underlying44 (hval 1 44 v1 rfl rfl)
  obtain ⟨x1, rfl, L1, C1, O1⟩ : ∃ xs, l1 = xs.length ∧ l1 ≤ c1 ∧ (PBallotCounts.k32).C W A1 xs.length xs ∧ ∀ y ∈ xs, (fun b => (Lit.int .i64 b.f0).wf = true ∧ True) y := by obtain ⟨fuel, hf⟩ := h1; exact LOpen.row_of_open Try.underlying44 (oReply) hf
  obtain ⟨a2, rfl, rfl, rfl, w2⟩ := open_int Try.underlying3 (hval 2 3 v2 rfl rfl) h2
  obtain ⟨a3, rfl, rfl, rfl, w3⟩ := open_int Try.underlying3 (hval 3 3 v3 rfl rfl) h3
  obtain ⟨a4, rfl, rfl, rfl, w4⟩ := open_int Try.underlying3 (hval 4 3 v4 rfl rfl) h4
  obtain ⟨a5, rfl, rfl, rfl, w5⟩ := open_int Try.underlying3 (hval 5 3 v5 rfl rfl) h5
  obtain ⟨a6, rfl, rfl, rfl, w6⟩ := open_int Try.underlying3 (hval 6 3 v6 rfl rfl) h6
  clear hA0 hval0 hsz0
  refine (Meets.meets_walk A0 c0 x0 A1 c1 x1 a2 a3 a4 a5 a6 W C0 L0 (fun p hp => bd (O0 p hp).1) C1 L1 (fun p hp => bd (O1 p hp).1) (bd w2).2).mono fun e W' ⟨he, bel⟩ => ?_
  subst he
  exact ⟨_, rfl, _, _, _, [], _, [], hW', trodAll_mk1 (shut_bool Try.underlying4 _), (trodAll_cons_mk (Below.trod laidOut (by kernel_rfl) (of_decide_eq_true (by kernel_rfl)) k0 bel lt0) (trodAll_cons_mk (Below.trod laidOut (by kernel_rfl) (of_decide_eq_true (by kernel_rfl)) k1 bel lt1) (trodAll_cons_mk (shut_int Try.underlying3 w2) (trodAll_cons_mk (shut_int Try.underlying3 w3) (trodAll_cons_mk (shut_int Try.underlying3 w4) (trodAll_cons_mk (shut_int Try.underlying3 w5) (trodAll_cons_mk (shut_int Try.underlying3 w6) trodAll_mk0))))))), rfl, bel.frame _, fun h => by cases h⟩
theorem over : Rows.ballotMeetsRow.holds Try.pinned (OpenSpec.ofChange Rows.ballotMeetsSpec) :=
  OpenClaim.holds_of_wide 8 Try.f8 rfl rfl rfl rfl rfl rfl rfl ⟨rfl, rfl, rfl, rfl, rfl⟩ rfl rfl rfl rfl rfl (by kernel_rfl) Try.func8 (by kernel_rfl)
    (of_decide_eq_true (by kernel_rfl)) (by unfold Func.isWrapper; first | (rw [if_pos (by decide +kernel)]; kernel_rfl) | (rw [if_neg (by decide +kernel)]; exact ⟨rfl, rfl⟩))
    (fun os started H enc _ => lifted os started H enc)
theorem proved : Rows.BallotMeetsSaid := over
#print axioms proved
end Go.Proofs.Ytdeejdjekjdgpaa.ballotMeetsRow
namespace Go.Proofs.Ytdeejdjekjdgpaa
/-- The row, under a short name, for the claim. -/
theorem ballotMeets_holds : Rows.BallotMeetsSaid := ballotMeetsRow.proved
end Go.Proofs.Ytdeejdjekjdgpaa
