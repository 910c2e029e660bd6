/- PROVED: the given statement Rows.LeaseTellsSaid: whatever a replica is told, at whatever times, it answers and sends what the document says. No condition. -/
import Derived.Test.YtpgmfjpjjnpiiaaRows
import Derived.Test.YtpgmfjpjjnpiiaaBLeaseTells
import Derived.Test.YtpgmfjpjjnpiiaaBLOpen
import Derived.WalkKit
import Derived.ProofKit
import Derived.OpenShut
import Derived.ShutString
import Derived.ChangeOld
import Derived.Below
import Derived.SizedLaws
import Derived.Lib.SmallJoins
namespace Go.Proofs.Ytpgmfjpjjnpiiaa.leaseTellsRow
open Go.ChangeShapes Go.WideShapes Go.ChangeAt Go.RowKit Go.Joins
open Go.ChangeMaps (open_string shut_string)
open Go.Proofs.YtpgmfjpjjnpiiaaW.PrintWords
open Go.Proofs.Ytpgmfjpjjnpiiaa.PLeaseWakes
set_option linter.unusedVariables false
theorem own : ownKnob Try.prog.godebug = none := by kernel_rfl
theorem laidOut : laidOutB Try.prog = true := by kernel_rfl
theorem oI : LOpen.Opens Try.prog 3 (Kd.int .i64) (fun n => (Lit.int .i64 n).wf = true) := LOpen.opens_int Try.underlying3 (by kernel_rfl)
theorem oB : LOpen.Opens Try.prog 4 Kd.bool (fun _ => True) := LOpen.opens_bool Try.underlying4 (by kernel_rfl)
theorem oAsk : LOpen.Opens Try.prog 34 k34 (fun _ => True) :=
  LOpen.opens_true (LOpen.opens_iso (fun x : S34 => (x.f0, x.f1, x.f2)) (fun a => ⟨a.1, a.2.1, a.2.2⟩) (fun _ => rfl) (LOpen.opens_struct Try.underlying34 (by kernel_rfl) (LOpen.opens_cons rfl oI (LOpen.opens_cons rfl oI (LOpen.opens_last rfl oI)))))
theorem oReply : LOpen.Opens Try.prog 36 k36 (fun _ => True) :=
  LOpen.opens_true (LOpen.opens_iso (fun x : S36 => (x.f0, x.f1, x.f2, x.f3)) (fun a => ⟨a.1, a.2.1, a.2.2.1, a.2.2.2⟩) (fun _ => rfl) (LOpen.opens_struct Try.underlying36 (by kernel_rfl) (LOpen.opens_cons rfl oI (LOpen.opens_cons rfl oB (LOpen.opens_cons rfl oI (LOpen.opens_last rfl oI))))))
theorem oCall : LOpen.Opens Try.prog 65 k38 (fun _ => True) :=
  LOpen.opens_true (LOpen.opens_iso (fun x : S38 => (x.f0, x.f1, x.f2, x.f3)) (fun a => ⟨a.1, a.2.1, a.2.2.1, a.2.2.2⟩) (fun _ => rfl) (LOpen.opens_struct Try.underlying65 (by kernel_rfl) (LOpen.opens_cons rfl oI (LOpen.opens_cons rfl oI (LOpen.opens_cons rfl oAsk (LOpen.opens_last rfl oReply))))))
set_option maxRecDepth 100000 in
theorem lifted (os : Os) (started : os.Started) (H : Type) (enc : TypeId × Value → H) :
    ReturnsInHanded {} Try.checked os 3 .any (Rows.leaseTellsSpec.pre6 enc Try.prog Try.f3 Rows.leaseTellsRow.domain false) (Rows.leaseTellsSpec.post enc Try.prog Try.f3 false true false false) := by
  refine returnsInHanded_of_change_sized (C := Try.checked) own started (by kernel_rfl) Try.func3
    (ChangeSpec.witness6 (enc := enc) (C := Try.checked) false ⟨#[], #[.int .i64 0, .int .i64 0, .int .i64 0, .int .i64 0, .slice none 0 0], []⟩ 8 (by kernel_rfl) (by kernel_rfl) (by kernel_rfl) (by kernel_rfl)) ?_
  intro W base args ds gs before hval0 hW hcnd hsz0 _
  have hsz : (DataW.weightsEach Try.prog (Try.f3.params.toList ++ Rows.leaseTellsSpec.plain.varTypes Try.prog) (ds ++ gs)).all (· ≤ reachBytes) = true := hsz0
  have hval : ∀ (j : Nat) t v, Try.f3.params[j]? = some t → args[j]? = some v → Value.okWide Try.prog W .any base t v := hval0
  have hW' := hW
  obtain ⟨p, q, hA0, hV, rfl, hfz, hnd⟩ := hW
  have hA : DataW.TrodAll enc Try.prog W 0 (fun _ => true) true Try.f3.params.toList args.toList ds p := hA0
  rw [Try.params3] at hA hval hsz
  obtain ⟨v0, vs0, d0, ds0, p0, q0, hargs, rfl, rfl, h0, r0⟩ := trodAll_cons hA
  obtain ⟨v1, vs1, d1, ds1, p1, q1, rfl, rfl, rfl, h1, r1⟩ := trodAll_cons r0
  obtain ⟨v2, vs2, d2, ds2, p2, q2, rfl, rfl, rfl, h2, r2⟩ := trodAll_cons r1
  obtain ⟨v3, vs3, d3, ds3, p3, q3, rfl, rfl, rfl, h3, r3⟩ := trodAll_cons r2
  obtain ⟨v4, vs4, d4, ds4, p4, q4, rfl, rfl, rfl, h4, r4⟩ := trodAll_cons r3
  obtain ⟨rfl, rfl, rfl⟩ := trodAll_nil r4
  obtain rfl : args = #[v0, v1, v2, v3, v4] := by cases args; simp_all
  obtain ⟨rfl, rfl⟩ := trodVars_none hV
  obtain ⟨a0, rfl, rfl, rfl, w0⟩ := open_int Try.underlying3 (hval 0 3 v0 rfl rfl) h0
  obtain ⟨a1, rfl, rfl, rfl, w1⟩ := open_int Try.underlying3 (hval 1 3 v1 rfl rfl) h1
  obtain ⟨a2, rfl, rfl, rfl, w2⟩ := open_int Try.underlying3 (hval 2 3 v2 rfl rfl) h2
  obtain ⟨a3, rfl, rfl, rfl, w3⟩ := open_int Try.underlying3 (hval 3 3 v3 rfl rfl) h3
  have k4 := h4
  have lt4 : ∀ x ∈ p4, x.block < W.heap.size := by obtain ⟨m, hm⟩ := k4; exact DataW.trod_lt m _ _ _ hm
  obtain ⟨A4, l4, c4, rfl⟩ := okWide_slice Try.underlying22 (hval 4 22 v4 rfl rfl)
  obtain ⟨x4, rfl, L4, C4, O4⟩ : ∃ xs, l4 = xs.length ∧ l4 ≤ c4 ∧ (k38).C W A4 xs.length xs ∧ ∀ y ∈ xs, (fun _ => True) y := by obtain ⟨fuel, hf⟩ := h4; exact LOpen.row_of_open Try.underlying22 (oCall) hf
  clear hA0 hval0 hsz0
  refine (LeaseTells.tells_walk a0 a1 a2 a3 A4 c4 x4 W C4 L4).mono fun e W' ⟨he, bel⟩ => ?_
  subst he
  exact ⟨_, rfl, _, _, _, [], _, [], hW', trodAll_mk1 (shut_bool Try.underlying4 _), (trodAll_cons_mk (shut_int Try.underlying3 w0) (trodAll_cons_mk (shut_int Try.underlying3 w1) (trodAll_cons_mk (shut_int Try.underlying3 w2) (trodAll_cons_mk (shut_int Try.underlying3 w3) (trodAll_cons_mk (Below.trod laidOut (by kernel_rfl) (of_decide_eq_true (by kernel_rfl)) k4 bel lt4) trodAll_mk0))))), rfl, bel.frame _, fun h => by cases h⟩
theorem over : Rows.leaseTellsRow.holds Try.pinned (OpenSpec.ofChange Rows.leaseTellsSpec) :=
  OpenClaim.holds_of_wide 3 Try.f3 rfl rfl rfl rfl rfl rfl rfl ⟨rfl, rfl, rfl, rfl, rfl⟩ rfl rfl rfl rfl rfl (by kernel_rfl) Try.func3 (by kernel_rfl)
    (of_decide_eq_true (by kernel_rfl)) (by unfold Func.isWrapper; first | (rw [if_pos (by decide +kernel)]; kernel_rfl) | (rw [if_neg (by decide +kernel)]; exact ⟨rfl, rfl⟩))
    (fun os started H enc _ => lifted os started H enc)
theorem proved : Rows.LeaseTellsSaid := over
#print axioms proved
end Go.Proofs.Ytpgmfjpjjnpiiaa.leaseTellsRow
namespace Go.Proofs.Ytpgmfjpjjnpiiaa
/-- The row, under a short name, for the claim. -/
theorem leaseTells_holds : Rows.LeaseTellsSaid := leaseTellsRow.proved
end Go.Proofs.Ytpgmfjpjjnpiiaa
