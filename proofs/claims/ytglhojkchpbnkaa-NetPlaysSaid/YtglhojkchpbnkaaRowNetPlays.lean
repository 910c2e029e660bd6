/- PROVED: the given statement Rows.NetPlaysSaid: whatever is called, in whatever order, a net answers as the document says. No condition. -/
import Derived.Test.YtglhojkchpbnkaaRows
import Derived.Test.YtglhojkchpbnkaaNetPlays
import Derived.Test.YtglhojkchpbnkaaLOpen
import Derived.WalkKit
import Derived.ProofKit
import Derived.OpenShut
import Derived.ShutString
import Derived.ChangeOld
import Derived.Below
import Derived.SizedLaws
import Derived.Lib.SmallJoins
namespace Go.Proofs.Ytglhojkchpbnkaa.netPlaysRow
open Go.ChangeShapes Go.WideShapes Go.ChangeAt Go.RowKit Go.Joins
open Go.ChangeMaps (open_string shut_string)
open Go.Proofs.YtglhojkchpbnkaaW.PrintWords
open Go.Proofs.Ytglhojkchpbnkaa.PNetPlays
set_option linter.unusedVariables false
theorem own : ownKnob Try.prog.godebug = none := by kernel_rfl
theorem laidOut : laidOutB Try.prog = true := by kernel_rfl
theorem o8 : LOpen.Opens Try.prog 5 (Kd.int .u8) (fun n => (Lit.int .u8 n).wf = true) := LOpen.opens_int Try.underlying5 (by kernel_rfl)
theorem oBytes : LOpen.Opens Try.prog 27 (Kd.slice 5 (Kd.int .u8)) (fun l => ∀ y ∈ l, (Lit.int .u8 y).wf = true) := LOpen.opens_slice Try.underlying27 (by kernel_rfl) o8
theorem bd {a : Int} (h : (Lit.int .i64 a).wf = true) : -9223372036854775808 ≤ a ∧ a ≤ 9223372036854775807 := by
  simp [Lit.wf, IntKind.min, IntKind.max, IntKind.signed, IntKind.bits] at h
  omega
theorem oI : LOpen.Opens Try.prog 3 (Kd.int .i64) (fun n => (Lit.int .i64 n).wf = true) := LOpen.opens_int Try.underlying3 (by kernel_rfl)
theorem oMail : LOpen.Opens Try.prog 29 k29 (fun _ => True) :=
  LOpen.opens_true (LOpen.opens_iso (fun x : S29 => (x.f0, x.f1, x.f2)) (fun a => ⟨a.1, a.2.1, a.2.2⟩) (fun _ => rfl) (LOpen.opens_struct Try.underlying29 (by kernel_rfl) (LOpen.opens_cons rfl oI (LOpen.opens_cons rfl oI (LOpen.opens_last rfl oBytes)))))
theorem oCall : LOpen.Opens Try.prog 50 k50 (fun _ => True) :=
  LOpen.opens_true (LOpen.opens_iso (fun x : S50 => (x.f0, x.f1, x.f2, x.f3, x.f4)) (fun a => ⟨a.1, a.2.1, a.2.2.1, a.2.2.2.1, a.2.2.2.2⟩) (fun _ => rfl) (LOpen.opens_struct Try.underlying50 (by kernel_rfl) (LOpen.opens_cons rfl oI (LOpen.opens_cons rfl oI (LOpen.opens_cons rfl oI (LOpen.opens_cons rfl o8 (LOpen.opens_last rfl oMail)))))))
set_option maxRecDepth 100000 in
theorem lifted (os : Os) (started : os.Started) (H : Type) (enc : TypeId × Value → H) :
    ReturnsInHanded {} Try.checked os 6 .any (Rows.netPlaysSpec.pre6 enc Try.prog Try.f6 Rows.netPlaysRow.domain false) (Rows.netPlaysSpec.post enc Try.prog Try.f6 false true false false) := by
  refine returnsInHanded_of_change_sized (C := Try.checked) own started (by kernel_rfl) Try.func6
    (ChangeSpec.witness6 (enc := enc) (C := Try.checked) false ⟨#[], #[.slice none 0 0], []⟩ 8 (by kernel_rfl) (by kernel_rfl) (by kernel_rfl) (by kernel_rfl)) ?_
  intro W base args ds gs before hval0 hW hcnd hsz0 _
  have hsz : (DataW.weightsEach Try.prog (Try.f6.params.toList ++ Rows.netPlaysSpec.plain.varTypes Try.prog) (ds ++ gs)).all (· ≤ reachBytes) = true := hsz0
  have hval : ∀ (j : Nat) t v, Try.f6.params[j]? = some t → args[j]? = some v → Value.okWide Try.prog W .any base t v := hval0
  have hW' := hW
  obtain ⟨p, q, hA0, hV, rfl, hfz, hnd⟩ := hW
  have hA : DataW.TrodAll enc Try.prog W 0 (fun _ => true) true Try.f6.params.toList args.toList ds p := hA0
  rw [Try.params6] at hA hval hsz
  obtain ⟨v0, vs0, d0, ds0, p0, q0, hargs, rfl, rfl, h0, r0⟩ := trodAll_cons hA
  obtain ⟨rfl, rfl, rfl⟩ := trodAll_nil r0
  obtain rfl : args = #[v0] := by cases args; simp_all
  obtain ⟨rfl, rfl⟩ := trodVars_none hV
  have k0 := h0
  have lt0 : ∀ x ∈ p0, x.block < W.heap.size := by obtain ⟨m, hm⟩ := k0; exact DataW.trod_lt m _ _ _ hm
  obtain ⟨A0, l0, c0, rfl⟩ := okWide_slice Try.underlying44 (hval 0 44 v0 rfl rfl)
  obtain ⟨x0, rfl, L0, C0, O0⟩ : ∃ xs, l0 = xs.length ∧ l0 ≤ c0 ∧ (k50).C W A0 xs.length xs ∧ ∀ y ∈ xs, (fun _ => True) y := by obtain ⟨fuel, hf⟩ := h0; exact LOpen.row_of_open Try.underlying44 (oCall) hf
  clear hA0 hval0 hsz0
  refine (NetPlays.plays_walk A0 c0 x0 W C0 L0).mono fun e W' ⟨he, bel⟩ => ?_
  subst he
  exact ⟨_, rfl, _, _, _, [], _, [], hW', trodAll_mk1 (shut_bool Try.underlying4 _), (trodAll_cons_mk (Below.trod laidOut (by kernel_rfl) (of_decide_eq_true (by kernel_rfl)) k0 bel lt0) trodAll_mk0), rfl, bel.frame _, fun h => by cases h⟩
theorem over : Rows.netPlaysRow.holds Try.pinned (OpenSpec.ofChange Rows.netPlaysSpec) :=
  OpenClaim.holds_of_wide 6 Try.f6 rfl rfl rfl rfl rfl rfl rfl ⟨rfl, rfl, rfl, rfl, rfl⟩ rfl rfl rfl rfl rfl (by kernel_rfl) Try.func6 (by kernel_rfl)
    (of_decide_eq_true (by kernel_rfl)) (by unfold Func.isWrapper; first | (rw [if_pos (by decide +kernel)]; kernel_rfl) | (rw [if_neg (by decide +kernel)]; exact ⟨rfl, rfl⟩))
    (fun os started H enc _ => lifted os started H enc)
theorem proved : Rows.NetPlaysSaid := over
#print axioms proved
end Go.Proofs.Ytglhojkchpbnkaa.netPlaysRow
namespace Go.Proofs.Ytglhojkchpbnkaa
/-- The row, under a short name, for the claim. -/
theorem netPlays_holds : Rows.NetPlaysSaid := netPlaysRow.proved
end Go.Proofs.Ytglhojkchpbnkaa
