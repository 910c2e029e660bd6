/- PROVED: the given statement Rows.TapePlaysSaid: whatever is called in whatever order, also behind crashes and where the power goes, a tape answers as the document says. No condition. -/
import Derived.Test.YtbccjamcfodeiaaRows
import Derived.Test.YtbccjamcfodeiaaTapePlays
import Derived.Test.YtbccjamcfodeiaaLOpen
import Derived.WalkKit
import Derived.ProofKit
import Derived.OpenShut
import Derived.ShutString
import Derived.ChangeOld
import Derived.Below
import Derived.SizedLaws
import Derived.Lib.SmallJoins
namespace Go.Proofs.Ytbccjamcfodeiaa.tapePlaysRow
open Go.ChangeShapes Go.WideShapes Go.ChangeAt Go.RowKit Go.Joins
open Go.ChangeMaps (open_string shut_string)
open Go.Proofs.YtbccjamcfodeiaaW.PrintWords
open Go.Proofs.Ytbccjamcfodeiaa.PTapePlays
open Go.Proofs.Ytbccjamcfodeiaa.TapeP
set_option linter.unusedVariables false
theorem own : ownKnob Try.prog.godebug = none := by kernel_rfl
theorem laidOut : laidOutB Try.prog = true := by kernel_rfl
theorem o8 : LOpen.Opens Try.prog 5 (Kd.int .u8) (fun n => (Lit.int .u8 n).wf = true) := LOpen.opens_int Try.underlying5 (by kernel_rfl)
theorem oI : LOpen.Opens Try.prog 3 (Kd.int .i64) (fun n => (Lit.int .i64 n).wf = true) := LOpen.opens_int Try.underlying3 (by kernel_rfl)
theorem oBytes : LOpen.Opens Try.prog 28 (Kd.slice 5 (Kd.int .u8)) (fun l => ∀ y ∈ l, (Lit.int .u8 y).wf = true) := LOpen.opens_slice Try.underlying28 (by kernel_rfl) o8
theorem oInts : LOpen.Opens Try.prog 34 (Kd.slice 3 (Kd.int .i64)) (fun l => ∀ y ∈ l, (Lit.int .i64 y).wf = true) := LOpen.opens_slice Try.underlying34 (by kernel_rfl) oI
theorem bd {a : Int} (h : (Lit.int .i64 a).wf = true) : -9223372036854775808 ≤ a ∧ a ≤ 9223372036854775807 := by
  simp [Lit.wf, IntKind.min, IntKind.max, IntKind.signed, IntKind.bits] at h
  omega
theorem bd8 {l : List Int} (h : ∀ y ∈ l, (Lit.int .u8 y).wf = true) : ∀ x ∈ l, 0 ≤ x ∧ x < 256 := by
  intro x hx
  have := h x hx
  simp [Lit.wf, IntKind.min, IntKind.max, IntKind.signed, IntKind.bits] at this
  omega
theorem oCall : LOpen.Opens Try.prog 45 k45 okC :=
  LOpen.opens_iso (fun x : S45 => (x.f0, x.f1, x.f2, x.f3, x.f4)) (fun a => ⟨a.1, a.2.1, a.2.2.1, a.2.2.2.1, a.2.2.2.2⟩) (fun _ => rfl) (LOpen.opens_struct Try.underlying45 (by kernel_rfl) (LOpen.opens_cons rfl oI (LOpen.opens_cons rfl oI (LOpen.opens_cons rfl oI (LOpen.opens_cons rfl oBytes (LOpen.opens_last rfl oInts))))))
set_option maxRecDepth 100000 in
theorem lifted (os : Os) (started : os.Started) (H : Type) (enc : TypeId × Value → H) :
    ReturnsInHanded {} Try.checked os 7 .any (Rows.tapePlaysSpec.pre6 enc Try.prog Try.f7 Rows.tapePlaysRow.domain false) (Rows.tapePlaysSpec.post enc Try.prog Try.f7 false true false false) := by
  refine returnsInHanded_of_change_sized (C := Try.checked) own started (by kernel_rfl) Try.func7
    (ChangeSpec.witness6 (enc := enc) (C := Try.checked) false ⟨#[], #[.slice none 0 0], []⟩ 8 (by kernel_rfl) (by kernel_rfl) (by kernel_rfl) (by kernel_rfl)) ?_
  intro W base args ds gs before hval0 hW hcnd hsz0 _
  have hsz : (DataW.weightsEach Try.prog (Try.f7.params.toList ++ Rows.tapePlaysSpec.plain.varTypes Try.prog) (ds ++ gs)).all (· ≤ reachBytes) = true := hsz0
  have hval : ∀ (j : Nat) t v, Try.f7.params[j]? = some t → args[j]? = some v → Value.okWide Try.prog W .any base t v := hval0
  have hW' := hW
  obtain ⟨p, q, hA0, hV, rfl, hfz, hnd⟩ := hW
  have hA : DataW.TrodAll enc Try.prog W 0 (fun _ => true) true Try.f7.params.toList args.toList ds p := hA0
  rw [Try.params7] at hA hval hsz
  obtain ⟨v0, vs0, d0, ds0, p0, q0, hargs, rfl, rfl, h0, r0⟩ := trodAll_cons hA
  obtain ⟨rfl, rfl, rfl⟩ := trodAll_nil r0
  obtain rfl : args = #[v0] := by cases args; simp_all
  obtain ⟨rfl, rfl⟩ := trodVars_none hV
  have k0 := h0
  have lt0 : ∀ x ∈ p0, x.block < W.heap.size := by obtain ⟨m, hm⟩ := k0; exact DataW.trod_lt m _ _ _ hm
  obtain ⟨A0, l0, c0, rfl⟩ := okWide_slice Try.underlying32 (hval 0 32 v0 rfl rfl)
  obtain ⟨x0, rfl, L0, C0, O0⟩ : ∃ xs, l0 = xs.length ∧ l0 ≤ c0 ∧ (k45).C W A0 xs.length xs ∧ ∀ y ∈ xs, (okC) y := by obtain ⟨fuel, hf⟩ := h0; exact LOpen.row_of_open Try.underlying32 (oCall) hf
  clear hA0 hval0 hsz0
  refine (TapePlays.plays_walk A0 c0 x0 W C0 L0 O0).mono fun e W' ⟨he, bel⟩ => ?_
  subst he
  exact ⟨_, rfl, _, _, _, [], _, [], hW', trodAll_mk1 (shut_bool Try.underlying4 _), (trodAll_cons_mk (Below.trod laidOut (by kernel_rfl) (of_decide_eq_true (by kernel_rfl)) k0 bel lt0) trodAll_mk0), rfl, bel.frame _, fun h => by cases h⟩
theorem over : Rows.tapePlaysRow.holds Try.pinned (OpenSpec.ofChange Rows.tapePlaysSpec) :=
  OpenClaim.holds_of_wide 7 Try.f7 rfl rfl rfl rfl rfl rfl rfl ⟨rfl, rfl, rfl, rfl, rfl⟩ rfl rfl rfl rfl rfl (by kernel_rfl) Try.func7 (by kernel_rfl)
    (of_decide_eq_true (by kernel_rfl)) (by unfold Func.isWrapper; first | (rw [if_pos (by decide +kernel)]; kernel_rfl) | (rw [if_neg (by decide +kernel)]; exact ⟨rfl, rfl⟩))
    (fun os started H enc _ => lifted os started H enc)
theorem proved : Rows.TapePlaysSaid := over
#print axioms proved
end Go.Proofs.Ytbccjamcfodeiaa.tapePlaysRow
namespace Go.Proofs.Ytbccjamcfodeiaa
/-- The row, under a short name, for the claim. -/
theorem tapePlays_holds : Rows.TapePlaysSaid := tapePlaysRow.proved
end Go.Proofs.Ytbccjamcfodeiaa
