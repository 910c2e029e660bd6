/- PROVED: the law WireNil: the walk. No condition. -/
import Derived.Test.YtnkaalapjlmmiaaWireD
import Derived.Test.YtnkaalapjlmmiaaLRead
import Derived.Test.YtnkaalapjlmmiaaWApart
import Derived.WalkKit
import Derived.WalkSpells
import Derived.WalkLawsBesides
import Derived.WalkMore
import Derived.Outline
import Derived.Lib.Hide
import Derived.BigQuiet
import Derived.Deep.QuietTactic
import Derived.Deep.RegionHeld3
import Derived.Deep.RegionLaw
import Derived.Deep.LoopGhost
import Derived.Deep.DeepCutAuto
namespace Go.Proofs.Ytnkaalapjlmmiaa.WireNil
open Go.RowKit Go.Proofs.Ytnkaalapjlmmiaa.PWireWrites Go.Proofs.Ytnkaalapjlmmiaa.WirePure Go.Proofs.YtnkaalapjlmmiaaW.PrintWords Go.Proofs.YtnkaalapjlmmiaaW.PrintLast Go.Proofs.YtnkaalapjlmmiaaW.PrintMore
open Go.Proofs.Ytnkaalapjlmmiaa.WireW (slice_at cell_below num_ok text_ok list_ok)
open Go.Proofs.Ytnkaalapjlmmiaa.WireR Go.Proofs.Ytnkaalapjlmmiaa.WireR2 Go.Proofs.Ytnkaalapjlmmiaa.WireR3
open Go.Proofs.Ytnkaalapjlmmiaa.WireT Go.Proofs.Ytnkaalapjlmmiaa.WireD
set_option linter.unusedSimpArgs false
set_option linter.unusedVariables false
set_option maxHeartbeats 4000000 in
set_option maxRecDepth 100000 in
theorem nil_walk (n : Int) (w : World) : Calls Try.prog 9 #[.int .i64 n] w fun e w' => e = .returned (.bool true) ∧ Below w.heap.size w w' := by
  have hq : ∀ W : World, (binOp .eql 51 (.agg #[.int .u8 0, .int .u8 0, .int .u8 0, .int .u8 0, .int .u8 0, .int .u8 0, .int .u8 0, .int .u8 0, .int .u8 0, .int .u8 0, .int .u8 0, .int .u8 0, .int .u8 0, .int .u8 0, .int .u8 0, .int .u8 0, .int .u8 0, .int .u8 0, .int .u8 0, .int .u8 0, .int .u8 0, .int .u8 0, .int .u8 0, .int .u8 0, .int .u8 0, .int .u8 0, .int .u8 0, .int .u8 0, .int .u8 0, .int .u8 0, .int .u8 0, .int .u8 0]) (.agg #[.int .u8 0, .int .u8 0, .int .u8 0, .int .u8 0, .int .u8 0, .int .u8 0, .int .u8 0, .int .u8 0, .int .u8 0, .int .u8 0, .int .u8 0, .int .u8 0, .int .u8 0, .int .u8 0, .int .u8 0, .int .u8 0, .int .u8 0, .int .u8 0, .int .u8 0, .int .u8 0, .int .u8 0, .int .u8 0, .int .u8 0, .int .u8 0, .int .u8 0, .int .u8 0, .int .u8 0, .int .u8 0, .int .u8 0, .int .u8 0, .int .u8 0, .int .u8 0])).run Try.prog W = .ok (.bool true) W := fun W => by kernel_rfl
  have HB := Lib.hid (Below.refl w.heap.size w)
  go_enter Try.func9, Try.ntmps9
  go_wp2_with (first | ((with_reducible go_at_call 22); go_must (refine (num_nil_ _ _).mono ?_; rintro e w' ⟨rfl, rfl⟩)) | ((with_reducible go_at_call 25); go_must (refine (text_nil_ _ _).mono ?_; rintro e w' ⟨rfl, rfl⟩)) | ((with_reducible go_at_call 24); go_must (refine (list_nil_ _ _ _).mono ?_; rintro e w' ⟨rfl, rfl⟩)) | ((with_reducible go_at_call 32); go_must (refine (byte_nil_ _).mono ?_; rintro e w' ⟨rfl, rfl⟩)) | ((with_reducible go_at_call 34); go_must (refine (digest_nil _).mono ?_; rw [show (c8 (List.replicate 32 0)).toArray = (#[.int .u8 0, .int .u8 0, .int .u8 0, .int .u8 0, .int .u8 0, .int .u8 0, .int .u8 0, .int .u8 0, .int .u8 0, .int .u8 0, .int .u8 0, .int .u8 0, .int .u8 0, .int .u8 0, .int .u8 0, .int .u8 0, .int .u8 0, .int .u8 0, .int .u8 0, .int .u8 0, .int .u8 0, .int .u8 0, .int .u8 0, .int .u8 0, .int .u8 0, .int .u8 0, .int .u8 0, .int .u8 0, .int .u8 0, .int .u8 0, .int .u8 0, .int .u8 0] : Array Value) from rfl]; rintro e w' ⟨rfl, hb⟩; have hb_ := below_step HB.out hb; clear HB; have HB := Lib.hid hb_; clear hb_ hb)) | ((with_reducible go_at_call 27); go_must (refine (left_nil _).mono ?_; rintro e w' ⟨rfl, rfl⟩)) | ((with_reducible go_at_call 26); go_must (refine (err_nil _).mono ?_; rintro e w' ⟨rfl, rfl⟩)) | ((with_reducible go_at_call 28); go_must (refine (end_nil _).mono ?_; rintro e w' ⟨rfl, rfl⟩)) | ((with_reducible go_at_call 11); go_must (refine (awake_ok _).mono ?_; rintro e w' ⟨rfl, hb⟩; have hb_ := below_step HB.out hb; clear HB; have HB := Lib.hid hb_; clear hb_ hb)))
  go_ret
  exact ⟨rfl, HB.out⟩
end Go.Proofs.Ytnkaalapjlmmiaa.WireNil
