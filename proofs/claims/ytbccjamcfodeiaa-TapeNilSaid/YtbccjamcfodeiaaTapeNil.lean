/- PROVED: the law TapeNil: the walk. No condition. -/
import Derived.Test.YtbccjamcfodeiaaTapeW
import Derived.Test.YtbccjamcfodeiaaLRead
import Derived.Test.YtbccjamcfodeiaaWApart
import Derived.Test.YtbccjamcfodeiaaWKept
import Derived.WalkKit
import Derived.WalkSpells
import Derived.WalkLawsBesides
import Derived.WalkMore
import Derived.Outline
import Derived.Lib.Hide
import Derived.BigQuiet
import Derived.Deep.QuietTactic
import Derived.Deep.RegionHeld3
import Derived.Deep.RegionLaw
import Derived.Deep.LoopGhost
import Derived.Deep.DeepCutAuto
namespace Go.Proofs.Ytbccjamcfodeiaa.TapeNil
open Go.RowKit Go.Proofs.Ytbccjamcfodeiaa.PTapePlays Go.Proofs.YtbccjamcfodeiaaW.PrintWords Go.Proofs.YtbccjamcfodeiaaW.PrintLast Go.Proofs.YtbccjamcfodeiaaW.PrintMore
open Go.Proofs.Ytbccjamcfodeiaa.Tape Go.Proofs.Ytbccjamcfodeiaa.Tape2 Go.Proofs.Ytbccjamcfodeiaa.Tape3 Go.Proofs.Ytbccjamcfodeiaa.Tape4 Go.Proofs.Ytbccjamcfodeiaa.Tape5 Go.Proofs.Ytbccjamcfodeiaa.Tape6 Go.Proofs.Ytbccjamcfodeiaa.Tape7 Go.Proofs.Ytbccjamcfodeiaa.Tape8 Go.Proofs.Ytbccjamcfodeiaa.Tape9
open Go.Proofs.Ytbccjamcfodeiaa.TapeW
set_option linter.unusedSimpArgs false
set_option linter.unusedVariables false
set_option maxHeartbeats 4000000 in
set_option maxRecDepth 100000 in
theorem nil_walk (file n : Int) (A B : Option Addr) (cb nk ck : Nat) (b : List Int) (w : World) (hC : Kd.C (Kd.int .u8) w A b.length b) (hcap : b.length ≤ cb) (hb : b.length ≤ 140737488355327) :
    Calls Try.prog 9 #[.int .i64 file, .int .i64 n, .slice A b.length cb, .slice B nk ck] w fun e w' => e = .returned (.bool true) ∧ Below w.heap.size w w' := by
  have HB := Lib.hid (Below.refl w.heap.size w)
  have HC := Lib.hid hC
  have ho : juratlaw10_own.f b = some b := by
    show (if ([] : List Int).length + b.length < 140737488355328 then some ([] ++ b) else none) = some b
    rw [if_pos (by simp; omega)]; rfl
  have HO := Lib.hid ho
  clear hC ho
  go_enter Try.func9, Try.ntmps9
  go_wp2_with (first | ((with_reducible go_at_call 28); go_must (refine (fuse_nil _ _).mono ?_; rintro e w' ⟨rfl, rfl⟩)) | ((with_reducible go_at_call 14); go_must (refine (read_nil _ _).mono ?_; rintro e w' ⟨rfl, rfl⟩)) | ((with_reducible go_at_call 18); go_must (refine (juratlaw10_own.calls _ _ _ _ _ (Kd.C_below HC.out HB.out) hcap HO.out).mono ?_; rintro e w1 ⟨v, rfl, hR, hb⟩; obtain ⟨Av, cv, rfl⟩ := Kd.R_slice hR; clear hR; have hb_ := below_step HB.out hb; clear HB; have HB := Lib.hid hb_; clear hb_ hb)) | ((with_reducible go_at_call 13); go_must (refine (append_nil _ _ _ _ _).mono ?_; rintro e w' ⟨rfl, rfl⟩)) | ((with_reducible go_at_call 22); go_must (refine (cut_nil _ _ _).mono ?_; rintro e w' ⟨rfl, rfl⟩)) | ((with_reducible go_at_call 17); go_must (refine (sync_nil _ _).mono ?_; rintro e w' ⟨rfl, rfl⟩)) | ((with_reducible go_at_call 21); go_must (refine (open_nil _ _).mono ?_; rintro e w' ⟨rfl, rfl⟩)) | ((with_reducible go_at_call 26); go_must (refine (down_nil _).mono ?_; rintro e w' ⟨rfl, rfl⟩)) | ((with_reducible go_at_call 19); go_must (refine (crash_nil _ _ _ _).mono ?_; rintro e w' ⟨rfl, rfl⟩)) | ((with_reducible go_at_call 11); go_must (refine (awake_ok _).mono ?_; rintro e w1 ⟨rfl, hb⟩; have hb_ := below_step HB.out hb; clear HB; have HB := Lib.hid hb_; clear hb_ hb)))
  go_ret
  exact ⟨rfl, HB.out⟩
end Go.Proofs.Ytbccjamcfodeiaa.TapeNil
