/- PROVED: lemmas that the row uses (cut copies of my texts and of the printed ones). No condition beyond what each line says. -/
import Derived.Test.YtpgmfjpjjnpiiaaBRLeaseC
import Derived.Test.YtpgmfjpjjnpiiaaBRLeaseD
import Derived.Test.YtpgmfjpjjnpiiaaBRLeaseE
import Derived.Test.YtpgmfjpjjnpiiaaBRLeaseG
import Derived.Test.YtpgmfjpjjnpiiaaBLeaseQ
import Derived.Test.YtpgmfjpjjnpiiaaBRLeaseH
import Derived.Test.YtpgmfjpjjnpiiaaBRLeaseP
import Derived.Test.YtpgmfjpjjnpiiaaBRLeaseF
import Derived.Test.YtpgmfjpjjnpiiaaBRLeaseB
import Derived.Test.YtpgmfjpjjnpiiaaBRLeaseA
import Derived.Test.YtpgmfjpjjnpiiaaBLeaseO
import Derived.Test.YtpgmfjpjjnpiiaaBLeaseM
import Derived.Test.YtpgmfjpjjnpiiaaBLeaseN
import Derived.Test.YtpgmfjpjjnpiiaaBXA
import Derived.Test.YtpgmfjpjjnpiiaaBLeaseE
import Derived.Test.YtpgmfjpjjnpiiaaBLeaseK
import Derived.Test.YtpgmfjpjjnpiiaaBWAll
import Derived.WalkKit
import Derived.WalkSpells
import Derived.WalkLawsBesides
import Derived.Outline
import Derived.Lib.Hide
import Derived.Deep.LoopGhost
import Derived.Deep.RegionHeld3
import Derived.Deep.DeepCutAuto
import Derived.Deep.RegionLaw
import Derived.BigQuiet
import Derived.Deep.QuietTactic
namespace Go.Proofs.Ytpgmfjpjjnpiiaa.LeaseWakes
open Go.RowKit Go.Proofs.Ytpgmfjpjjnpiiaa.PLeaseWakes Go.Proofs.YtpgmfjpjjnpiiaaW.PrintWords Go.Proofs.YtpgmfjpjjnpiiaaW.PrintLast Go.Proofs.YtpgmfjpjjnpiiaaW.PrintMore
attribute [local go_sem] max2_int min2_int max_two min_two max_three min_three max_four min_four
set_option linter.unusedSimpArgs false
set_option linter.unusedVariables false
open Go.Proofs.Ytpgmfjpjjnpiiaa.LeaseA
open Go.Proofs.Ytpgmfjpjjnpiiaa.LeaseB Go.Proofs.Ytpgmfjpjjnpiiaa.LeaseC Go.Proofs.Ytpgmfjpjjnpiiaa.LeaseD Go.Proofs.Ytpgmfjpjjnpiiaa.LeaseH Go.Proofs.Ytpgmfjpjjnpiiaa.LeaseJ Go.Proofs.Ytpgmfjpjjnpiiaa.LeaseK
open Go.Proofs.Ytpgmfjpjjnpiiaa.LeaseL Go.Proofs.Ytpgmfjpjjnpiiaa.LeaseM Go.Proofs.Ytpgmfjpjjnpiiaa.LeaseN Go.Proofs.Ytpgmfjpjjnpiiaa.LeaseG Go.Proofs.Ytpgmfjpjjnpiiaa.LeaseF Go.Proofs.Ytpgmfjpjjnpiiaa.LeaseI
open Go.Proofs.Ytpgmfjpjjnpiiaa.LeaseO
open Go.Proofs.Ytpgmfjpjjnpiiaa.RLeaseA
open Go.Proofs.Ytpgmfjpjjnpiiaa.RLeaseB
open Go.Proofs.Ytpgmfjpjjnpiiaa.RLeaseF
open Go.Proofs.Ytpgmfjpjjnpiiaa.RLeaseC Go.Proofs.Ytpgmfjpjjnpiiaa.RLeaseD Go.Proofs.Ytpgmfjpjjnpiiaa.RLeaseE Go.Proofs.Ytpgmfjpjjnpiiaa.RLeaseG Go.Proofs.Ytpgmfjpjjnpiiaa.LeaseQ
open Go.Proofs.Ytpgmfjpjjnpiiaa.RLeaseH
open Go.Proofs.Ytpgmfjpjjnpiiaa.RLeaseP
set_option maxHeartbeats 4000000 in
set_option maxRecDepth 100000 in
theorem wakes_walk (me n l d ep now : Int) (A : Option Addr) (cap : Nat) (xs : List S38) (w : World) (hC : Kd.C k38 w A xs.length xs) (hcap : xs.length ≤ cap) :
    Calls Try.prog 5 #[.int .i64 me, .int .i64 n, .int .i64 l, .int .i64 d, .int .i64 ep, .int .i64 now, .slice A xs.length cap] w fun e w' => e = .returned (.bool true) ∧ Below w.heap.size w w' := by
  have HB := Lib.hid (Below.refl w.heap.size w)
  have HC := Lib.hid hC
  have HY0 := Lib.hid (Apt.none_ w.heap.size w)
  clear hC
  by_cases hl : xs.length ≤ 100
  rotate_left
  · have hl' : (100 : Int) < xs.length := by omega
    go_enter Try.func5, Try.ntmps5
    go_wp2_with (first | ((with_reducible go_at_call 6); go_must (refine (awake_ok _).mono ?_; rintro e w1 ⟨rfl, hb⟩; have hb_ := HB.out.trans (hb.mono HB.out.size); clear HB; have HB := Lib.hid hb_; clear hb_ hb)))
    go_ret
    exact ⟨rfl, HB.out⟩
  have hl' : ((xs.length : Int)) ≤ 100 := by omega
  obtain ⟨b, hb⟩ : ∃ y, goodB me n l d = y := ⟨_, rfl⟩
  rcases b with _ | _
  · have hr := (right16_is me n l d).trans (congrArg some hb)
    go_enter Try.func5, Try.ntmps5
    go_wp2_with (first | ((with_reducible go_at_call 16); go_must (refine (wake_far me n l d ep now _ hb).mono ?_; rintro e w1 ⟨rfl, hb⟩; have hb_ := HB.out.trans (hb.mono HB.out.size); clear HB; have HB := Lib.hid hb_; clear hb_ hb)) | ((with_reducible go_at_call 17); go_must (refine (rwake_far me n l d ep now _ hr).mono ?_; rintro e w1 ⟨rfl, hb⟩; have hb_ := HB.out.trans (hb.mono HB.out.size); clear HB; have HB := Lib.hid hb_; clear hb_ hb)) | ((with_reducible go_at_call 6); go_must (refine (awake_ok _).mono ?_; rintro e w1 ⟨rfl, hb⟩; have hb_ := HB.out.trans (hb.mono HB.out.size); clear HB; have HB := Lib.hid hb_; clear hb_ hb)))
    go_ret
    exact ⟨rfl, HB.out⟩
  obtain ⟨g1, g2, g3, g4, g5⟩ := good_of hb
  have hs := (safe_good l d g1).2
  have HG := Lib.hid (And.intro ((right16_is me n l d).trans (congrArg some hb)) (And.intro (rsafe_good l d g1) (show 0 ≤ me ∧ me ≤ 5 by omega)))
  obtain ⟨c, hk⟩ : ∃ y, wokenB ep now l = y := ⟨_, rfl⟩
  rcases c with _ | _
  · go_enter Try.func5, Try.ntmps5
    go_wp2_with (first | ((with_reducible go_at_call 16); go_must (refine (wake_no me n l d ep now _ hb hk).mono ?_; rintro e w1 ⟨rfl, hb⟩; have hb_ := HB.out.trans (hb.mono HB.out.size); clear HB; have HB := Lib.hid hb_; clear hb_ hb)) | ((with_reducible go_at_call 17); go_must (refine (rwake_no me n l d ep now _ hb hk).mono ?_; rintro e w1 ⟨rfl, hb⟩; have hb_ := HB.out.trans (hb.mono HB.out.size); clear HB; have HB := Lib.hid hb_; clear hb_ hb)) | ((with_reducible go_at_call 6); go_must (refine (awake_ok _).mono ?_; rintro e w1 ⟨rfl, hb⟩; have hb_ := HB.out.trans (hb.mono HB.out.size); clear HB; have HB := Lib.hid hb_; clear hb_ hb)))
    go_ret
    exact ⟨rfl, HB.out⟩
  have HF : Hid (Fine 0 (wakeS me n l (safeS l d) ep now)) := Lib.hid (wakeS_fine me n l _ ep now g4 g5 g2 g3 hs hk)
  go_enter Try.func5, Try.ntmps5
  go_wp2_with (first | ((with_reducible go_at_call 16); (have q_ := HY0; clear q_); go_must (refine (wake_yes w.heap.size [] me n l d ep now _ HY0.out HB.out.size hb hk).mono ?_; rintro e w1 ⟨r, rfl, hy, hb⟩; have hy : Apt w.heap.size w1 [elT r (wakeS me n l (safeS l d) ep now)] := hy; have HY1 := Lib.hid hy; clear HY0 hy; have hb_ := HB.out.trans hb; clear HB; have HB := Lib.hid hb_; clear hb_ hb)) | ((with_reducible go_at_call 17); (have q_ := HY1; clear q_); go_must (refine (rwake_yes w.heap.size [elT r (wakeS me n l (safeS l d) ep now)] me n l d ep now _ HY1.out HB.out.size hb hk).mono ?_; rintro e w1 ⟨r2, rfl, hy, hb⟩; have hy : Apt w.heap.size w1 [elT r (wakeS me n l (safeS l d) ep now), reT r2 (wakeS me n l (safeS l d) ep now)] := hy; have HY2 := Lib.hid hy; clear HY1 hy; have hb_ := HB.out.trans hb; clear HB; have HB := Lib.hid hb_; clear hb_ hb)) | ((with_reducible go_at_call 9); (have q_ := HY2; clear q_); go_must (refine (plays_ok A cap xs w HC.out hcap hl r r2 _ HF.out _ HB.out HY2.out).mono ?_; rintro e w1 ⟨rfl, hb⟩; clear HB HY2; have HB := Lib.hid hb; clear hb)) | ((with_reducible go_at_call 6); go_must (refine (awake_ok _).mono ?_; rintro e w1 ⟨rfl, hb⟩; have hb_ := HB.out.trans (hb.mono HB.out.size); clear HB; have HB := Lib.hid hb_; clear hb_ hb)))
  go_ret
  exact ⟨rfl, HB.out⟩
end Go.Proofs.Ytpgmfjpjjnpiiaa.LeaseWakes
