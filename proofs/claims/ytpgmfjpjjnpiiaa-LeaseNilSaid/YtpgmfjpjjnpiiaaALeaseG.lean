/- PROVED: Leads. No condition beyond what each line says. -/
import Derived.Test.YtpgmfjpjjnpiiaaALeaseA
import Derived.Test.YtpgmfjpjjnpiiaaALRead
import Derived.Test.YtpgmfjpjjnpiiaaAWApart
import Derived.Test.YtpgmfjpjjnpiiaaAWKept
import Derived.WalkKit
import Derived.WalkSpells
import Derived.WalkLawsBesides
import Derived.Outline
import Derived.Lib.Hide
import Derived.Deep.LoopGhost
import Derived.Deep.RegionHeld3
import Derived.Deep.DeepCutAuto
import Derived.Deep.RegionLaw
import Derived.BigQuiet
import Derived.Deep.QuietTactic
namespace Go.Proofs.Ytpgmfjpjjnpiiaa.LeaseG
open Go.RowKit Go.Proofs.Ytpgmfjpjjnpiiaa.PLeaseWakes Go.Proofs.YtpgmfjpjjnpiiaaW.PrintWords Go.Proofs.YtpgmfjpjjnpiiaaW.PrintLast Go.Proofs.YtpgmfjpjjnpiiaaW.PrintMore
attribute [local go_sem] max2_int min2_int max_two min_two max_three min_three max_four min_four
set_option linter.unusedSimpArgs false
set_option linter.unusedVariables false
open Go.Proofs.Ytpgmfjpjjnpiiaa.LeaseA
theorem below_e {base : Nat} {ok : Nat → Prop} {w w1 w2 : World} {r : Nat} {v : Value} {s : ES} (h : Below base w w1) (hE : EIs base ok w1 r v s) (hb : Below w1.heap.size w1 w2) : Below base w w2 := h.trans (hb.mono (by have := hE.lt; have := hE.2.1; omega))
set_option maxHeartbeats 4000000 in
set_option maxRecDepth 100000 in
theorem lead_ok (base r : Nat) (ok : Nat → Prop) (v : Value) (s s1 : ES) (t : Int) (w : World) (h : EIs base ok w r v s) (hs : toldS s t = s1) :
    Calls Try.prog 13 #[.pointer (some ⟨r, 0, none⟩), .int .i64 t] w fun e w' => e = .returned (.tuple #[.int .i64 (if leadsB s1 = true then s1.led else 0), .bool (leadsB s1)]) ∧ EIs base ok w' r v s1 ∧ Below base w w' ∧ Kept w w' (fun k => k = r) := by
  have H := Lib.hid h
  have HS := Lib.hid hs
  clear h hs
  by_cases q : leadsB s1 = true
  · go_enter Try.func13, Try.ntmps13
    go_wp2_with (first | ((with_reducible go_at_call 29); (have q_ := H; clear q_); go_must (refine (told_ok base r ok v s t _ H.out).mono ?_; rintro e w1 ⟨rfl, h, hb, hk⟩; have H1 : Hid (EIs base ok w1 r v s1) := Lib.hid (by rw [← HS.out]; exact h); have HB1 := Lib.hid hb; have HK1 := Lib.hid hk; clear H h hb hk)) | ((with_reducible go_at_call 33); (have q_ := H1; clear q_); go_must (refine (leads_ok base r ok v s1 _ H1.out).mono ?_; rintro e w2 ⟨he, h, hb⟩; rw [q] at he; subst he; have c14 := h.cells.2.2.2.2.2.2.2.2.2.2.2.2.2.2.1; have H2 := Lib.hid h; have HB2 := Lib.hid hb; clear h hb)))
    go_ret2
    exact ⟨by simp [q], H2.out, below_e HB1.out H1.out HB2.out, Kept.below HK1.out HB2.out⟩
  · have q : leadsB s1 = false := by simpa using q
    go_enter Try.func13, Try.ntmps13
    go_wp2_with (first | ((with_reducible go_at_call 29); (have q_ := H; clear q_); go_must (refine (told_ok base r ok v s t _ H.out).mono ?_; rintro e w1 ⟨rfl, h, hb, hk⟩; have H1 : Hid (EIs base ok w1 r v s1) := Lib.hid (by rw [← HS.out]; exact h); have HB1 := Lib.hid hb; have HK1 := Lib.hid hk; clear H h hb hk)) | ((with_reducible go_at_call 33); (have q_ := H1; clear q_); go_must (refine (leads_ok base r ok v s1 _ H1.out).mono ?_; rintro e w2 ⟨he, h, hb⟩; rw [q] at he; subst he; have c14 := h.cells.2.2.2.2.2.2.2.2.2.2.2.2.2.2.1; have H2 := Lib.hid h; have HB2 := Lib.hid hb; clear h hb)))
    go_ret2
    exact ⟨by simp [q], H2.out, below_e HB1.out H1.out HB2.out, Kept.below HK1.out HB2.out⟩
end Go.Proofs.Ytpgmfjpjjnpiiaa.LeaseG
