/- PROVED: small words for the laws of layer 10. No condition. -/
import Derived.Test.YtbccjamcfodeiaaTapeW
import Derived.Test.YtbccjamcfodeiaaLRead
import Derived.Test.YtbccjamcfodeiaaWApart
import Derived.Test.YtbccjamcfodeiaaWKept
import Derived.WalkKit
import Derived.WalkSpells
import Derived.WalkLawsBesides
import Derived.WalkMore
import Derived.Outline
import Derived.Lib.Hide
import Derived.BigQuiet
import Derived.Deep.QuietTactic
import Derived.Deep.RegionHeld3
import Derived.Deep.RegionLaw
import Derived.Deep.LoopGhost
import Derived.Deep.DeepCutAuto
namespace Go.Proofs.Ytbccjamcfodeiaa.TapeF
open Go.RowKit Go.Proofs.Ytbccjamcfodeiaa.PTapePlays Go.Proofs.YtbccjamcfodeiaaW.PrintWords Go.Proofs.YtbccjamcfodeiaaW.PrintLast Go.Proofs.YtbccjamcfodeiaaW.PrintMore
open Go.Proofs.Ytbccjamcfodeiaa.Tape Go.Proofs.Ytbccjamcfodeiaa.Tape2 Go.Proofs.Ytbccjamcfodeiaa.Tape3 Go.Proofs.Ytbccjamcfodeiaa.Tape4 Go.Proofs.Ytbccjamcfodeiaa.Tape5 Go.Proofs.Ytbccjamcfodeiaa.Tape6 Go.Proofs.Ytbccjamcfodeiaa.Tape7 Go.Proofs.Ytbccjamcfodeiaa.Tape8 Go.Proofs.Ytbccjamcfodeiaa.Tape9
open Go.Proofs.Ytbccjamcfodeiaa.TapeW
set_option linter.unusedSimpArgs false
set_option linter.unusedVariables false
theorem is_yes (a : Int) (w : World) (h : 0 ≤ a) (h4 : a < 4) : Calls Try.prog 10 #[.int .i64 a] w fun e w' => e = .returned (.bool true) ∧ w = w' := by
  go_enter Try.func10, Try.ntmps10
  go_wp2
  go_ret
  exact ⟨rfl, rfl⟩
theorem is_no (a : Int) (w : World) (h : ¬ (0 ≤ a ∧ a < 4)) : Calls Try.prog 10 #[.int .i64 a] w fun e w' => e = .returned (.bool false) ∧ w = w' := by
  by_cases q : a < 0
  · go_enter Try.func10, Try.ntmps10
    go_wp2
    go_ret
    exact ⟨rfl, rfl⟩
  · have q1 : 0 ≤ a := by omega
    have q2 : decide (a < 4) = false := decide_eq_false (by omega)
    clear q h
    go_enter Try.func10, Try.ntmps10
    go_wp2
    go_ret
    exact ⟨rfl, rfl⟩
theorem appT_free : ∀ (b now : List Int) (opn : List (Bool × Int)), appT b now opn (-1) false = (0, now ++ b, opn ++ b.map (fun c => (false, c)), -1, false)
  | [], now, opn => by simp [appT]
  | c :: b, now, opn => by
    have hp : powT (-1) false = (true, -1, false) := rfl
    rw [appT, hp, if_pos rfl, appT_free b]
    simp
theorem appS_free {s : TS} (hf : s.f = -1) (hd : s.d = false) {i : Nat} (hi : i < 4) {b : List Int} (hb : (s.now i).length + b.length ≤ 1048576) : appS s i b = (0, put_ s i (s.now i ++ b, s.opn i ++ b.map (fun c => (false, c)), -1, false)) := by
  unfold appS
  rw [if_neg (fun hq => hq ⟨by omega, by omega⟩), if_neg (by simp [hd]), if_neg (by show ¬ 1048576 < (s.now i).length + b.length; omega), hf]
  show ((appT b (s.now i) (s.opn i) (-1) false).1, put_ s i (appT b (s.now i) (s.opn i) (-1) false).2) = _
  rw [appT_free]
theorem appS_full {s : TS} (hd : s.d = false) {i : Nat} (hi : i < 4) {b : List Int} (hb : 1048576 < (s.now i).length + b.length) : appS s i b = (90, s) := by
  unfold appS
  rw [if_neg (fun hq => hq ⟨by omega, by omega⟩), if_neg (by simp [hd]), if_pos (by show 1048576 < (s.now i).length + b.length; omega)]
theorem readS_ok {s : TS} (hd : s.d = false) {i : Nat} (hi : i < 4) : readS s i = (s.now i, 0) := by
  unfold readS
  rw [if_neg (fun hq => hq ⟨by omega, by omega⟩), if_neg (by simp [hd])]
  rfl
theorem zeros_by (n : Nat) : ∀ x ∈ List.replicate n (0 : Int), 0 ≤ x ∧ x < 256 := by
  intro x hx
  rw [List.eq_of_mem_replicate hx]
  omega
end Go.Proofs.Ytbccjamcfodeiaa.TapeF
