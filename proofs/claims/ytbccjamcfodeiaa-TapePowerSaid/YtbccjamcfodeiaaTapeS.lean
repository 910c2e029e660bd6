/- PROVED: what stands behind a sync, on states. No condition beyond what each line says. -/
import Derived.Test.YtbccjamcfodeiaaTapeP2
import Derived.Test.YtbccjamcfodeiaaLRead
import Derived.Test.YtbccjamcfodeiaaWApart
import Derived.Test.YtbccjamcfodeiaaWKept
import Derived.WalkKit
import Derived.WalkSpells
import Derived.WalkLawsBesides
import Derived.WalkMore
import Derived.Outline
import Derived.Lib.Hide
import Derived.BigQuiet
import Derived.Deep.QuietTactic
import Derived.Deep.RegionHeld3
import Derived.Deep.RegionLaw
import Derived.Deep.LoopGhost
import Derived.Deep.DeepCutAuto
namespace Go.Proofs.Ytbccjamcfodeiaa.TapeS
open Go.RowKit Go.Proofs.Ytbccjamcfodeiaa.PTapePlays Go.Proofs.YtbccjamcfodeiaaW.PrintWords Go.Proofs.YtbccjamcfodeiaaW.PrintLast Go.Proofs.YtbccjamcfodeiaaW.PrintMore
open Go.Proofs.Ytbccjamcfodeiaa.Tape Go.Proofs.Ytbccjamcfodeiaa.Tape2 Go.Proofs.Ytbccjamcfodeiaa.Tape3 Go.Proofs.Ytbccjamcfodeiaa.Tape4 Go.Proofs.Ytbccjamcfodeiaa.Tape5 Go.Proofs.Ytbccjamcfodeiaa.Tape6 Go.Proofs.Ytbccjamcfodeiaa.Tape7 Go.Proofs.Ytbccjamcfodeiaa.Tape8 Go.Proofs.Ytbccjamcfodeiaa.Tape9
open Go.Proofs.Ytbccjamcfodeiaa.TapeW Go.Proofs.Ytbccjamcfodeiaa.TapeF Go.Proofs.Ytbccjamcfodeiaa.TapeP Go.Proofs.Ytbccjamcfodeiaa.TapeP2
set_option linter.unusedSimpArgs false
set_option linter.unusedVariables false
/-- What stands since a file was synced: what was sure then, and bytes since. -/
def SInv (i : Nat) (was : List Int) (s : TS) : Prop := Ever s ∧ s.sure i = was ∧ ∃ t : List Int, s.opn i = t.map (fun c => (false, c)) ∧ s.now i = was ++ t
theorem sure_start {s : TS} (h : Ever s) {i : Nat} (hi : i < 4) : ∃ s1, syncS s i = (0, s1) ∧ readS s1 i = (s1.sure i, 0) ∧ SInv i (s1.sure i) s1 := by
  have hs : syncS s i = (0, ⟨upd s.sure i (s.now i), s.now, upd s.opn i [], -1, false⟩) := by
    unfold syncS
    rw [if_neg (fun hq => hq ⟨by omega, by omega⟩), if_neg (by simp [h.2]), powT_ever h]
    rfl
  refine ⟨_, hs, ?_, ⟨rfl, rfl⟩, rfl, [], ?_, ?_⟩
  · rw [readS_ok rfl hi]
    show (s.now i, (0 : Int)) = (upd s.sure i (s.now i) i, 0)
    rw [upd_same]
  · show upd s.opn i [] i = _
    rw [upd_same]; rfl
  · show s.now i = upd s.sure i (s.now i) i ++ []
    rw [upd_same, List.append_nil]
theorem sure_step {i : Nat} (hi : i < 4) {was : List Int} {s : TS} (h : SInv i was s) (b : List Int) : ∃ k s2, appS s i b = (k, s2) ∧ SInv i was s2 := by
  obtain ⟨he, h1, t, h2, h3⟩ := h
  by_cases q : (s.now i).length + b.length ≤ 1048576
  · refine ⟨_, _, appS_free he.1 he.2 hi q, ⟨rfl, rfl⟩, h1, t ++ b, ?_, ?_⟩
    · show upd s.opn i _ i = _
      rw [upd_same, h2, List.map_append]
    · show upd s.now i _ i = _
      rw [upd_same, h3, List.append_assoc]
  · exact ⟨_, _, appS_full he.2 hi (by omega), he, h1, t, h2, h3⟩
theorem sure_end {i : Nat} (hi : i < 4) {was : List Int} {s : TS} (h : SInv i was s) (ks : List Int) : ∃ all b, readS s i = (all, 0) ∧ readS (crashS s ks) i = (b, 0) ∧ b.take was.length = was ∧ all.take b.length = b ∧ was.length ≤ b.length ∧ b.length ≤ all.length := by
  obtain ⟨he, h1, t, h2, h3⟩ := h
  refine ⟨was ++ t, was ++ t.take (manyOf ks i (s.opn i).length), by rw [readS_ok he.2 hi, h3], ?_, List.take_left' rfl, ?_, by simp, by simp; omega⟩
  · rw [readS_ok rfl hi]
    show (crashB ((s.opn i).take (manyOf ks i (s.opn i).length)) (s.sure i), (0 : Int)) = _
    rw [h1]
    generalize manyOf ks i (s.opn i).length = m
    rw [h2, ← List.map_take, crashB_bytes]
  · rw [List.length_append, List.take_append, List.take_of_length_le (by omega), List.length_take]
    congr 1
    rw [Nat.add_sub_cancel_left]
    by_cases q : manyOf ks i (s.opn i).length ≤ t.length
    · rw [Nat.min_eq_left q]
    · rw [Nat.min_eq_right (by omega), List.take_of_length_le (Nat.le_refl _), List.take_of_length_le (by omega)]
theorem read_len {n : Nat} {s : TS} (h : Fine n s) {i : Nat} (hi : i < 4) {l : List Int} {k : Int} (hr : readS s i = (l, k)) : l.length ≤ 1048576 := by
  unfold readS at hr
  rw [if_neg (fun hq => hq ⟨by omega, by omega⟩)] at hr
  split at hr
  · rw [← (Prod.mk.inj hr).1]; simp
  · rw [← (Prod.mk.inj hr).1]; exact h.nl i hi
end Go.Proofs.Ytbccjamcfodeiaa.TapeS
