/- PROVED: the power of a tape, on states. No condition beyond what each line says. -/
import Derived.Test.YtbccjamcfodeiaaTapeA
import Derived.Test.YtbccjamcfodeiaaLRead
import Derived.Test.YtbccjamcfodeiaaWApart
import Derived.Test.YtbccjamcfodeiaaWKept
import Derived.WalkKit
import Derived.WalkSpells
import Derived.WalkLawsBesides
import Derived.WalkMore
import Derived.Outline
import Derived.Lib.Hide
import Derived.BigQuiet
import Derived.Deep.QuietTactic
import Derived.Deep.RegionHeld3
import Derived.Deep.RegionLaw
import Derived.Deep.LoopGhost
import Derived.Deep.DeepCutAuto
namespace Go.Proofs.Ytbccjamcfodeiaa.TapeQ
open Go.RowKit Go.Proofs.Ytbccjamcfodeiaa.PTapePlays Go.Proofs.YtbccjamcfodeiaaW.PrintWords Go.Proofs.YtbccjamcfodeiaaW.PrintLast Go.Proofs.YtbccjamcfodeiaaW.PrintMore
open Go.Proofs.Ytbccjamcfodeiaa.Tape Go.Proofs.Ytbccjamcfodeiaa.Tape2 Go.Proofs.Ytbccjamcfodeiaa.Tape3 Go.Proofs.Ytbccjamcfodeiaa.Tape4 Go.Proofs.Ytbccjamcfodeiaa.Tape5 Go.Proofs.Ytbccjamcfodeiaa.Tape6 Go.Proofs.Ytbccjamcfodeiaa.Tape7 Go.Proofs.Ytbccjamcfodeiaa.Tape8 Go.Proofs.Ytbccjamcfodeiaa.Tape9
open Go.Proofs.Ytbccjamcfodeiaa.TapeW Go.Proofs.Ytbccjamcfodeiaa.TapeF Go.Proofs.Ytbccjamcfodeiaa.TapeP Go.Proofs.Ytbccjamcfodeiaa.TapeP2
open Go.Proofs.Ytbccjamcfodeiaa.TapeS
open Go.Proofs.Ytbccjamcfodeiaa.TapeE
open Go.Proofs.Ytbccjamcfodeiaa.TapeA
set_option linter.unusedSimpArgs false
set_option linter.unusedVariables false
/-- So many steps were made of n. -/
def PInv (n st : Int) (s : TS) : Prop := 0 ≤ st ∧ s.f = n - st ∧ 0 ≤ s.f ∧ (s.d = true → s.f = 0)
theorem pinv_le {n st : Int} {s : TS} (h : PInv n st s) : st ≤ n := by have := h.2.1; have := h.2.2.1; omega
theorem pinv_eq {n st : Int} {s : TS} (h : PInv n st s) (hd : s.d = true) : st = n := by have := h.2.1; have := h.2.2.2 hd; omega
theorem powT_le {f : Int} (h : 0 < f) (d : Bool) : powT f d = (true, f - 1, d) := by
  unfold powT
  rw [if_neg (by omega), if_pos h]
theorem powT_0 (d : Bool) : powT 0 d = (false, 0, true) := rfl
theorem appT_pow : ∀ (b now : List Int) (opn : List (Bool × Int)) (f : Int), 0 ≤ f → opn.length ≤ (appT b now opn f false).2.2.1.length ∧ (appT b now opn f false).2.2.2.1 = f - ((appT b now opn f false).2.2.1.length - opn.length) ∧ 0 ≤ (appT b now opn f false).2.2.2.1 ∧
    (((appT b now opn f false).1 = 100 ∧ (appT b now opn f false).2.2.2.2 = true ∧ (appT b now opn f false).2.2.2.1 = 0) ∨ ((appT b now opn f false).1 = 0 ∧ (appT b now opn f false).2.2.2.2 = false))
  | [], now, opn, f, h => ⟨Nat.le_refl _, by show f = _; simp [appT], h, .inr ⟨rfl, rfl⟩⟩
  | c :: b, now, opn, f, h => by
    by_cases q : f = 0
    · subst q
      have : appT (c :: b) now opn 0 false = (100, now, opn, 0, true) := rfl
      rw [this]
      exact ⟨Nat.le_refl _, by simp, Int.le_refl _, .inl ⟨rfl, rfl, rfl⟩⟩
    · have e : appT (c :: b) now opn f false = appT b (now ++ [c]) (opn ++ [(false, c)]) (f - 1) false := by
        rw [appT, powT_le (by omega), if_pos rfl]
      rw [e]
      obtain ⟨h1, h2, h3, h4⟩ := appT_pow b (now ++ [c]) (opn ++ [(false, c)]) (f - 1) (by omega)
      rw [List.length_append] at h1 h2
      simp only [List.length_singleton] at h1 h2
      refine ⟨by omega, by rw [h2]; omega, h3, h4⟩
theorem open_is (s : TS) (i : Int) (h : 0 ≤ i ∧ i < 4) : openS s i = (s.opn i.toNat).length := by
  unfold openS
  rw [if_neg (fun hq => hq h)]
theorem open_not (s : TS) (i : Int) (h : ¬ (0 ≤ i ∧ i < 4)) : openS s i = 0 := by
  unfold openS
  rw [if_pos h]
theorem power_app {n st : Int} {s : TS} (hP : PInv n st s) (i : Int) (b : List Int) : PInv n (st + (openS (appS s i b).2 i - openS s i)) (appS s i b).2 ∧ ((appS s i b).1 == 100) = ((appS s i b).2.d && decide (0 ≤ i ∧ i < 4)) := by
  by_cases q : 0 ≤ i ∧ i < 4
  · rw [open_is _ _ q, open_is _ _ q]
    unfold appS
    rw [if_neg (fun hq => hq q)]
    by_cases q2 : s.d = true
    · rw [if_pos q2]
      exact ⟨by rw [Int.sub_self, Int.add_zero]; exact hP, by rw [q2]; simp [q]⟩
    · rw [if_neg q2]
      split
      · refine ⟨by rw [Int.sub_self, Int.add_zero]; exact hP, ?_⟩
        have : s.d = false := by simpa using q2
        show ((90 : Int) == 100) = (s.d && _)
        rw [this]; rfl
      · obtain ⟨h1, h2, h3, h4⟩ := appT_pow b (s.now i.toNat) (s.opn i.toNat) s.f hP.2.2.1
        refine ⟨⟨?_, ?_, h3, fun hd => ?_⟩, ?_⟩
        · show 0 ≤ st + (((upd s.opn i.toNat (appT b (s.now i.toNat) (s.opn i.toNat) s.f false).2.2.1 i.toNat).length : Int) - _)
          rw [upd_same]
          have := hP.1
          omega
        · show (appT b (s.now i.toNat) (s.opn i.toNat) s.f false).2.2.2.1 = n - (st + (((upd s.opn i.toNat (appT b (s.now i.toNat) (s.opn i.toNat) s.f false).2.2.1 i.toNat).length : Int) - _))
          rw [upd_same, h2]
          have := hP.2.1
          omega
        · rcases h4 with h4 | h4
          · exact h4.2.2
          · have hd2 : (appT b (s.now i.toNat) (s.opn i.toNat) s.f false).2.2.2.2 = true := hd
            rw [h4.2] at hd2; cases hd2
        · show ((appT b (s.now i.toNat) (s.opn i.toNat) s.f false).1 == 100) = ((appT b (s.now i.toNat) (s.opn i.toNat) s.f false).2.2.2.2 && decide (0 ≤ i ∧ i < 4))
          rcases h4 with h4 | h4
          · rw [h4.1, h4.2.1]; simp [q]
          · rw [h4.1, h4.2]; rfl
  · have e : appS s i b = (1, s) := by unfold appS; rw [if_pos q]
    rw [e]
    refine ⟨by rw [Int.sub_self, Int.add_zero]; exact hP, ?_⟩
    show ((1 : Int) == 100) = _
    rw [decide_eq_false q, Bool.and_false]; rfl
theorem power_cut {n st : Int} {s : TS} (hP : PInv n st s) (i k : Int) : PInv n (st + (openS (cutS s i k).2 i - openS s i)) (cutS s i k).2 := by
  by_cases q : 0 ≤ i ∧ i < 4
  · rw [open_is _ _ q, open_is _ _ q]
    unfold cutS
    rw [if_neg (fun hq => hq q)]
    split
    · rw [Int.sub_self, Int.add_zero]; exact hP
    · by_cases q2 : s.d = true
      · rw [if_pos q2, Int.sub_self, Int.add_zero]; exact hP
      · rw [if_neg q2]
        by_cases q3 : s.f = 0
        · rw [q3, powT_0, if_neg (by simp)]
          show PInv n (st + (((s.opn i.toNat).length : Int) - (s.opn i.toNat).length)) { s with f := 0, d := true }
          rw [Int.sub_self, Int.add_zero]
          exact ⟨hP.1, by show 0 = n - st; have := hP.2.1; omega, Int.le_refl _, fun _ => rfl⟩
        · have h0 := hP.2.2.1
          rw [powT_le (by omega), if_pos rfl]
          show PInv n (st + (((upd s.opn i.toNat (s.opn i.toNat ++ [(true, k)]) i.toNat).length : Int) - (s.opn i.toNat).length)) _
          rw [upd_same, List.length_append, List.length_singleton]
          refine ⟨by have := hP.1; omega, ?_, ?_, fun h => by cases h⟩
          · show s.f - 1 = _; have := hP.2.1; omega
          · show 0 ≤ s.f - 1; omega
  · have e : cutS s i k = (1, s) := by unfold cutS; rw [if_pos q]
    rw [e, Int.sub_self, Int.add_zero]; exact hP
theorem power_sync {n st : Int} {s : TS} (hP : PInv n st s) (i : Int) : PInv n (st + (if (syncS s i).1 = 0 then 1 else 0)) (syncS s i).2 ∧ ((syncS s i).1 == 100) = ((syncS s i).2.d && decide (0 ≤ i ∧ i < 4)) := by
  by_cases q : 0 ≤ i ∧ i < 4
  · have e0 : syncS s i = if s.d = true then (100, s) else if (powT s.f false).1 = true then (0, ⟨upd s.sure i.toNat (s.now i.toNat), s.now, upd s.opn i.toNat [], (powT s.f false).2.1, (powT s.f false).2.2⟩) else (100, { s with f := (powT s.f false).2.1, d := (powT s.f false).2.2 }) := by
      unfold syncS
      rw [if_neg (fun hq => hq q)]
    by_cases q2 : s.d = true
    · have e : syncS s i = (100, s) := by rw [e0, if_pos q2]
      rw [e]
      refine ⟨?_, ?_⟩
      · show PInv n (st + (if (100 : Int) = 0 then 1 else 0)) s
        rw [if_neg (by decide), Int.add_zero]; exact hP
      · show ((100 : Int) == 100) = (s.d && _)
        rw [q2, decide_eq_true q]; rfl
    · by_cases q3 : s.f = 0
      · have e : syncS s i = (100, { s with f := 0, d := true }) := by rw [e0, if_neg q2, q3, powT_0, if_neg (by simp)]
        rw [e]
        refine ⟨?_, ?_⟩
        · show PInv n (st + (if (100 : Int) = 0 then 1 else 0)) { s with f := 0, d := true }
          rw [if_neg (by decide), Int.add_zero]
          exact ⟨hP.1, by show 0 = n - st; have := hP.2.1; omega, Int.le_refl _, fun _ => rfl⟩
        · show ((100 : Int) == 100) = (true && _)
          rw [decide_eq_true q]; rfl
      · have h0 := hP.2.2.1
        have e : syncS s i = (0, ⟨upd s.sure i.toNat (s.now i.toNat), s.now, upd s.opn i.toNat [], s.f - 1, false⟩) := by rw [e0, if_neg q2, powT_le (by omega), if_pos rfl]
        rw [e]
        refine ⟨?_, rfl⟩
        show PInv n (st + (if (0 : Int) = 0 then 1 else 0)) _
        rw [if_pos rfl]
        refine ⟨by have := hP.1; omega, ?_, ?_, fun h => by cases h⟩
        · show s.f - 1 = _; have := hP.2.1; omega
        · show 0 ≤ s.f - 1; omega
  · have e : syncS s i = (1, s) := by unfold syncS; rw [if_pos q]
    rw [e]
    refine ⟨?_, ?_⟩
    · show PInv n (st + (if (1 : Int) = 0 then 1 else 0)) s
      rw [if_neg (by decide), Int.add_zero]; exact hP
    · show ((1 : Int) == 100) = _
      rw [decide_eq_false q, Bool.and_false]; rfl
theorem open_rng {m : Nat} {s : TS} (h : Fine m s) (i : Int) : 0 ≤ openS s i ∧ openS s i ≤ m := by
  by_cases q : 0 ≤ i ∧ i < 4
  · rw [open_is _ _ q]
    have := h.ol i.toNat (by omega)
    omega
  · rw [open_not _ _ q]; omega
theorem down_z (base : Nat) (ts : List Thing) (i r : Nat) (s : TS) (d : Bool) (w : World) (h : Apt base w ts) (hi : ts[i]? = some (tape r s)) (hd : s.d = d) : Calls Try.prog 26 #[.pointer (some ⟨r, 0, none⟩)] w fun e w' => e = .returned (.bool d) ∧ w = w' := by
  subst hd
  exact down_y base ts i r s w h hi
end Go.Proofs.Ytbccjamcfodeiaa.TapeQ
