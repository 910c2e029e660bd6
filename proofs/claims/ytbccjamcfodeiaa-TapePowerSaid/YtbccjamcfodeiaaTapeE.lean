/- PROVED: what TapeEnds asks, on states. No condition beyond what each line says. -/
import Derived.Test.YtbccjamcfodeiaaTapeS
import Derived.Test.YtbccjamcfodeiaaLRead
import Derived.Test.YtbccjamcfodeiaaWApart
import Derived.Test.YtbccjamcfodeiaaWKept
import Derived.WalkKit
import Derived.WalkSpells
import Derived.WalkLawsBesides
import Derived.WalkMore
import Derived.Outline
import Derived.Lib.Hide
import Derived.BigQuiet
import Derived.Deep.QuietTactic
import Derived.Deep.RegionHeld3
import Derived.Deep.RegionLaw
import Derived.Deep.LoopGhost
import Derived.Deep.DeepCutAuto
namespace Go.Proofs.Ytbccjamcfodeiaa.TapeE
open Go.RowKit Go.Proofs.Ytbccjamcfodeiaa.PTapePlays Go.Proofs.YtbccjamcfodeiaaW.PrintWords Go.Proofs.YtbccjamcfodeiaaW.PrintLast Go.Proofs.YtbccjamcfodeiaaW.PrintMore
open Go.Proofs.Ytbccjamcfodeiaa.Tape Go.Proofs.Ytbccjamcfodeiaa.Tape2 Go.Proofs.Ytbccjamcfodeiaa.Tape3 Go.Proofs.Ytbccjamcfodeiaa.Tape4 Go.Proofs.Ytbccjamcfodeiaa.Tape5 Go.Proofs.Ytbccjamcfodeiaa.Tape6 Go.Proofs.Ytbccjamcfodeiaa.Tape7 Go.Proofs.Ytbccjamcfodeiaa.Tape8 Go.Proofs.Ytbccjamcfodeiaa.Tape9
open Go.Proofs.Ytbccjamcfodeiaa.TapeW Go.Proofs.Ytbccjamcfodeiaa.TapeF Go.Proofs.Ytbccjamcfodeiaa.TapeP Go.Proofs.Ytbccjamcfodeiaa.TapeP2
open Go.Proofs.Ytbccjamcfodeiaa.TapeS
set_option linter.unusedSimpArgs false
set_option linter.unusedVariables false
/-- Files of at most n bytes. -/
def Small (n : Nat) (s : TS) : Prop := ∀ i, i < 4 → (s.now i).length ≤ n ∧ (s.sure i).length ≤ n
theorem Small.mono {n m : Nat} {s : TS} (h : Small n s) (hm : n ≤ m) : Small m s := fun i hi => ⟨Nat.le_trans (h i hi).1 hm, Nat.le_trans (h i hi).2 hm⟩
theorem small_put {n : Nat} {s : TS} (h : Small n s) (j : Nat) (x : List Int × List (Bool × Int) × Int × Bool) (hx : x.1.length ≤ n) : Small n (put_ s j x) := by
  intro i hi
  refine ⟨?_, (h i hi).2⟩
  show (upd s.now j x.1 i).length ≤ n
  by_cases q : i = j
  · rw [q, upd_same]; exact hx
  · rw [upd_ne _ _ q]; exact (h i hi).1
theorem small_app {n : Nat} {s : TS} (h : Small n s) (he : Ever s) (i : Int) (b : List Int) : Small (n + b.length) (appS s i b).2 := by
  have hm := h.mono (Nat.le_add_right n b.length)
  unfold appS
  split
  · exact hm
  · rename_i hi
    have hi := Classical.not_not.1 hi
    split
    · exact hm
    · split
      · exact hm
      · rw [he.1, appT_free]
        refine small_put hm _ _ ?_
        show (s.now i.toNat ++ b).length ≤ _
        rw [List.length_append]
        have := (h i.toNat (by omega)).1
        omega
theorem small_cut {n : Nat} {s : TS} (h : Small n s) (i k : Int) : Small n (cutS s i k).2 := by
  unfold cutS
  split
  · exact h
  · rename_i hi
    have hi := Classical.not_not.1 hi
    split
    · exact h
    · split
      · exact h
      · split
        · refine small_put h _ _ ?_
          show (List.take _ _).length ≤ _
          rw [List.length_take]
          have := (h i.toNat (by omega)).1
          omega
        · exact h
theorem small_sync {n : Nat} {s : TS} (h : Small n s) (i : Int) : Small n (syncS s i).2 := by
  unfold syncS
  split
  · exact h
  · split
    · exact h
    · split
      · intro j hj
        refine ⟨(h j hj).1, ?_⟩
        show (upd s.sure i.toNat (s.now i.toNat) j).length ≤ n
        by_cases q : j = i.toNat
        · rw [q, upd_same]; rw [q] at hj; exact (h _ hj).1
        · rw [upd_ne _ _ q]; exact (h j hj).2
      · exact h
theorem small_play : ∀ (l : List S45) {n : Nat} {s : TS}, Small n s → Ever s → (∀ x ∈ l, x.f3.length ≤ 500 ∧ x.f4.length ≤ 10) → Small (n + 500 * l.length) (playS l s)
  | [], n, s, h, _, _ => h.mono (by omega)
  | c :: l, n, s, h, he, h5 => by
    have hs : Small (n + 500) (stepS s c) := by
      unfold stepS
      split
      · exact (small_app h he _ _).mono (by have := (h5 c (by simp)).1; omega)
      · split
        · exact (small_cut h _ _).mono (by omega)
        · split
          · exact (small_sync h _).mono (by omega)
          · exact h.mono (by omega)
    exact (small_play l hs (ever_step he c) (fun x hx => h5 x (by simp [hx]))).mono (by simp only [List.length_cons]; omega)
theorem small_new : Small 0 newS := fun _ _ => ⟨Nat.le_refl _, Nat.le_refl _⟩
def big4 : List Int := [1099511627776, 1099511627776, 1099511627776, 1099511627776]
def low4 : List Int := [-1, -1, -1, -1]
theorem many_big {i n : Nat} (hi : i < 4) (hn : n ≤ 100000000) : manyOf big4 i n = n := by
  unfold manyOf
  rw [if_pos (by show i < 4; exact hi)]
  have : big4.getD i 0 = 1099511627776 := by
    match i, hi with
    | 0, _ => rfl
    | 1, _ => rfl
    | 2, _ => rfl
    | 3, _ => rfl
  rw [this]
  omega
theorem many_low {i n : Nat} : manyOf low4 i n = 0 := by
  unfold manyOf
  split
  · rename_i hi
    have hi : i < 4 := hi
    have : low4.getD i 0 = -1 := by
      match i, hi with
      | 0, _ => rfl
      | 1, _ => rfl
      | 2, _ => rfl
      | 3, _ => rfl
    rw [this]
    show min 0 n = 0
    exact Nat.zero_min n
  · rfl
theorem many_nil {i n : Nat} : manyOf [] i n = 0 := by
  unfold manyOf
  rw [if_neg (by simp)]
theorem read_crash {n : Nat} {s : TS} {ks : List Int} {i : Nat} (hi : i < 4) : readS (crashS s ks) i = (crashB ((s.opn i).take (manyOf ks i (s.opn i).length)) (s.sure i), 0) := readS_ok rfl hi
/-- All that TapeEnds asks. -/
theorem ends_all {n m : Nat} {s : TS} (hf : Fine n s) (hn : n ≤ 100000000) (he : Ever s) (hs : Small m s) (hm : m ≤ 1000000) {i : Nat} (hi : i < 4) :
    ∃ now sure x1 k, readS s i = (now, 0) ∧ readS (crashS s big4) i = (now, 0) ∧ readS (crashS s []) i = (sure, 0) ∧ appS (crashS s []) i [1] = (0, x1) ∧ openS x1 i = 1 ∧ readS (crashS x1 low4) i = (sure, 0) ∧ openS s i = k ∧ (k ≤ 0 → now = sure) ∧ Fine 1 x1 := by
  have hx : appS (crashS s []) i [1] = (0, put_ (crashS s []) i ((crashS s []).now i ++ [1], (crashS s []).opn i ++ [1].map (fun c => (false, c)), -1, false)) := by
    refine appS_free rfl rfl hi ?_
    show (crashB ((s.opn i).take (manyOf [] i (s.opn i).length)) (s.sure i)).length + 1 ≤ _
    rw [many_nil]
    show (s.sure i).length + 1 ≤ _
    have := (hs i hi).2
    omega
  refine ⟨s.now i, s.sure i, _, openS s i, readS_ok he.2 hi, ?_, ?_, hx, ?_, ?_, rfl, ?_, ?_⟩
  · rw [read_crash (n := 0) hi, many_big hi (Nat.le_trans (hf.ol i hi) hn), List.take_length, hf.eq i hi]
  · rw [read_crash (n := 0) hi, many_nil]; rfl
  · unfold openS
    rw [if_neg (fun hq => hq ⟨by omega, by omega⟩)]
    show ((upd (crashS s []).opn i _ i).length : Int) = 1
    rw [upd_same]; rfl
  · rw [read_crash (n := 0) hi, many_low]
    show (crashB ((s.opn i).take (manyOf [] i (s.opn i).length)) (s.sure i), (0 : Int)) = _
    rw [many_nil]; rfl
  · intro hk
    unfold openS at hk
    rw [if_neg (fun hq => hq ⟨by omega, by omega⟩)] at hk
    have h0 : s.opn i = [] := List.eq_nil_of_length_eq_zero (by have : (s.opn ((i : Int)).toNat).length = (s.opn i).length := rfl; omega)
    rw [← hf.eq i hi, h0]; rfl
  · have h := appS_good (crashS_good hf []) (i : Int) [1] (by intro x hx; simp only [List.mem_cons, List.not_mem_nil, or_false] at hx; omega)
    rw [hx] at h
    exact h
theorem by_one : ∀ x ∈ ([1] : List Int), 0 ≤ x ∧ x < 256 := by intro x hx; simp only [List.mem_cons, List.not_mem_nil, or_false] at hx; omega
end Go.Proofs.Ytbccjamcfodeiaa.TapeE
