/- PROVED: lemmas that the row uses (cut copies of my texts and of the printed ones). No condition beyond what each line says. -/
import Derived.Test.YtpgmfjpjjnpiiaaBRLeaseB
import Derived.Test.YtpgmfjpjjnpiiaaBRLeaseA
import Derived.Test.YtpgmfjpjjnpiiaaBLeaseO
import Derived.Test.YtpgmfjpjjnpiiaaBLeaseM
import Derived.Test.YtpgmfjpjjnpiiaaBLeaseN
import Derived.Test.YtpgmfjpjjnpiiaaBXA
import Derived.Test.YtpgmfjpjjnpiiaaBLeaseE
import Derived.Test.YtpgmfjpjjnpiiaaBLeaseK
import Derived.Test.YtpgmfjpjjnpiiaaBWAll
import Derived.WalkKit
import Derived.WalkSpells
import Derived.WalkLawsBesides
import Derived.Outline
import Derived.Lib.Hide
import Derived.Deep.LoopGhost
import Derived.Deep.RegionHeld3
import Derived.Deep.DeepCutAuto
import Derived.Deep.RegionLaw
import Derived.BigQuiet
import Derived.Deep.QuietTactic
namespace Go.Proofs.Ytpgmfjpjjnpiiaa.RLeaseF
open Go.RowKit Go.Proofs.Ytpgmfjpjjnpiiaa.PLeaseWakes Go.Proofs.YtpgmfjpjjnpiiaaW.PrintWords Go.Proofs.YtpgmfjpjjnpiiaaW.PrintLast Go.Proofs.YtpgmfjpjjnpiiaaW.PrintMore
attribute [local go_sem] max2_int min2_int max_two min_two max_three min_three max_four min_four
set_option linter.unusedSimpArgs false
set_option linter.unusedVariables false
open Go.Proofs.Ytpgmfjpjjnpiiaa.LeaseA
open Go.Proofs.Ytpgmfjpjjnpiiaa.LeaseB Go.Proofs.Ytpgmfjpjjnpiiaa.LeaseC Go.Proofs.Ytpgmfjpjjnpiiaa.LeaseD Go.Proofs.Ytpgmfjpjjnpiiaa.LeaseH Go.Proofs.Ytpgmfjpjjnpiiaa.LeaseJ Go.Proofs.Ytpgmfjpjjnpiiaa.LeaseK
open Go.Proofs.Ytpgmfjpjjnpiiaa.LeaseL Go.Proofs.Ytpgmfjpjjnpiiaa.LeaseM Go.Proofs.Ytpgmfjpjjnpiiaa.LeaseN Go.Proofs.Ytpgmfjpjjnpiiaa.LeaseG Go.Proofs.Ytpgmfjpjjnpiiaa.LeaseF Go.Proofs.Ytpgmfjpjjnpiiaa.LeaseI
open Go.Proofs.Ytpgmfjpjjnpiiaa.LeaseO
open Go.Proofs.Ytpgmfjpjjnpiiaa.RLeaseA
open Go.Proofs.Ytpgmfjpjjnpiiaa.RLeaseB
theorem in14_is (n a b : Int) : juratref14_in.f n a b = some (decide (a ≤ n ∧ n ≤ b)) := by
  unfold juratref14_in.f
  by_cases c : n ≥ a <;> by_cases c1 : n ≤ b <;> simp [c, c1] <;> omega
theorem right14_is (l d : Int) : juratref14_Right.f l d = some (fitB l d) := by
  unfold juratref14_Right.f fitB
  rw [in14_is, in14_is]
  simp only [Option.bind_some, decide_eq_true_eq]
  by_cases c : 1 ≤ l ∧ l ≤ 1000
  · rw [if_pos c]
    congr 1
    exact decide_eq_decide.mpr (by omega)
  · rw [if_neg c, decide_eq_false (by omega)]
/-- May there be such a replica? -/
def goodB (me n l d : Int) : Bool := decide ((n = 1 ∨ n = 3 ∨ n = 5) ∧ 0 ≤ me ∧ me < n ∧ 40 ≤ l) && fitB l d
theorem right16_is (me n l d : Int) : juratref16_right.f me n l d = some (goodB me n l d) := by
  unfold juratref16_right.f goodB
  rw [right14_is]
  simp only [Option.bind_some]
  by_cases c1 : n = 1 ∨ n = 3 ∨ n = 5
  · by_cases c2 : 0 ≤ me ∧ me < n ∧ 40 ≤ l
    · rw [decide_eq_true (show (n = 1 ∨ n = 3 ∨ n = 5) ∧ 0 ≤ me ∧ me < n ∧ 40 ≤ l from ⟨c1, c2⟩), Bool.true_and]
      rcases c1 with rfl | rfl | rfl
      · rw [if_pos rfl, if_pos (by omega), if_pos (by omega), if_pos (by omega)]
      · rw [if_neg (by omega), if_pos rfl, if_pos (by omega), if_pos (by omega), if_pos (by omega)]
      · rw [if_neg (by omega), if_neg (by omega), if_pos rfl, if_pos (by omega), if_pos (by omega), if_pos (by omega)]
    · rw [decide_eq_false (show ¬ ((n = 1 ∨ n = 3 ∨ n = 5) ∧ 0 ≤ me ∧ me < n ∧ 40 ≤ l) from fun h => c2 h.2), Bool.false_and]
      (repeat' split) <;> first | rfl | omega
  · rw [decide_eq_false (show ¬ ((n = 1 ∨ n = 3 ∨ n = 5) ∧ 0 ≤ me ∧ me < n ∧ 40 ≤ l) from fun h => c1 h.1), Bool.false_and]
    rw [if_neg (by omega), if_neg (by omega), if_neg (by omega)]
theorem rsafe_good (l d : Int) (h : fitB l d = true) : juratref14_Safe.f l d = some (safeS l d, 0) := by
  unfold juratref14_Safe.f
  rw [right14_is, h]
  unfold fitB at h
  have h := of_decide_eq_true h
  have e1 : wrap64 (1000 - d) = 1000 - d := by unfold wrap64; omega
  have e2 : wrap64 (1000 + d) = 1000 + d := by unfold wrap64; omega
  have b1 : l * (1000 - d) ≤ 1000 * 1000 := Int.mul_le_mul (by omega) (by omega) (by omega) (by omega)
  have b0 : 0 ≤ l * (1000 - d) := Int.mul_nonneg (by omega) (by omega)
  have e3 : wrap64 (l * (1000 - d)) = l * (1000 - d) := by unfold wrap64; omega
  have b2 : 0 ≤ Int.tdiv (l * (1000 - d)) (1000 + d) := Int.tdiv_nonneg b0 (by omega)
  have b3 : Int.tdiv (l * (1000 - d)) (1000 + d) ≤ 1000 := by
    rw [Int.tdiv_eq_ediv_of_nonneg b0]
    exact Int.ediv_le_of_le_mul (by omega) (by omega)
  have e4 : wrap64 (Int.tdiv (l * (1000 - d)) (1000 + d)) = Int.tdiv (l * (1000 - d)) (1000 + d) := by unfold wrap64; omega
  rw [e1, e2, e3, e4]
  simp only [Option.bind_some]
  rw [if_pos trivial, if_neg (by omega)]
  have e5 : wrap64 (Int.tdiv (l * (1000 - d)) (1000 + d) - 2) = Int.tdiv (l * (1000 - d)) (1000 + d) - 2 := by unfold wrap64; omega
  rw [e5]
  congr 2
  unfold safeS mx
  (repeat' split) <;> omega
/-- A new elector refuses so. -/
theorem bad_of {me n l d : Int} (h : goodB me n l d = false) (hf : fitB l d = true) : l < 40 ∨ n < 1 ∨ 5 < n ∨ n = 2 ∨ n = 4 ∨ me < 0 ∨ n ≤ me := by
  unfold goodB at h
  rw [hf, Bool.and_true] at h
  have := of_decide_eq_false h
  omega
theorem good_of {me n l d : Int} (h : goodB me n l d = true) : fitB l d = true ∧ (n = 1 ∨ n = 3 ∨ n = 5) ∧ (0 ≤ me ∧ me < n) ∧ 40 ≤ l ∧ l ≤ 1000 := by
  unfold goodB at h
  rw [Bool.and_eq_true] at h
  have h1 := of_decide_eq_true h.1
  have h2 : fitB l d = true := h.2
  refine ⟨h2, h1.1, ⟨h1.2.1, h1.2.2.1⟩, h1.2.2.2, ?_⟩
  unfold fitB at h2
  have := of_decide_eq_true h2
  omega
theorem new_no (me n l d : Int) (w : World) (h : goodB me n l d = false) :
    Calls Try.prog 7 #[.int .i64 me, .int .i64 n, .int .i64 l, .int .i64 d] w fun e w' => e = .returned (.tuple #[.pointer none, .int .i64 1]) ∧ Below w.heap.size w w' := by
  by_cases hf : fitB l d = true
  · exact new_bad me n l d _ w (safe_good l d hf).1 (bad_of h hf)
  · exact new_far me n l d 0 w (safe_bad l d (by simpa using hf))
theorem new_yes (base : Nat) (ts : List Thing) (me n l d : Int) (w : World) (hA : Apt base w ts) (hbw : base ≤ w.heap.size) (h : goodB me n l d = true) :
    Calls Try.prog 7 #[.int .i64 me, .int .i64 n, .int .i64 l, .int .i64 d] w fun e w' => ∃ r, e = .returned (.tuple #[.pointer (some ⟨r, 0, none⟩), .int .i64 0]) ∧ Apt base w' (ts ++ [elT r (newS me n l (safeS l d))]) ∧ Below w.heap.size w w' := by
  obtain ⟨h1, h2, h3, h4, h5⟩ := good_of h
  exact new_good base ts me n l d _ w hA hbw (safe_good l d h1).1 h4 h2 h3
theorem ref_new {base N r : Nat} {w1 : World} {s : ES} (h : N ≤ r) (hb : base ≤ N) (hx : w1.heap[r]? = some (.cells (cellsR s (.slice none 0 0)) 63 (0, 0))) (hg : s.gr = []) : (reT r s).H w1 base (fun k => N ≤ k) :=
  ⟨fun _ => False, .slice none 0 0, ⟨hx, Nat.le_trans hb h, by rw [hg]; exact Kd.R_nil _ _ _ _ _⟩, h, fun k hk => hk.elim⟩
set_option maxHeartbeats 4000000 in
set_option maxRecDepth 100000 in
theorem rnew_no (me n l d : Int) (w : World) (h : juratref16_right.f me n l d = some false) :
    Calls Try.prog 8 #[.int .i64 me, .int .i64 n, .int .i64 l, .int .i64 d] w fun e w' => e = .returned (.tuple #[.pointer none, .int .i64 1]) ∧ Below w.heap.size w w' := by
  have HB := Lib.hid (Below.refl w.heap.size w)
  have HF := Lib.hid h
  clear h
  go_enter Try.func8, Try.ntmps8
  go_wp2_with (first | ((with_reducible go_at_call 20); go_must (refine (juratref16_right.calls me n l d false _ HF.out).mono ?_; rintro e w1 ⟨rfl, hd⟩; have hb := Drawn0.below hd; skip; have hb_ := below_step HB.out hb; clear HB; have HB := Lib.hid hb_; clear hb_ hb)))
  go_ret2
  exact ⟨rfl, HB.out⟩
set_option maxHeartbeats 4000000 in
set_option maxRecDepth 100000 in
theorem rnew_yes (base : Nat) (ts : List Thing) (me n l d sf : Int) (w : World) (hA : Apt base w ts) (hbw : base ≤ w.heap.size) (h : juratref16_right.f me n l d = some true) (hs : juratref14_Safe.f l d = some (sf, 0)) (hm : 0 ≤ me ∧ me ≤ 5) :
    Calls Try.prog 8 #[.int .i64 me, .int .i64 n, .int .i64 l, .int .i64 d] w fun e w' => ∃ r, e = .returned (.tuple #[.pointer (some ⟨r, 0, none⟩), .int .i64 0]) ∧ Apt base w' (ts ++ [reT r (newS me n l sf)]) ∧ Below w.heap.size w w' := by
  have HB := Lib.hid (Below.refl w.heap.size w)
  have HA := Lib.hid hA
  have HF := Lib.hid h
  have HS := Lib.hid hs
  have e1 : IntKind.i64.wrap (me + 1) = me + 1 := by rw [i64_w]; unfold wrap64; omega
  have e2 : IntKind.i64.wrap (16 * (me + 1)) = 16 * (me + 1) := by rw [i64_w]; unfold wrap64; omega
  clear hA h hs hm
  go_enter Try.func8, Try.ntmps8
  go_wp2_with (first | ((with_reducible go_at_call 20); go_must (refine (juratref16_right.calls me n l d true _ HF.out).mono ?_; rintro e w1 ⟨rfl, hd⟩; have hb := Drawn0.below hd; have ha_ := Apt.below HA.out hb; clear HA; have HA := Lib.hid ha_; clear ha_; have hb_ := below_step HB.out hb; clear HB; have HB := Lib.hid hb_; clear hb_ hb)) | ((with_reducible go_at_call 21); go_must (refine (juratref14_Safe.calls l d sf 0 _ HS.out).mono ?_; rintro e w1 ⟨rfl, hb⟩; have ha_ := Apt.below HA.out hb; clear HA; have HA := Lib.hid ha_; clear ha_; have hb_ := below_step HB.out hb; clear HB; have HB := Lib.hid hb_; clear hb_ hb)) | ((with_reducible go_at_call 22); go_must (refine (juratref15_Fresh.calls 0 (-1) 0 0 _ rfl).mono ?_; rintro e w1 ⟨rfl, hb⟩; have ha_ := Apt.below HA.out hb; clear HA; have HA := Lib.hid ha_; clear ha_; have hb_ := below_step HB.out hb; clear HB; have HB := Lib.hid hb_; clear hb_ hb)))
  go_ret2
  exact ⟨_, rfl, Apt.add HA.out (below_alloc (Below.refl _ _) _) (ref_new (Nat.le_refl _) (Nat.le_trans hbw HB.out.size) (blk_new _ _) rfl), below_step HB.out (below_alloc (Below.refl _ _) _)⟩
end Go.Proofs.Ytpgmfjpjjnpiiaa.RLeaseF
