/- PROVED: how long a lease is safe. No condition beyond what each line says. -/
import Derived.Test.YtpgmfjpjjnpiiaaALeaseA
import Derived.Test.YtpgmfjpjjnpiiaaALRead
import Derived.Test.YtpgmfjpjjnpiiaaAWApart
import Derived.Test.YtpgmfjpjjnpiiaaAWKept
import Derived.WalkKit
import Derived.WalkSpells
import Derived.WalkLawsBesides
import Derived.Outline
import Derived.Lib.Hide
import Derived.Deep.LoopGhost
import Derived.Deep.RegionHeld3
import Derived.Deep.DeepCutAuto
import Derived.Deep.RegionLaw
import Derived.BigQuiet
import Derived.Deep.QuietTactic
namespace Go.Proofs.Ytpgmfjpjjnpiiaa.LeaseF
open Go.RowKit Go.Proofs.Ytpgmfjpjjnpiiaa.PLeaseWakes Go.Proofs.YtpgmfjpjjnpiiaaW.PrintWords Go.Proofs.YtpgmfjpjjnpiiaaW.PrintLast Go.Proofs.YtpgmfjpjjnpiiaaW.PrintMore
attribute [local go_sem] max2_int min2_int max_two min_two max_three min_three max_four min_four
set_option linter.unusedSimpArgs false
set_option linter.unusedVariables false
open Go.Proofs.Ytpgmfjpjjnpiiaa.LeaseA
theorem out_two (a b : Int) : clock_out.f 4 ([(⟨a, 1, 1000⟩ : S81), (⟨b, 0, 200⟩ : S81)]) = some (!decide (1 ≤ a ∧ a ≤ 1000 ∧ 0 ≤ b ∧ b ≤ 200)) := by
  unfold clock_out.f
  by_cases q1 : a < 1
  · simp [clock_out.l0, rd_T81, q1]
  by_cases q2 : 1000 < a
  · simp [clock_out.l0, rd_T81, q1, q2]
  by_cases q3 : b < 0
  · simp [clock_out.l0, rd_T81, q1, q2, q3, wrap64]
  by_cases q4 : 200 < b
  · simp [clock_out.l0, rd_T81, q1, q2, q3, q4, wrap64]
  · simp [clock_out.l0, rd_T81, q1, q2, q3, q4, wrap64]; omega
/-- How long a lease is safe. -/
def safeS (l d : Int) : Int := mx (Int.tdiv (l * (1000 - d)) (1000 + d)) 2 - 2
def fitB (l d : Int) : Bool := decide (1 ≤ l ∧ l ≤ 1000 ∧ 0 ≤ d ∧ d ≤ 200)
theorem safe_good (l d : Int) (h : fitB l d = true) : clock_Safe.f 4 l d = some (safeS l d, 0) ∧ 0 ≤ safeS l d ∧ safeS l d ≤ 1000 := by
  have hf := h
  unfold fitB at h
  have h := of_decide_eq_true h
  have e1 : wrap64 (1000 - d) = 1000 - d := by unfold wrap64; omega
  have e2 : wrap64 (1000 + d) = 1000 + d := by unfold wrap64; omega
  have b1 : l * (1000 - d) ≤ 1000 * 1000 := Int.mul_le_mul (by omega) (by omega) (by omega) (by omega)
  have b0 : 0 ≤ l * (1000 - d) := Int.mul_nonneg (by omega) (by omega)
  have e3 : wrap64 (l * (1000 - d)) = l * (1000 - d) := by unfold wrap64; omega
  have b2 : 0 ≤ Int.tdiv (l * (1000 - d)) (1000 + d) := Int.tdiv_nonneg b0 (by omega)
  have b3 : Int.tdiv (l * (1000 - d)) (1000 + d) ≤ 1000 := by
    rw [Int.tdiv_eq_ediv_of_nonneg b0]
    exact Int.ediv_le_of_le_mul (by omega) (by omega)
  have e4 : wrap64 (Int.tdiv (l * (1000 - d)) (1000 + d)) = Int.tdiv (l * (1000 - d)) (1000 + d) := by unfold wrap64; omega
  have b4 : 0 ≤ safeS l d ∧ safeS l d ≤ 1000 := by unfold safeS mx; split <;> omega
  refine ⟨?_, b4⟩
  unfold clock_Safe.f
  have e0 := out_two l d
  rw [e0, e1, e2, e3, e4]
  have e5 : decide (1 ≤ l ∧ l ≤ 1000 ∧ 0 ≤ d ∧ d ≤ 200) = true := hf
  rw [e5]
  simp only [Option.bind_some, Bool.not_true]
  rw [if_neg (by decide), if_neg (by omega)]
  show some (wrap64 (mx _ 2 - 2), (0 : Int)) = _
  rw [show wrap64 (mx (Int.tdiv (l * (1000 - d)) (1000 + d)) 2 - 2) = safeS l d by
    have := b4
    unfold safeS at this ⊢
    unfold wrap64
    omega]
/-- A new elector. -/
def newS (me n l sf : Int) : ES := ⟨me, n, l, sf, 0, 0, -1, 0, 0, 0, 0, 0, false, [], 0, 0, 16 * (me + 1), 0⟩
theorem el_new {base N r : Nat} {w1 : World} {s : ES} (h : N ≤ r) (hb : base ≤ N) (hx : w1.heap[r]? = some (.cells (cellsE s (.slice none 0 0)) 58 (0, 0))) (hg : s.gr = []) : (elT r s).H w1 base (fun k => N ≤ k) :=
  ⟨fun _ => False, .slice none 0 0, ⟨hx, Nat.le_trans hb h, by rw [hg]; exact Kd.R_nil _ _ _ _ _⟩, h, fun k hk => hk.elim⟩
set_option maxHeartbeats 4000000 in
set_option maxRecDepth 100000 in
theorem new_good (base : Nat) (ts : List Thing) (me n l d sf : Int) (w : World) (hA : Apt base w ts) (hbw : base ≤ w.heap.size) (hf : clock_Safe.f 4 l d = some (sf, 0)) (hl : 40 ≤ l) (hn : n = 1 ∨ n = 3 ∨ n = 5) (hm : 0 ≤ me ∧ me < n) :
    Calls Try.prog 7 #[.int .i64 me, .int .i64 n, .int .i64 l, .int .i64 d] w fun e w' => ∃ r, e = .returned (.tuple #[.pointer (some ⟨r, 0, none⟩), .int .i64 0]) ∧ Apt base w' (ts ++ [elT r (newS me n l sf)]) ∧ Below w.heap.size w w' := by
  have HB := Lib.hid (Below.refl w.heap.size w)
  have HA := Lib.hid hA
  have HF := Lib.hid hf
  have e1 : IntKind.i64.wrap (me + 1) = me + 1 := by rw [i64_w]; unfold wrap64; omega
  have e2 : IntKind.i64.wrap (16 * (me + 1)) = 16 * (me + 1) := by rw [i64_w]; unfold wrap64; omega
  have b1 : Go.bits .and .i64 1 1 = 1 := by decide +kernel
  have b3 : Go.bits .and .i64 3 1 = 1 := by decide +kernel
  have b5 : Go.bits .and .i64 5 1 = 1 := by decide +kernel
  have m0 := hm.1
  have m1 := hm.2
  clear hA hf hm
  rcases hn with rfl | rfl | rfl
  all_goals
    go_enter Try.func7, Try.ntmps7
    go_wp2_with (first | ((with_reducible go_at_call 18); go_must (refine (clock_Safe.calls 4 l d sf 0 _ HF.out).mono ?_; rintro e w1 ⟨rfl, hb⟩; have ha_ := Apt.below HA.out hb; clear HA; have HA := Lib.hid ha_; clear ha_; have hb_ := below_step HB.out hb; clear HB; have HB := Lib.hid hb_; clear hb_ hb)) | ((with_reducible go_at_call 19); go_must (refine (ballot_Fresh.calls 0 (-1) 0 0 _ rfl).mono ?_; rintro e w1 ⟨rfl, hb⟩; have ha_ := Apt.below HA.out hb; clear HA; have HA := Lib.hid ha_; clear ha_; have hb_ := below_step HB.out hb; clear HB; have HB := Lib.hid hb_; clear hb_ hb)) | ((with_reducible refine gate_dst (N := 55) rfl ?_); (have q_ := HA; clear q_); refine box_event ?hg (N := 55) ?hd (cs := cellsE (newS me _ l sf) (.slice none 0 0)) (t := 58) ?hr ?_; (case hd => rfl); (case hg => rfl); (case hr => first | (go_simp; done) | (go_simp; rfl)); intro r hg w1 hbox hb; have hy := Apt.add HA.out hb (el_new (Nat.le_of_eq hg.symm) (Nat.le_trans hbw HB.out.size) hbox rfl); have HY := Lib.hid hy; clear HA hy hbox hg; have hb_ := below_step HB.out hb; clear HB; have HB := Lib.hid hb_; clear hb_ hb))
    go_ret2
    exact ⟨_, rfl, Apt.add HA.out (below_alloc (Below.refl _ _) _) (el_new (Nat.le_refl _) (Nat.le_trans hbw HB.out.size) (blk_new _ _) rfl), below_step HB.out (below_alloc (Below.refl _ _) _)⟩
end Go.Proofs.Ytpgmfjpjjnpiiaa.LeaseF
