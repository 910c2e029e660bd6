/- PROVED: lemmas that the row uses (cut copies of my texts and of the printed ones). No condition beyond what each line says. -/
import Derived.Test.YtpgmfjpjjnpiiaaBRLeaseF
import Derived.Test.YtpgmfjpjjnpiiaaBRLeaseB
import Derived.Test.YtpgmfjpjjnpiiaaBRLeaseA
import Derived.Test.YtpgmfjpjjnpiiaaBLeaseO
import Derived.Test.YtpgmfjpjjnpiiaaBLeaseM
import Derived.Test.YtpgmfjpjjnpiiaaBLeaseN
import Derived.Test.YtpgmfjpjjnpiiaaBXA
import Derived.Test.YtpgmfjpjjnpiiaaBLeaseE
import Derived.Test.YtpgmfjpjjnpiiaaBLeaseK
import Derived.Test.YtpgmfjpjjnpiiaaBWAll
import Derived.WalkKit
import Derived.WalkSpells
import Derived.WalkLawsBesides
import Derived.Outline
import Derived.Lib.Hide
import Derived.Deep.LoopGhost
import Derived.Deep.RegionHeld3
import Derived.Deep.DeepCutAuto
import Derived.Deep.RegionLaw
import Derived.BigQuiet
import Derived.Deep.QuietTactic
namespace Go.Proofs.Ytpgmfjpjjnpiiaa.RLeaseG
open Go.RowKit Go.Proofs.Ytpgmfjpjjnpiiaa.PLeaseWakes Go.Proofs.YtpgmfjpjjnpiiaaW.PrintWords Go.Proofs.YtpgmfjpjjnpiiaaW.PrintLast Go.Proofs.YtpgmfjpjjnpiiaaW.PrintMore
attribute [local go_sem] max2_int min2_int max_two min_two max_three min_three max_four min_four
set_option linter.unusedSimpArgs false
set_option linter.unusedVariables false
open Go.Proofs.Ytpgmfjpjjnpiiaa.LeaseA
open Go.Proofs.Ytpgmfjpjjnpiiaa.LeaseB Go.Proofs.Ytpgmfjpjjnpiiaa.LeaseC Go.Proofs.Ytpgmfjpjjnpiiaa.LeaseD Go.Proofs.Ytpgmfjpjjnpiiaa.LeaseH Go.Proofs.Ytpgmfjpjjnpiiaa.LeaseJ Go.Proofs.Ytpgmfjpjjnpiiaa.LeaseK
open Go.Proofs.Ytpgmfjpjjnpiiaa.LeaseL Go.Proofs.Ytpgmfjpjjnpiiaa.LeaseM Go.Proofs.Ytpgmfjpjjnpiiaa.LeaseN Go.Proofs.Ytpgmfjpjjnpiiaa.LeaseG Go.Proofs.Ytpgmfjpjjnpiiaa.LeaseF Go.Proofs.Ytpgmfjpjjnpiiaa.LeaseI
open Go.Proofs.Ytpgmfjpjjnpiiaa.LeaseO
open Go.Proofs.Ytpgmfjpjjnpiiaa.RLeaseA
open Go.Proofs.Ytpgmfjpjjnpiiaa.RLeaseB
open Go.Proofs.Ytpgmfjpjjnpiiaa.RLeaseF
theorem Apt.last {base : Nat} {w : World} {ts : List Thing} {t : Thing} (h : Apt base w (ts ++ [t])) : ∃ U, t.H w base U ∧ (∀ k, U k → k < w.heap.size) ∧
    ∀ (w1 : World) (t1 : Thing), w.heap.size ≤ w1.heap.size → t1.H w1 base (fun k => U k ∨ w.heap.size ≤ k) → Kept w w1 U → Apt base w1 (ts ++ [t1]) := by
  obtain ⟨U, h1, h2, h3⟩ := Apt.op3 h (i := ts.length) (t := t) (by simp)
  refine ⟨U, h1, h2, fun w1 t1 hs ht hk => ?_⟩
  have := h3 w1 t1 hs ht hk
  rwa [List.set_append_right _ _ (Nat.le_refl _), Nat.sub_self] at this
theorem reT_open {base r : Nat} {w : World} {U : Nat → Prop} {s : ES} (h : (reT r s).H w base U) (hU : ∀ k, U k → k < w.heap.size) : ∃ okl v, RIs base okl w r v s ∧ U r ∧ (∀ k, okl k → U k ∧ k ≠ r) ∧ ∀ k, okl k → k < w.heap.size := by
  obtain ⟨okl, v, h1, h2, h3⟩ := h
  exact ⟨okl, v, h1, h2, h3, fun k hk => hU k (h3 k hk).1⟩
/-- A woken vote. -/
def wokenB (ep now l : Int) : Bool := decide (0 ≤ ep ∧ ep ≤ 1099511627776 ∧ 0 ≤ now ∧ now ≤ 1099511627776 ∧ 40 ≤ l ∧ l ≤ 1000)
theorem woken_yes (ep now l : Int) (h : wokenB ep now l = true) : ballot_Woken.f ep now l = some (ep, -1, now + l, 0, 0) := by
  have h := of_decide_eq_true h
  unfold ballot_Woken.f
  rw [right_is]
  simp only [Option.bind_some, decide_eq_true_eq]
  rw [if_neg (by omega), if_neg (by omega), if_pos (by omega), show wrap64 (now + l) = now + l by unfold wrap64; omega]
theorem woken_no (ep now l : Int) (h : wokenB ep now l = false) : ballot_Woken.f ep now l = some (0, 0, 0, 0, 1) := by
  have h := of_decide_eq_false h
  unfold ballot_Woken.f
  rw [right_is]
  simp only [Option.bind_some, decide_eq_true_eq]
  by_cases c : ep < 0
  · rw [if_pos c]
  rw [if_neg c]
  by_cases c1 : ep > 1099511627776
  · rw [if_pos c1]
  rw [if_neg c1, if_neg (by omega)]
/-- A woken elector. -/
def wakeS (me n l sf ep now : Int) : ES := ⟨me, n, l, sf, now, ep, -1, now + l, 0, 0, 0, 0, false, [], 0, 0, now + 16 * (me + 1), 0⟩
theorem wakeS_fine (me n l sf ep now : Int) (hl : 40 ≤ l) (hl2 : l ≤ 1000) (hn : n = 1 ∨ n = 3 ∨ n = 5) (hm : 0 ≤ me ∧ me < n) (hs : 0 ≤ sf ∧ sf ≤ 1000) (hw : wokenB ep now l = true) : Fine 0 (wakeS me n l sf ep now) := by
  have h := of_decide_eq_true hw
  exact ⟨hn, hm.1, hm.2, hl, hl2, hs.1, hs.2, h.2.2.1, h.2.2.2.1, (show (0 : Int) ≤ 0 by decide), (show (0 : Int) ≤ 1099511627776 by decide), h.1, h.2.1, (show (0 : Int) ≤ 0 by decide), (show (0 : Int) ≤ 1099511627776 by decide), by simp [wakeS], fun p hp => by simp [wakeS] at hp, fun h => by simp [wakeS] at h⟩
set_option maxHeartbeats 4000000 in
set_option maxRecDepth 100000 in
theorem wake_far (me n l d ep now : Int) (w : World) (h : goodB me n l d = false) :
    Calls Try.prog 16 #[.int .i64 me, .int .i64 n, .int .i64 l, .int .i64 d, .int .i64 ep, .int .i64 now] w fun e w' => e = .returned (.tuple #[.pointer none, .int .i64 1]) ∧ Below w.heap.size w w' := by
  have HB := Lib.hid (Below.refl w.heap.size w)
  go_enter Try.func16, Try.ntmps16
  go_wp2_with (first | ((with_reducible go_at_call 7); go_must (refine (new_no me n l d _ h).mono ?_; rintro e w1 ⟨rfl, hb⟩; have hb_ := below_step HB.out hb; clear HB; have HB := Lib.hid hb_; clear hb_ hb)))
  go_ret2
  exact ⟨rfl, HB.out⟩
set_option maxHeartbeats 4000000 in
set_option maxRecDepth 100000 in
theorem wake_no (me n l d ep now : Int) (w : World) (h : goodB me n l d = true) (hk : wokenB ep now l = false) :
    Calls Try.prog 16 #[.int .i64 me, .int .i64 n, .int .i64 l, .int .i64 d, .int .i64 ep, .int .i64 now] w fun e w' => e = .returned (.tuple #[.pointer none, .int .i64 1]) ∧ Below w.heap.size w w' := by
  have HB := Lib.hid (Below.refl w.heap.size w)
  have HW := Lib.hid (woken_no ep now l hk)
  clear hk
  go_enter Try.func16, Try.ntmps16
  go_wp2_with (first | ((with_reducible go_at_call 7); go_must (refine (new_yes w.heap.size [] me n l d _ (Apt.none_ _ _) HB.out.size h).mono ?_; rintro e w1 ⟨r, rfl, hy, hb⟩; obtain ⟨U, hT, hU, hP⟩ := Apt.last hy; obtain ⟨okl, v, h1, h2, h3, h4⟩ := elT_open hT hU; have H1 := Lib.hid h1; have HGE : Hid (w.heap.size ≤ r) := Lib.hid h1.2.1; have hb_ := below_step HB.out hb; clear HB; have HB := Lib.hid hb_; clear hb_ hb; clear hy hT hU hP h1 h2 h3 h4)) | ((with_reducible go_at_call 38); go_must (refine (ballot_Woken.calls ep now l 0 0 0 0 1 _ HW.out).mono ?_; rintro e w2 ⟨rfl, hb⟩; have h2 := H1.out.kept hb; have d5 := h2.cells.2.2.2.2.2.1; have d6 := h2.cells.2.2.2.2.2.2.1; have d7 := h2.cells.2.2.2.2.2.2.2.1; have d8 := h2.cells.2.2.2.2.2.2.2.2.1; have f5 := h2.free 5; have f6 := h2.free 6; have f7 := h2.free 7; have f8 := h2.free 8; have hb_ := below_step HB.out hb; clear HB; have HB := Lib.hid hb_; clear hb_ hb; clear h2)))
  go_ret2
  exact ⟨rfl, (below_set (below_set (below_set (below_set HB.out HGE.out) HGE.out) HGE.out) HGE.out)⟩
set_option maxHeartbeats 4000000 in
set_option maxRecDepth 100000 in
theorem wake_yes (base : Nat) (ts : List Thing) (me n l d ep now : Int) (w : World) (hA : Apt base w ts) (hbw : base ≤ w.heap.size) (h : goodB me n l d = true) (hk : wokenB ep now l = true) :
    Calls Try.prog 16 #[.int .i64 me, .int .i64 n, .int .i64 l, .int .i64 d, .int .i64 ep, .int .i64 now] w fun e w' => ∃ r, e = .returned (.tuple #[.pointer (some ⟨r, 0, none⟩), .int .i64 0]) ∧ Apt base w' (ts ++ [elT r (wakeS me n l (safeS l d) ep now)]) ∧ Below base w w' := by
  have HA := Lib.hid hA
  have HW := Lib.hid (woken_yes ep now l hk)
  have ew : IntKind.i64.wrap (now + 16 * (me + 1)) = now + 16 * (me + 1) := by
    have h1 := of_decide_eq_true hk
    obtain ⟨_, h2, h3, h4, h5⟩ := good_of h
    rw [i64_w]; unfold wrap64; omega
  clear hA hk
  go_enter Try.func16, Try.ntmps16
  go_wp2_with (first | ((with_reducible go_at_call 7); go_must (refine (new_yes base ts me n l d _ HA.out hbw h).mono ?_; rintro e w1 ⟨r, rfl, hy, hb⟩; obtain ⟨U, hT, hU, hP⟩ := Apt.last hy; obtain ⟨okl, v, h1, h2, h3, h4⟩ := elT_open hT hU; have H1 := Lib.hid h1; have HP := Lib.hid (And.intro h2 (And.intro h3 hP)); have HB1 := Lib.hid hb; clear hy hT hU hP h1 h2 h3 h4 hb HA)) | ((with_reducible go_at_call 38); go_must (refine (ballot_Woken.calls ep now l ep (-1) (now + l) 0 0 _ HW.out).mono ?_; rintro e w2 ⟨rfl, hb⟩; have h2 := H1.out.kept hb; have d5 := h2.cells.2.2.2.2.2.1; have d6 := h2.cells.2.2.2.2.2.2.1; have d7 := h2.cells.2.2.2.2.2.2.2.1; have d8 := h2.cells.2.2.2.2.2.2.2.2.1; have f5 := h2.free 5; have f6 := h2.free 6; have f7 := h2.free 7; have f8 := h2.free 8; have d4 := h2.cells.2.2.2.2.1; have f4 := h2.free 4; have d16 : w2.cell? ⟨r, 16, none⟩ = some (.int .i64 (16 * (me + 1))) := h2.cells.2.2.2.2.2.2.2.2.2.2.2.2.2.2.2.2.1; have f16 := h2.free 16; have H2 := Lib.hid h2; have HT2 := Lib.hid ((Stp.refl base r _).below H1.out hb); clear h2 hb)))
  go_ret2
  obtain ⟨v1, v2, v3⟩ := vote_put H2.out ep (-1) (now + l) 0
  have v4 := v1.put (s' := { newS me n l (safeS l d) with ve := ep, vh := -1, vu := now + l, vs := 0, now := now }) 4 (.int .i64 now) rfl rfl
  have v5 := v4.put (s' := wakeS me n l (safeS l d) ep now) 16 (.int .i64 (now + 16 * (me + 1))) rfl rfl
  have k4 := v1.keep 4 (.int .i64 now)
  have k5 := v4.keep 16 (.int .i64 (now + 16 * (me + 1)))
  have kk := HT2.out.trans (Stp.trans ⟨v2, v3⟩ (Stp.trans k4 k5))
  have hq := HP.out
  obtain ⟨q1, q2, q3⟩ := hq
  exact ⟨r, rfl, q3 _ _ kk.2.1 ⟨okl, v, v5, .inl q1, fun k hk => ⟨.inl (q2 k hk).1, (q2 k hk).2⟩⟩ (kk.2.mono (fun k hk => by subst hk; exact q1)), (HB1.out.mono hbw).trans kk.1⟩
set_option maxHeartbeats 4000000 in
set_option maxRecDepth 100000 in
theorem rwake_far (me n l d ep now : Int) (w : World) (h : juratref16_right.f me n l d = some false) :
    Calls Try.prog 17 #[.int .i64 me, .int .i64 n, .int .i64 l, .int .i64 d, .int .i64 ep, .int .i64 now] w fun e w' => e = .returned (.tuple #[.pointer none, .int .i64 1]) ∧ Below w.heap.size w w' := by
  have HB := Lib.hid (Below.refl w.heap.size w)
  obtain ⟨x1, x2, x3, x4, x5, hx⟩ := woken_some ep now l
  rw [woken_is] at hx
  have HW := Lib.hid hx
  clear hx
  go_enter Try.func17, Try.ntmps17
  go_upto_region 3 with (first | ((with_reducible go_at_call 8); go_must (refine (rnew_no me n l d _ h).mono ?_; rintro e w1 ⟨rfl, hb⟩; have hb_ := below_step HB.out hb; clear HB; have HB := Lib.hid hb_; clear hb_ hb)) | ((with_reducible go_at_call 39); go_must (refine (juratref15_Woken.calls ep now l x1 x2 x3 x4 x5 _ HW.out).mono ?_; rintro e w2 ⟨rfl, hb⟩; have hb_ := below_step HB.out hb; clear HB; have HB := Lib.hid hb_; clear hb_ hb)))
  have hb1 := below_step HB.out (below_alloc (Below.refl _ _) (.cells #[.int .i64 x1, .int .i64 x2, .int .i64 x3, .int .i64 x4] 48))
  go_wp2
  go_ret2
  exact ⟨rfl, hb1⟩
set_option maxHeartbeats 4000000 in
set_option maxRecDepth 100000 in
theorem rwake_no (me n l d ep now : Int) (w : World) (h : goodB me n l d = true) (hk : wokenB ep now l = false) :
    Calls Try.prog 17 #[.int .i64 me, .int .i64 n, .int .i64 l, .int .i64 d, .int .i64 ep, .int .i64 now] w fun e w' => e = .returned (.tuple #[.pointer none, .int .i64 1]) ∧ Below w.heap.size w w' := by
  have HB := Lib.hid (Below.refl w.heap.size w)
  have hx := woken_no ep now l hk
  rw [woken_is] at hx
  have HW := Lib.hid hx
  obtain ⟨g1, g2, g3, g4, g5⟩ := good_of h
  have HG := Lib.hid (And.intro ((right16_is me n l d).trans (congrArg some h)) (And.intro (rsafe_good l d g1) (show 0 ≤ me ∧ me ≤ 5 by omega)))
  clear hx hk h g1 g2 g3 g4 g5
  go_enter Try.func17, Try.ntmps17
  go_upto_region 3 with (first | ((with_reducible go_at_call 8); go_must (refine (rnew_yes w.heap.size [] me n l d _ _ (Apt.none_ _ _) HB.out.size HG.out.1 HG.out.2.1 HG.out.2.2).mono ?_; rintro e w1 ⟨r, rfl, hy, hb⟩; have hb_ := below_step HB.out hb; clear HB; have HB := Lib.hid hb_; clear hb_ hb; clear hy)) | ((with_reducible go_at_call 39); go_must (refine (juratref15_Woken.calls ep now l 0 0 0 0 1 _ HW.out).mono ?_; rintro e w2 ⟨rfl, hb⟩; have hb_ := below_step HB.out hb; clear HB; have HB := Lib.hid hb_; clear hb_ hb)))
  have hb1 := below_step HB.out (below_alloc (Below.refl _ _) (.cells #[.int .i64 0, .int .i64 0, .int .i64 0, .int .i64 0] 48))
  go_wp2
  go_ret2
  exact ⟨rfl, hb1⟩
set_option maxHeartbeats 4000000 in
set_option maxRecDepth 100000 in
theorem rwake_yes (base : Nat) (ts : List Thing) (me n l d ep now : Int) (w : World) (hA : Apt base w ts) (hbw : base ≤ w.heap.size) (h : goodB me n l d = true) (hk : wokenB ep now l = true) :
    Calls Try.prog 17 #[.int .i64 me, .int .i64 n, .int .i64 l, .int .i64 d, .int .i64 ep, .int .i64 now] w fun e w' => ∃ r, e = .returned (.tuple #[.pointer (some ⟨r, 0, none⟩), .int .i64 0]) ∧ Apt base w' (ts ++ [reT r (wakeS me n l (safeS l d) ep now)]) ∧ Below base w w' := by
  have HA := Lib.hid hA
  have hx := woken_yes ep now l hk
  rw [woken_is] at hx
  have HW := Lib.hid hx
  obtain ⟨g1, g2, g3, g4, g5⟩ := good_of h
  have hq := of_decide_eq_true hk
  have HG := Lib.hid (And.intro ((right16_is me n l d).trans (congrArg some h)) (And.intro (rsafe_good l d g1) (show 0 ≤ me ∧ me ≤ 5 by omega)))
  have e1 : IntKind.i64.wrap (me + 1) = me + 1 := by rw [i64_w]; unfold wrap64; omega
  have e2 : IntKind.i64.wrap (16 * (me + 1)) = 16 * (me + 1) := by rw [i64_w]; unfold wrap64; omega
  have ew : IntKind.i64.wrap (now + 16 * (me + 1)) = now + 16 * (me + 1) := by rw [i64_w]; unfold wrap64; omega
  clear hx hk h g1 g2 g3 g4 g5 hq hA
  go_enter Try.func17, Try.ntmps17
  go_upto_region 3 with (first | ((with_reducible go_at_call 8); go_must (refine (rnew_yes base ts me n l d _ _ HA.out hbw HG.out.1 HG.out.2.1 HG.out.2.2).mono ?_; rintro e w1 ⟨r, rfl, hy, hb⟩; obtain ⟨U, hT, hU, hP⟩ := Apt.last hy; obtain ⟨okl, v, h1, h2, h3, h4⟩ := reT_open hT hU; have H1 := Lib.hid h1; have HP := Lib.hid (And.intro h2 (And.intro h3 hP)); have HB1 := Lib.hid hb; clear hy hT hU hP h1 h2 h3 h4 hb HA)) | ((with_reducible go_at_call 39); go_must (refine (juratref15_Woken.calls ep now l ep (-1) (now + l) 0 0 _ HW.out).mono ?_; rintro e w2 ⟨rfl, hb⟩; have H2 := Lib.hid (H1.out.kept hb); have HT2 := Lib.hid (H1.out.stp (Stp.refl base r _) hb); clear hb)))
  refine world_gen (P := fun w5 => ∃ g, g = w2.heap.size ∧ RIs base okl w5 r v (newS me n l (safeS l d)) ∧ Stp base r w1 w5 ∧ w5.heap[g]? = some (.cells #[.int .i64 ep, .int .i64 (-1), .int .i64 (now + l), .int .i64 0] 48 (0, 0))) ⟨_, rfl, H2.out.kept (below_alloc (Below.refl _ _) _), H2.out.stp HT2.out (below_alloc (Below.refl _ _) _), blk_new _ _⟩ (fun w5 h5 => ?_)
  obtain ⟨g, hg, p1, p2, p3⟩ := h5
  rw [← hg]
  clear hg H2 HT2
  have H2 := Lib.hid p1
  have HT2 := Lib.hid p2
  have x0 := (blk_cell p3 0).trans (rfl : _ = some (Value.int .i64 ep))
  have x1 := (blk_cell p3 1).trans (rfl : _ = some (Value.int .i64 (-1)))
  have x2 := (blk_cell p3 2).trans (rfl : _ = some (Value.int .i64 (now + l)))
  have x3 := (blk_cell p3 3).trans (rfl : _ = some (Value.int .i64 0))
  have n1 : ¬ r = g := blk_ne p1.1 p3 (by decide)
  have n2 : ¬ g = r := fun e => n1 e.symm
  have d4 := p1.cells.2.2.2.2.1
  have f4 := p1.free 4
  have d5 := p1.cells.2.2.2.2.2.1
  have f5 := p1.free 5
  have d6 := p1.cells.2.2.2.2.2.2.1
  have f6 := p1.free 6
  have d7 := p1.cells.2.2.2.2.2.2.2.1
  have f7 := p1.free 7
  have d8 := p1.cells.2.2.2.2.2.2.2.2.1
  have f8 := p1.free 8
  have d15 := p1.cells.2.2.2.2.2.2.2.2.2.2.2.2.2.2.2.1
  have f15 := p1.free 15
  clear p1 p2 p3
  go_wp2
  go_ret2
  have v0 := H2.out.put (s' := { newS me n l (safeS l d) with now := now }) 4 (.int .i64 now) rfl rfl
  have k0 := H2.out.keep 4 (.int .i64 now)
  obtain ⟨v1, v2, v3⟩ := rvote_put v0 ep (-1) (now + l) 0
  have v5 := v1.put (s' := wakeS me n l (safeS l d) ep now) 15 (.int .i64 (now + 16 * (me + 1))) rfl rfl
  have k5 := v1.keep 15 (.int .i64 (now + 16 * (me + 1)))
  have kk := HT2.out.trans (Stp.trans k0 (Stp.trans ⟨v2, v3⟩ k5))
  obtain ⟨q1, q2, q3⟩ := HP.out
  exact ⟨r, rfl, q3 _ _ kk.2.1 ⟨okl, v, v5, .inl q1, fun k hk => ⟨.inl (q2 k hk).1, (q2 k hk).2⟩⟩ (kk.2.mono (fun k hk => by subst hk; exact q1)), (HB1.out.mono hbw).trans kk.1⟩
end Go.Proofs.Ytpgmfjpjjnpiiaa.RLeaseG
