/- PROVED: lemmas that the row uses (cut copies of my texts and of the printed ones). No condition beyond what each line says. -/
import Derived.Test.YtpgmfjpjjnpiiaaBLeaseO
import Derived.Test.YtpgmfjpjjnpiiaaBLeaseM
import Derived.Test.YtpgmfjpjjnpiiaaBLeaseN
import Derived.Test.YtpgmfjpjjnpiiaaBXA
import Derived.Test.YtpgmfjpjjnpiiaaBLeaseE
import Derived.Test.YtpgmfjpjjnpiiaaBLeaseK
import Derived.Test.YtpgmfjpjjnpiiaaBWAll
import Derived.WalkKit
import Derived.WalkSpells
import Derived.WalkLawsBesides
import Derived.Outline
import Derived.Lib.Hide
import Derived.Deep.LoopGhost
import Derived.Deep.RegionHeld3
import Derived.Deep.DeepCutAuto
import Derived.Deep.RegionLaw
import Derived.BigQuiet
import Derived.Deep.QuietTactic
namespace Go.Proofs.Ytpgmfjpjjnpiiaa.LeaseQ
open Go.RowKit Go.Proofs.Ytpgmfjpjjnpiiaa.PLeaseWakes Go.Proofs.YtpgmfjpjjnpiiaaW.PrintWords Go.Proofs.YtpgmfjpjjnpiiaaW.PrintLast Go.Proofs.YtpgmfjpjjnpiiaaW.PrintMore
attribute [local go_sem] max2_int min2_int max_two min_two max_three min_three max_four min_four
set_option linter.unusedSimpArgs false
set_option linter.unusedVariables false
open Go.Proofs.Ytpgmfjpjjnpiiaa.LeaseA
open Go.Proofs.Ytpgmfjpjjnpiiaa.LeaseB Go.Proofs.Ytpgmfjpjjnpiiaa.LeaseC Go.Proofs.Ytpgmfjpjjnpiiaa.LeaseD Go.Proofs.Ytpgmfjpjjnpiiaa.LeaseH Go.Proofs.Ytpgmfjpjjnpiiaa.LeaseJ Go.Proofs.Ytpgmfjpjjnpiiaa.LeaseK
open Go.Proofs.Ytpgmfjpjjnpiiaa.LeaseL Go.Proofs.Ytpgmfjpjjnpiiaa.LeaseM Go.Proofs.Ytpgmfjpjjnpiiaa.LeaseN Go.Proofs.Ytpgmfjpjjnpiiaa.LeaseG Go.Proofs.Ytpgmfjpjjnpiiaa.LeaseF Go.Proofs.Ytpgmfjpjjnpiiaa.LeaseI
open Go.Proofs.Ytpgmfjpjjnpiiaa.LeaseO Go.Proofs.Ytpgmfjpjjnpiiaa.LeaseE
theorem post_cells {w : World} {A : Option Addr} {l : List S38} (h : Kd.C k38 w A l.length l) {k : Nat} {q : S38} (hq : l[k]? = some q) :
    ∃ b off, A = some ⟨b, off, none⟩ ∧ w.cell? ⟨b, off + k * 9, none⟩ = some (.int .i64 q.f0) ∧ w.cell? ⟨b, off + k * 9 + 1, none⟩ = some (.int .i64 q.f1) ∧ w.cell? ⟨b, off + k * 9 + 2, none⟩ = some (.int .i64 q.f2.f0) ∧ w.cell? ⟨b, off + k * 9 + 3, none⟩ = some (.int .i64 q.f2.f1) ∧ w.cell? ⟨b, off + k * 9 + 4, none⟩ = some (.int .i64 q.f2.f2) ∧ w.cell? ⟨b, off + k * 9 + 5, none⟩ = some (.int .i64 q.f3.f0) ∧ w.cell? ⟨b, off + k * 9 + 6, none⟩ = some (.bool q.f3.f1) ∧ w.cell? ⟨b, off + k * 9 + 7, none⟩ = some (.int .i64 q.f3.f2) ∧ w.cell? ⟨b, off + k * 9 + 8, none⟩ = some (.int .i64 q.f3.f3) := by
  have hk : k < l.length := (List.getElem?_eq_some_iff.1 hq).1
  obtain ⟨b, off, rfl, hb, hel⟩ := LRead.C_addr h (by decide) (by omega)
  obtain ⟨c, hc, hK, hcell⟩ := hel k q hq
  obtain rfl := k38_open hK
  exact ⟨b, off, rfl, hcell 0 _ rfl, hcell 1 _ rfl, hcell 2 _ rfl, hcell 3 _ rfl, hcell 4 _ rfl, hcell 5 _ rfl, hcell 6 _ rfl, hcell 7 _ rfl, hcell 8 _ rfl⟩
/-- The document's example. -/
def aw0 : ES := newS 0 1 40 38
def aw1 : ES := ⟨0, 1, 40, 38, 16, 0, -1, 0, 0, 0, 1, 16, true, [], 0, 0, 16, 1⟩
def aw2 : ES := ⟨0, 1, 40, 38, 16, 1, 0, 56, 16, 0, 1, 16, true, [], 0, 0, 16, 1⟩
def aw3 : ES := ⟨0, 1, 40, 38, 17, 1, 0, 56, 16, 0, 1, 16, false, [⟨0, true, 1, 16⟩], 1, 54, 16, 1⟩
def awp : S38 := ⟨0, 1, ⟨0, 1, 16⟩, z36⟩
def awq : S38 := ⟨0, 2, z34, ⟨0, true, 1, 16⟩⟩
theorem aw_s : clock_Safe.f 4 40 0 = some (38, 0) := (safe_good 40 0 (by decide)).1
theorem aw0_fine : Fine 0 aw0 := newS_fine 0 1 40 38 (by decide) (by decide) (.inl rfl) (by decide) (by decide)
theorem aw_t : tickS aw0 16 1 = (aw1, [awp]) := by rfl
theorem aw_h : hearS 0 (-1) 0 0 16 40 0 1 16 = (1, 0, 56, 16, 0, true, 1, 16) := by simp [hearS, grantB, hfitB, wrap64]
theorem aw_a : askS aw1 16 0 1 16 = (aw2, awq, 1) := by
  unfold askS
  rw [if_neg (by decide)]
  dsimp only
  have e : hearS (toldS aw1 16).ve (toldS aw1 16).vh (toldS aw1 16).vu (toldS aw1 16).vs (toldS aw1 16).now (toldS aw1 16).lease 0 1 16 = (1, 0, 56, 16, 0, true, 1, 16) := aw_h
  rw [e]
  rfl
theorem aw_r : replyS aw2 17 ⟨0, true, 1, 16⟩ = aw3 := by rfl
theorem aw_l : toldS aw3 17 = aw3 := by rfl
theorem aw1_fine : Fine 0 aw1 := by have h := tick_fine aw0_fine 16 1; rw [aw_t] at h; exact h
theorem aw2_fine : Fine 0 aw2 := by have h := ask_fine aw1_fine 16 0 1 16; rw [aw_a] at h; exact h
theorem aw_ask (base r : Nat) (P : Thing) (w : World) (h : Apt base w [elT r aw1, P]) : Calls Try.prog 10 #[.pointer (some ⟨r, 0, none⟩), .int .i64 16, .agg #[.int .i64 0, .int .i64 1, .int .i64 16]] w fun e w' => e = .returned (.tuple #[.agg #[.int .i64 0, .int .i64 2, .int .i64 0, .int .i64 0, .int .i64 0, .int .i64 0, .bool true, .int .i64 1, .int .i64 16], .int .i64 1]) ∧ Apt base w' [elT r aw2, P] ∧ Below base w w' :=
  ask_z base _ [elT r aw2, P] 0 r 0 aw1 aw2 16 0 1 16 awq 1 w h rfl aw1_fine aw_a rfl
/-- A block of one's own. -/
def blk (g : Nat) (cs : Array Value) (t : Nat) : Thing where
  H := fun w base ok => w.heap[g]? = some (.cells cs t (0, 0)) ∧ ok g
  mono := fun h ht => ⟨ht.1, h _ ht.2⟩
  bound := fun h => ⟨h.1, h.2, blk_lt h.1⟩
  lower := fun _ h => h
  step := fun h hs hm => ⟨by rw [hm _ h.2 (blk_lt h.1)]; exact h.1, h.2⟩
theorem blk_at {base : Nat} {ts : List Thing} {w : World} {i g t : Nat} {cs : Array Value} (h : Apt base w ts) (hi : ts[i]? = some (blk g cs t)) : w.heap[g]? = some (.cells cs t (0, 0)) := by
  obtain ⟨U, hH⟩ := h.get hi
  exact hH.1
theorem aw_rep (base r : Nat) (P Q : Thing) (w : World) (h : Apt base w [elT r aw2, P, Q]) : Calls Try.prog 11 #[.pointer (some ⟨r, 0, none⟩), .int .i64 17, .agg #[.int .i64 0, .bool true, .int .i64 1, .int .i64 16]] w fun e w' => e = .returned (.tuple #[]) ∧ Apt base w' [elT r aw3, P, Q] ∧ Below base w w' :=
  reply_z base _ [elT r aw3, P, Q] 0 r 0 aw2 aw3 17 ⟨0, true, 1, 16⟩ w h rfl aw2_fine (by decide) aw_r rfl
theorem aw_lead (base r : Nat) (P Q : Thing) (w : World) (h : Apt base w [elT r aw3, P, Q]) : Calls Try.prog 13 #[.pointer (some ⟨r, 0, none⟩), .int .i64 17] w fun e w' => e = .returned (.tuple #[.int .i64 1, .bool true]) ∧ Apt base w' [elT r aw3, P, Q] ∧ Below base w w' :=
  lead_z base _ [elT r aw3, P, Q] 0 r aw3 aw3 17 1 true w h rfl aw_l rfl rfl rfl
set_option maxHeartbeats 4000000 in
set_option maxRecDepth 100000 in
theorem awake_ok (w : World) : Calls Try.prog 6 #[] w fun e w' => e = .returned (.bool true) ∧ Below w.heap.size w w' := by
  have HB := Lib.hid (Below.refl w.heap.size w)
  have HA := Lib.hid (Apt.none_ w.heap.size w)
  have HF := Lib.hid aw_s
  go_enter Try.func6, Try.ntmps6
  go_upto_region 3 with (first | ((with_reducible go_at_call 7); go_must (refine (new_good w.heap.size [] 0 1 40 0 38 _ HA.out HB.out.size HF.out (by decide) (.inl rfl) (by decide)).mono ?_; rintro e w1 ⟨r, rfl, hy, hb⟩; have HY0 : Hid (Apt w.heap.size w1 [elT r aw0]) := Lib.hid hy; clear HA hy; have hb_ := HB.out.trans (hb.mono HB.out.size); clear HB; have HB := Lib.hid hb_; clear hb_ hb)) | ((with_reducible go_at_call 14); go_must (refine (tick_z w.heap.size _ [elT r aw1] 0 r 0 1 aw0 aw1 16 [awp] _ HY0.out rfl aw0_fine rfl aw_t rfl).mono ?_; rintro e w1 ⟨A, c, rfl, hy, hb⟩; obtain ⟨q1, q2, q3⟩ := post_at hy (i := 1) rfl; obtain ⟨b, off, hA, u0, u1, u2, u3, u4, u5, u6, u7, u8⟩ := post_cells q3 (k := 0) rfl; subst hA; rw [Nat.zero_mul, Nat.add_zero] at u0 u1 u2 u3 u4 u5 u6 u7 u8; have x0 : w1.cell? ⟨b, off, none⟩ = some (.int .i64 0) := u0; have x1 : w1.cell? ⟨b, off + 1, none⟩ = some (.int .i64 1) := u1; have x2 : w1.cell? ⟨b, off + 2, none⟩ = some (.int .i64 0) := u2; have x3 : w1.cell? ⟨b, off + 3, none⟩ = some (.int .i64 1) := u3; have x4 : w1.cell? ⟨b, off + 4, none⟩ = some (.int .i64 16) := u4; have x5 : w1.cell? ⟨b, off + 5, none⟩ = some (.int .i64 0) := u5; have x6 : w1.cell? ⟨b, off + 6, none⟩ = some (.bool false) := u6; have x7 : w1.cell? ⟨b, off + 7, none⟩ = some (.int .i64 0) := u7; have x8 : w1.cell? ⟨b, off + 8, none⟩ = some (.int .i64 0) := u8; clear u0 u1 u2 u3 u4 u5 u6 u7 u8; have HY1 : Hid (Apt w.heap.size w1 [elT r aw1, posts (.slice (some ⟨b, off, none⟩) 1 c) [awp]]) := Lib.hid hy; clear HY0 hy q1 q2 q3; have hb_ := HB.out.trans hb; clear HB; have HB := Lib.hid hb_; clear hb_ hb)))
  go_upto_region 6 with (first | ((with_reducible go_at_call 10); go_must (refine (aw_ask w.heap.size r _ _ HY1.out).mono ?_; rintro e w1 ⟨rfl, hy, hb⟩; clear x0 x1 x2 x3 x4 x5 x6 x7 x8; have HY2 := Lib.hid hy; clear HY1 hy; have hb_ := HB.out.trans hb; clear HB; have HB := Lib.hid hb_; clear hb_ hb)))
  refine world_gen (P := fun w5 => (∃ gp P, Apt w.heap.size w5 [elT r aw2, P, blk gp #[.int .i64 0, .int .i64 2, .int .i64 0, .int .i64 0, .int .i64 0, .int .i64 0, .bool true, .int .i64 1, .int .i64 16] 38] ∧ gp = w1.heap.size) ∧ Below w.heap.size w w5) ⟨⟨_, _, Apt.add HY2.out (below_alloc (Below.refl _ _) _) ⟨blk_new _ _, Nat.le_refl _⟩, rfl⟩, HB.out.alloc HB.out.size _⟩ (fun w5 h5 => ?_)
  obtain ⟨⟨gp, P, hy, hgp⟩, hb5⟩ := h5
  rw [← hgp]
  clear HY2 HB hgp
  have HY4 := Lib.hid hy
  have HB := Lib.hid hb5
  clear hy hb5
  have y5 : w5.cell? ⟨gp, 5, none⟩ = some (.int .i64 0) := (blk_cell (blk_at HY4.out (i := 2) rfl) 5).trans rfl
  have y6 : w5.cell? ⟨gp, 6, none⟩ = some (.bool true) := (blk_cell (blk_at HY4.out (i := 2) rfl) 6).trans rfl
  have y7 : w5.cell? ⟨gp, 7, none⟩ = some (.int .i64 1) := (blk_cell (blk_at HY4.out (i := 2) rfl) 7).trans rfl
  have y8 : w5.cell? ⟨gp, 8, none⟩ = some (.int .i64 16) := (blk_cell (blk_at HY4.out (i := 2) rfl) 8).trans rfl
  go_wp2_with (first | ((with_reducible go_at_call 11); go_must (refine (aw_rep w.heap.size r _ _ _ HY4.out).mono ?_; rintro e w1 ⟨rfl, hy, hb⟩; clear y5 y6 y7 y8; have HY5 := Lib.hid hy; have y6 : World.cell? w1 ⟨gp, 6, none⟩ = some (.bool true) := (blk_cell (blk_at HY5.out (i := 2) rfl) 6).trans rfl; clear HY4 hy; have hb_ := HB.out.trans hb; clear HB; have HB := Lib.hid hb_; clear hb_ hb)) | ((with_reducible go_at_call 13); go_must (refine (aw_lead w.heap.size r _ _ _ HY5.out).mono ?_; rintro e w1 ⟨rfl, hy, hb⟩; clear y6; have HY6 := Lib.hid hy; have y6 : World.cell? w1 ⟨gp, 6, none⟩ = some (.bool true) := (blk_cell (blk_at HY6.out (i := 2) rfl) 6).trans rfl; clear HY5 hy; have hb_ := HB.out.trans hb; clear HB; have HB := Lib.hid hb_; clear hb_ hb)))
  go_ret
  exact ⟨rfl, HB.out⟩
end Go.Proofs.Ytpgmfjpjjnpiiaa.LeaseQ
