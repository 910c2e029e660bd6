/- PROVED: the law WireOne: the walk. No condition. -/
import Derived.Test.YtnkaalapjlmmiaaWireT2
import Derived.Test.YtnkaalapjlmmiaaWKept
import Derived.Test.YtnkaalapjlmmiaaWApart
import Derived.Test.YtnkaalapjlmmiaaLRead
import Derived.Test.YtnkaalapjlmmiaaWApart
import Derived.WalkKit
import Derived.WalkSpells
import Derived.WalkLawsBesides
import Derived.WalkMore
import Derived.Outline
import Derived.Lib.Hide
import Derived.BigQuiet
import Derived.Deep.QuietTactic
import Derived.Deep.RegionHeld3
import Derived.Deep.RegionLaw
import Derived.Deep.LoopGhost
import Derived.Deep.DeepCutAuto
namespace Go.Proofs.Ytnkaalapjlmmiaa.WireOne
open Go.RowKit Go.Proofs.Ytnkaalapjlmmiaa.PWireWrites Go.Proofs.Ytnkaalapjlmmiaa.WirePure Go.Proofs.YtnkaalapjlmmiaaW.PrintWords Go.Proofs.YtnkaalapjlmmiaaW.PrintLast Go.Proofs.YtnkaalapjlmmiaaW.PrintMore
open Go.Proofs.Ytnkaalapjlmmiaa.WireW (slice_at cell_below num_ok text_ok list_ok)
open Go.Proofs.Ytnkaalapjlmmiaa.WireR Go.Proofs.Ytnkaalapjlmmiaa.WireR2 Go.Proofs.Ytnkaalapjlmmiaa.WireR3
open Go.Proofs.Ytnkaalapjlmmiaa.WireT Go.Proofs.Ytnkaalapjlmmiaa.WireD Go.Proofs.Ytnkaalapjlmmiaa.WirePure2
open Go.Proofs.Ytnkaalapjlmmiaa.WireT2
set_option linter.unusedSimpArgs false
set_option linter.unusedVariables false
theorem textsD_no (each : Int) : ∀ (f : Nat) (n : Int) (d : List Int) (acc : List (List Int)) (c : Nat), (textsD f n each d acc c).2.2 ≠ 0 → (textsD f n each d acc c).2.1 = 0 := by
  intro f
  induction f with
  | zero => intro n d acc c h; exact absurd rfl h
  | succ f ih =>
    intro n d acc c h
    rw [textsD] at h ⊢
    by_cases q : n ≤ 0
    · rw [if_pos q] at h
      exact absurd rfl h
    · rw [if_neg q] at h ⊢
      by_cases q2 : (textD d each).2.2 = 0
      · rw [if_neg (by simpa using q2)] at h ⊢
        exact ih _ _ _ _ h
      · rw [if_pos q2]
theorem listD_no (d : List Int) (most each : Int) (h : (listD d most each).2.2 ≠ 0) : (listD d most each).2.1 = 0 := by
  unfold listD at h ⊢
  split
  · rfl
  · rename_i q
    rw [if_neg q] at h
    exact textsD_no _ _ _ _ _ _ h
theorem quiet_below {w w' : World} (hq : ∃ m, w' = w.drewN m) : Below w.heap.size w w' := below_q (Below.refl _ _) hq
theorem same_take (A0 : Option Addr) (c0 n0 : Nat) (A1 : Option Addr) (c1 n1 : Nat) (x b : List Int) (k : Nat) (w : World) (hx : x = b.take k) (hk : k ≤ b.length) (hb : b.length ≤ 1000000) (hn0 : n0 = x.length) (hn1 : n1 = k) (h0 : Kd.C (Kd.int .u8) w A0 x.length x) (hc0 : x.length ≤ c0) (h1 : Kd.C (Kd.int .u8) w A1 b.length b) (hc1 : b.length ≤ c1) :
    Calls Try.prog 12 #[.slice A0 n0 c0, .slice A1 n1 c1] w fun e w' => e = .returned (.bool true) ∧ Below w.heap.size w w' := by
  have hl : (b.take k).length = k := by rw [List.length_take]; omega
  refine same_eq A0 c0 n0 A1 c1 n1 x w (by rw [hx, hl]; omega) hn0 (by rw [hx, hl, hn1]) h0 hc0 ?_ (by rw [hx, hl]; omega)
  rw [hx]
  exact Kd.C_take h1 hk
theorem list_u (A : Option Addr) (c : Nat) (l : List (List Int)) (w : World) (h1 : l.length ≤ 10000) (h2 : ∀ t ∈ l, t.length ≤ 10000) (hC : Kd.C kT w A l.length l) (hc : l.length ≤ c) :
    Calls Try.prog 18 #[.slice A l.length c] w fun e w' => ∃ A' c', e = .returned (.slice A' (listB l).length c') ∧ (listB l).length ≤ c' ∧ Kd.C (Kd.int .u8) w' A' (listB l).length (listB l) ∧ Below w.heap.size w w' := by
  refine (list_ok A c l w hC hc h1 h2).mono ?_
  rintro e w' ⟨v, rfl, hr, hb⟩
  obtain ⟨A', c', rfl⟩ := Kd.R_slice hr
  exact ⟨A', c', rfl, (Kd.R_reads' hr).2.1, (Kd.R_reads' hr).2.2, hb⟩
set_option maxHeartbeats 4000000 in
set_option maxRecDepth 100000 in
theorem one_walk (A : Option Addr) (cap : Nat) (b : List Int) (w : World) (hC : Kd.C (Kd.int .u8) w A b.length b) (hcap : b.length ≤ cap) (hb : Byt b) :
    Calls Try.prog 5 #[.slice A b.length cap] w fun e w' => e = .returned (.bool true) ∧ Below w.heap.size w w' := by
  have HC := Lib.hid hC
  have HBY := Lib.hid hb
  have HB := Lib.hid (Below.refl w.heap.size w)
  clear hC hb
  by_cases q0 : 2000 < b.length
  · have q0' : (2000 : Int) < b.length := by omega
    go_enter Try.func5, Try.ntmps5
    go_wp2_with (first | ((with_reducible go_at_call 11); go_must (refine (awake_ok _).mono ?_; rintro e w' ⟨rfl, hb⟩; have hb_ := below_step HB.out hb; clear HB; have HB := Lib.hid hb_; clear hb_ hb)))
    go_ret
    exact ⟨rfl, HB.out⟩
  have q0' : (b.length : Int) ≤ 2000 := by omega
  have hbl : b.length ≤ 1000000 := by omega
  have hcp : (b.length : Int) ≤ cap := by omega
  clear q0
  obtain ⟨n0, n1, n2, n3⟩ := numD_bd b 18446744073709551615 HBY.out
  have n4 := numD_one b 18446744073709551615 HBY.out
  obtain ⟨t1, t2, t3, t4⟩ := textD_bd b 2000 HBY.out
  have t5 := textD_one b 2000 HBY.out
  have l1 := listD_one b 2000 2000 HBY.out
  have l2 := listD_no b 2000 2000
  obtain ⟨⟨v, k1, e1⟩, hx1⟩ : ∃ x, numD b 18446744073709551615 = x := ⟨_, rfl⟩
  obtain ⟨⟨t, k2, e2⟩, hx2⟩ : ∃ x, textD b 2000 = x := ⟨_, rfl⟩
  obtain ⟨⟨l, k3, e3⟩, hx3⟩ : ∃ x, listD b 2000 2000 = x := ⟨_, rfl⟩
  rw [hx1] at n0 n1 n2 n3 n4
  rw [hx2] at t1 t2 t3 t4 t5
  rw [hx3] at l1 l2
  simp only at n0 n1 n2 n3 n4 t1 t2 t3 t4 t5 l1 l2
  have k1l : (k1 : Int) ≤ b.length := by omega
  have k2l : (k2 : Int) ≤ b.length := by omega
  have hk3 : k3 ≤ b.length := by
    by_cases q : e3 = 0
    · exact (l1 q).2.2.2
    · rw [l2 q]; omega
  have k3l : (k3 : Int) ≤ b.length := by omega
  have s1 : (b.length : Int) - ((b.length : Int) - (k1 : Int)) = k1 := by omega
  have s2 : (b.length : Int) - ((b.length : Int) - (k2 : Int)) = k2 := by omega
  have s3 : (b.length : Int) - ((b.length : Int) - (k3 : Int)) = k3 := by omega
  have HX1 : Hid (numD (b.drop 0) 18446744073709551615 = (v, k1, e1)) := Lib.hid hx1
  have HX2 : Hid (textD (b.drop 0) 2000 = (t, k2, e2)) := Lib.hid hx2
  have HX3 : Hid (listD (b.drop 0) 2000 2000 = (l, k3, e3)) := Lib.hid hx3
  have N3 := Lib.hid n3
  have N4 := Lib.hid n4
  have T5 := Lib.hid t5
  have L1 := Lib.hid l1
  have L2 := Lib.hid l2
  have hk1 := Lib.hid n1
  have hk2 := Lib.hid t1
  have hk3' := Lib.hid hk3
  have ht4 : t.length ≤ 1000000 := by omega
  clear n1 n2 n3 n4 t1 t2 t3 t4 t5 l1 l2 hx1 hx2 hx3 hk3
  obtain ⟨b1, hb1⟩ : ∃ b, (e1 == 0) = b := ⟨_, rfl⟩
  obtain ⟨b2, hb2⟩ : ∃ b, (e2 == 0) = b := ⟨_, rfl⟩
  obtain ⟨b3, hb3⟩ : ∃ b, (e3 == 0) = b := ⟨_, rfl⟩
  have hb3' : (e3 != 0) = !b3 := by rw [← hb3]; rfl
  have F1 : Hid (b1 = true → v < 18446744073709551616 ∧ numB v = b.take k1) := Lib.hid (fun h => by
    have q : e1 = 0 := by rw [h] at hb1; simpa using hb1
    exact ⟨(N3.out q).2, N4.out q⟩)
  have F2 : Hid (b2 = true → textB t = b.take k2) := Lib.hid (fun h => by
    have q : e2 = 0 := by rw [h] at hb2; simpa using hb2
    exact T5.out q)
  have F3 : Hid (b3 = true → listB l = b.take k3 ∧ l.length ≤ 10000 ∧ ∀ t ∈ l, t.length ≤ 10000) := Lib.hid (fun h => by
    have q : e3 = 0 := by rw [h] at hb3; simpa using hb3
    have := L1.out q
    exact ⟨this.1, by omega, fun t ht => by have := this.2.2.1 t ht; omega⟩)
  have G3 : Hid (b3 = false → k3 = 0) := Lib.hid (fun h => by
    have q : e3 ≠ 0 := by rw [h] at hb3; simpa using hb3
    exact L2.out q)
  clear N3 N4 T5 L1 L2
  rcases b1 with _ | _
  all_goals rcases b2 with _ | _
  all_goals rcases b3 with _ | _
  all_goals
    have B1 := Lib.hid hb1
    have B2 := Lib.hid hb2
    have B3 := Lib.hid hb3
    simp only [Bool.not_false, Bool.not_true] at hb3'
    (try have K1 := Lib.hid (F1.out rfl))
    (try have K2 := Lib.hid (F2.out rfl))
    (try have K3 := Lib.hid (F3.out rfl))
    (try have K0 := Lib.hid (G3.out rfl))
    clear F1 F2 F3 G3
    go_enter Try.func5, Try.ntmps5
    go_wp2_with (first | ((with_reducible go_at_call 14); go_must (refine (own_t A cap b _ hbl (Kd.C_below HC.out HB.out) hcap).mono ?_; rintro e w' ⟨A6, c6, rfl, hc6, h6, hb⟩; have hb_ := below_step HB.out hb; clear HB; have HB := Lib.hid hb_; clear hb_ hb; have H6 := Lib.hid h6; clear h6; (try clear HR))) | ((with_reducible go_at_call 21); go_must (refine (read_b w A6 c6 b _ HB.out H6.out hc6 hbl).mono ?_; rintro e w' ⟨r, Ar, cr, rfl, hr, hb⟩; clear H6 hc6; have HR := Lib.hid hr; have hb_ := below_step HB.out hb; clear HB; have HB := Lib.hid hb_; clear hb_ hb; clear hr)) | ((with_reducible go_at_call 22); go_must (refine (num_b w.heap.size r Ar cr b 0 _ _ _ _ _ HR.out hbl HBY.out (by omega) (by omega) HX1.out).mono ?_; rintro y w' ⟨rfl, hr, hg⟩; rw [Nat.zero_add] at hr; have hb_ := below_g HB.out hg HB.out.size hr.2.1; clear HB HR; have HB := Lib.hid hb_; have HR := Lib.hid hr; clear hb_ hr hg)) | ((with_reducible go_at_call 25); go_must (refine (text_b w.heap.size r Ar cr b 0 _ _ _ _ _ HR.out hbl HBY.out (by omega) HX2.out).mono ?_; rintro y w' ⟨At, ct, rfl, hct, hT, hr, hg⟩; have HT := Lib.hid hT; clear hT; rw [Nat.zero_add] at hr; have hb_ := below_g HB.out hg HB.out.size hr.2.1; clear HB HR; have HB := Lib.hid hb_; have HR := Lib.hid hr; clear hb_ hr hg)) | ((with_reducible go_at_call 24); go_must (refine (list_b w.heap.size r Ar cr b 0 _ _ _ _ _ _ HR.out hbl HBY.out (by omega) (by omega) HX3.out).mono ?_; rintro y w' ⟨As, cs, rfl, hs, hr, hg⟩; have HS := Lib.hid (Kd.S_reads' hs); clear hs; (try rw [K0.out] at hr); rw [Nat.zero_add] at hr; have hb_ := below_g HB.out hg HB.out.size hr.2.1; clear HB HR; have HB := Lib.hid hb_; have HR := Lib.hid hr; clear hb_ hr hg)) | ((with_reducible go_at_call 26); go_must (refine (err_is r _ _ HR.out.c2).mono ?_; rintro y w' ⟨rfl, rfl⟩)) | ((with_reducible go_at_call 27); go_must (refine (left_is r Ar b.length cr _ _ HR.out.c0 HR.out.c1 HR.out.2.2.1 (by omega)).mono ?_; rintro y w' ⟨rfl, hq⟩; have hb := quiet_below hq; have hr_ := HR.out.below hb; clear HR; have HR := Lib.hid hr_; clear hr_ hq; (try (have hk_ := Kd.C_below HT.out hb; clear HT; have HT := Lib.hid hk_; clear hk_)); (try (have hk_ := Kd.C_below HS.out.2.2 hb; have hk2_ := HS.out.2.1; clear HS; have HS := Lib.hid (And.intro True.intro (And.intro hk2_ hk_)); clear hk_ hk2_)); (try (have hk_ := Kd.C_below H1.out hb; clear H1; have H1 := Lib.hid hk_; clear hk_)); (try (have hk_ := Kd.C_below H2.out hb; clear H2; have H2 := Lib.hid hk_; clear hk_)); (try (have hk_ := Kd.C_below H3.out hb; clear H3; have H3 := Lib.hid hk_; clear hk_)); have hb_ := below_step HB.out hb; clear HB; have HB := Lib.hid hb_; clear hb_ hb)) | ((with_reducible go_at_call 16); go_must (refine (num_t v _ n0 K1.out.1).mono ?_; rintro y w' ⟨A1, c1, rfl, hc1, h1, hb⟩; have hr_ := HR.out.below hb; clear HR; have HR := Lib.hid hr_; clear hr_; have hb_ := below_step HB.out hb; clear HB; have HB := Lib.hid hb_; clear hb_ hb; have H1 := Lib.hid h1; clear h1)) | ((with_reducible go_at_call 13); go_must (refine (text_t At ct t _ ht4 HT.out hct).mono ?_; rintro y w' ⟨A2, c2, rfl, hc2, h2, hb⟩; have hr_ := HR.out.below hb; clear HR; have HR := Lib.hid hr_; clear hr_; have hb_ := below_step HB.out hb; clear HB; have HB := Lib.hid hb_; clear hb_ hb; have H2 := Lib.hid h2; clear h2 HT)) | ((with_reducible go_at_call 18); go_must (refine (list_u As cs l _ K3.out.2.1 K3.out.2.2 HS.out.2.2 HS.out.2.1).mono ?_; rintro y w' ⟨A3, c3, rfl, hc3, h3, hb⟩; have hr_ := HR.out.below hb; clear HR; have HR := Lib.hid hr_; clear hr_; have hb_ := below_step HB.out hb; clear HB; have HB := Lib.hid hb_; clear hb_ hb; have H3 := Lib.hid h3; clear h3 HS)) | ((with_reducible go_at_call 12); have _t := H1; clear _t; go_must (refine (same_take A1 c1 _ A cap _ (numB v) b k1 _ (K1.out.2) hk1.out hbl rfl rfl H1.out hc1 (Kd.C_below HC.out HB.out) hcap).mono ?_; rintro y w' ⟨rfl, hb⟩; clear H1; have hr_ := HR.out.below hb; clear HR; have HR := Lib.hid hr_; clear hr_; have hb_ := below_step HB.out hb; clear HB; have HB := Lib.hid hb_; clear hb_ hb)) | ((with_reducible go_at_call 12); have _t := H2; clear _t; go_must (refine (same_take A2 c2 _ A cap _ (textB t) b k2 _ (K2.out) hk2.out hbl rfl rfl H2.out hc2 (Kd.C_below HC.out HB.out) hcap).mono ?_; rintro y w' ⟨rfl, hb⟩; clear H2; have hr_ := HR.out.below hb; clear HR; have HR := Lib.hid hr_; clear hr_; have hb_ := below_step HB.out hb; clear HB; have HB := Lib.hid hb_; clear hb_ hb)) | ((with_reducible go_at_call 12); have _t := H3; clear _t; go_must (refine (same_take A3 c3 _ A cap _ (listB l) b k3 _ (K3.out.1) hk3'.out hbl rfl rfl H3.out hc3 (Kd.C_below HC.out HB.out) hcap).mono ?_; rintro y w' ⟨rfl, hb⟩; clear H3; have hr_ := HR.out.below hb; clear HR; have HR := Lib.hid hr_; clear hr_; have hb_ := below_step HB.out hb; clear HB; have HB := Lib.hid hb_; clear hb_ hb)) | ((with_reducible go_at_call 11); go_must (refine (awake_ok _).mono ?_; rintro e w' ⟨rfl, hb⟩; have hb_ := below_step HB.out hb; clear HB; have HB := Lib.hid hb_; clear hb_ hb)))
    go_ret
    exact ⟨rfl, HB.out⟩
end Go.Proofs.Ytnkaalapjlmmiaa.WireOne
