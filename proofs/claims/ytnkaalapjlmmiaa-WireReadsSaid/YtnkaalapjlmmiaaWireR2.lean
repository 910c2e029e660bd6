/- PROVED: more contracts of layer 4's reader. No condition beyond what each line says. -/
import Derived.Test.YtnkaalapjlmmiaaWireR
import Derived.Test.YtnkaalapjlmmiaaWKept
import Derived.Test.YtnkaalapjlmmiaaLRead
import Derived.Test.YtnkaalapjlmmiaaWApart
import Derived.WalkKit
import Derived.WalkSpells
import Derived.WalkLawsBesides
import Derived.WalkMore
import Derived.Outline
import Derived.Lib.Hide
import Derived.BigQuiet
import Derived.Deep.QuietTactic
import Derived.Deep.RegionHeld3
import Derived.Deep.RegionLaw
import Derived.Deep.LoopGhost
import Derived.Deep.DeepCutAuto
namespace Go.Proofs.Ytnkaalapjlmmiaa.WireR2
open Go.RowKit Go.Proofs.Ytnkaalapjlmmiaa.PWireWrites Go.Proofs.Ytnkaalapjlmmiaa.WirePure Go.Proofs.YtnkaalapjlmmiaaW.PrintWords Go.Proofs.YtnkaalapjlmmiaaW.PrintLast Go.Proofs.YtnkaalapjlmmiaaW.PrintMore
open Go.Proofs.Ytnkaalapjlmmiaa.WireW (slice_at cell_below num_ok text_ok list_ok)
open Go.Proofs.Ytnkaalapjlmmiaa.WireR
set_option linter.unusedSimpArgs false
set_option linter.unusedVariables false
set_option maxHeartbeats 4000000 in
set_option maxRecDepth 100000 in
theorem cnt_read (base : Nat) (ok : Nat → Prop) (r : Nat) (A : Option Addr) (cap : Nat) (l : List Int) (at_ : Nat) (most : Int) (w : World) (h : RdIs base ok w r A cap l at_ 0) (hl : l.length ≤ 1000000000) (hb : Byt l) (hm : most ≤ 9223372036854775807) :
    Calls Try.prog 43 #[.pointer (some ⟨r, 0, none⟩), .int .i64 most, .int .i64 at_] w (NumIs base ok r A cap l at_ (cntD (l.drop at_) most) w) := by
  have hat := h.2.2.1
  have HR := Lib.hid h
  have HG := Lib.hid (World.grownBy.refl w (some r))
  have HBY := Lib.hid hb
  clear h hb
  obtain ⟨n0, _, nE, nO⟩ := numD_bd (l.drop at_) 18446744073709551615 (byt_drop HBY.out at_)
  have hcd : cntD (l.drop at_) most = cntD (l.drop at_) most := rfl
  conv at hcd => rhs; unfold cntD
  rw [hcd]
  clear hcd
  obtain ⟨⟨v, c, e⟩, hx⟩ : ∃ x, numD (l.drop at_) 18446744073709551615 = x := ⟨_, rfl⟩
  rw [hx] at n0 nE nO ⊢
  simp only at n0 nE nO ⊢
  have HX := Lib.hid hx
  clear hx
  by_cases q1 : e = 0
  · subst q1
    have nV := (nO rfl).2
    clear nE nO
    rw [if_neg (by simp)]
    by_cases q2 : most < 0
    · rw [if_pos (.inl q2)]
      have q2' : decide (most < 0) = true := by simpa using q2
      go_enter Try.func43, Try.ntmps43
      go_wp2_with (first | ((with_reducible go_at_call 22); go_must (refine (num_read base ok r A cap l at_ 18446744073709551615 _ HR.out hl HBY.out (by omega) (by omega)).mono ?_; rw [HX.out]; rintro y w' ⟨rfl, hr, hg⟩; have hg_ := HG.out.trans hg; clear HR HG; have HR := Lib.hid hr; have HG := Lib.hid hg_; have h2 := HR.out.c2; clear hr hg hg_)) | ((with_reducible go_at_call 40); go_must (refine (fails_ok base ok r A cap l _ at_ _ _ _ HR.out hat).mono ?_; rintro y w' ⟨rfl, hr, hg⟩; have hg_ := HG.out.trans hg; clear HR HG h2; have HR := Lib.hid hr; have HG := Lib.hid hg_; have h2 := HR.out.c2; clear hr hg hg_)))
      go_ret
      exact ⟨rfl, HR.out, HG.out⟩
    have q2' : decide (most < 0) = false := by simpa using q2
    have q2'' : 0 ≤ most := by omega
    by_cases q3 : most < v
    · rw [if_pos (.inr q3)]
      go_enter Try.func43, Try.ntmps43
      go_wp2_with (first | ((with_reducible go_at_call 22); go_must (refine (num_read base ok r A cap l at_ 18446744073709551615 _ HR.out hl HBY.out (by omega) (by omega)).mono ?_; rw [HX.out]; rintro y w' ⟨rfl, hr, hg⟩; have hg_ := HG.out.trans hg; clear HR HG; have HR := Lib.hid hr; have HG := Lib.hid hg_; have h2 := HR.out.c2; clear hr hg hg_)) | ((with_reducible go_at_call 40); go_must (refine (fails_ok base ok r A cap l _ at_ _ _ _ HR.out hat).mono ?_; rintro y w' ⟨rfl, hr, hg⟩; have hg_ := HG.out.trans hg; clear HR HG h2; have HR := Lib.hid hr; have HG := Lib.hid hg_; have h2 := HR.out.c2; clear hr hg hg_)))
      go_ret
      exact ⟨rfl, HR.out, HG.out⟩
    · rw [if_neg (by omega)]
      have q3' : v ≤ most := by omega
      go_enter Try.func43, Try.ntmps43
      go_wp2_with (first | ((with_reducible go_at_call 22); go_must (refine (num_read base ok r A cap l at_ 18446744073709551615 _ HR.out hl HBY.out (by omega) (by omega)).mono ?_; rw [HX.out]; rintro y w' ⟨rfl, hr, hg⟩; have hg_ := HG.out.trans hg; clear HR HG; have HR := Lib.hid hr; have HG := Lib.hid hg_; have h2 := HR.out.c2; clear hr hg hg_)))
      go_ret
      exact ⟨rfl, HR.out, HG.out⟩
  · obtain ⟨rfl, rfl⟩ := nE q1
    rw [if_pos q1]
    have q1' : (e == 0) = false := by simpa using q1
    clear nE nO
    go_enter Try.func43, Try.ntmps43
    go_wp2_with (first | ((with_reducible go_at_call 22); go_must (refine (num_read base ok r A cap l at_ 18446744073709551615 _ HR.out hl HBY.out (by omega) (by omega)).mono ?_; rw [HX.out]; rintro y w' ⟨rfl, hr, hg⟩; have hg_ := HG.out.trans hg; clear HR HG; have HR := Lib.hid hr; have HG := Lib.hid hg_; have h2 := HR.out.c2; clear hr hg hg_)))
    go_ret
    exact ⟨rfl, HR.out, HG.out⟩
/-- A text is answered. -/
def TextIs (base : Nat) (ok : Nat → Prop) (r : Nat) (A : Option Addr) (cap : Nat) (l : List Int) (at_ : Nat) (x : List Int × Nat × Int) (w : World) (y : Ending) (w' : World) : Prop :=
  ∃ v, y = .returned v ∧ Kd.R (Kd.int .u8) 5 w' w.heap.size (fun _ => True) v x.1 ∧ RdIs base ok w' r A cap l (at_ + x.2.1) x.2.2 ∧ w.grownBy w' (some r)
theorem text_nil (base : Nat) (ok : Nat → Prop) (r : Nat) (A : Option Addr) (cap : Nat) (l : List Int) (at_ : Nat) (e : Int) (w W : World) (hr : RdIs base ok W r A cap l at_ e) (hg : w.grownBy W (some r)) : TextIs base ok r A cap l at_ ([], 0, e) w (.returned (.slice none 0 0)) W :=
  ⟨_, rfl, Kd.R_nil _ _ _ _ _, hr, hg⟩
theorem text_off (r : Nat) (k e : Int) (w : World) (h2 : w.cell? ⟨r, 2, none⟩ = some (.int .i64 e)) (he : (e != 0) = true) : Calls Try.prog 25 #[.pointer (some ⟨r, 0, none⟩), .int .i64 k] w fun y w' => y = .returned (.slice none 0 0) ∧ w = w' := by
  go_enter Try.func25, Try.ntmps25
  go_wp2_with (first | ((with_reducible go_at_call 39); go_must (refine (off_is true r e _ h2 he).mono ?_; rintro e w' ⟨rfl, rfl⟩)))
  go_ret
  exact ⟨rfl, rfl⟩
set_option maxHeartbeats 4000000 in
set_option maxRecDepth 100000 in
theorem text_read (base : Nat) (ok : Nat → Prop) (r : Nat) (A : Option Addr) (cap : Nat) (l : List Int) (at_ : Nat) (most : Int) (w : World) (h : RdIs base ok w r A cap l at_ 0) (hl : l.length ≤ 1000000000) (hb : Byt l) (hm : most ≤ 9223372036854775807) :
    Calls Try.prog 25 #[.pointer (some ⟨r, 0, none⟩), .int .i64 most] w (TextIs base ok r A cap l at_ (textD (l.drop at_) most) w) := by
  have h1 := h.c1
  have h2 := h.c2
  have hat := h.2.2.1
  have HR := Lib.hid h
  have HG := Lib.hid (World.grownBy.refl w (some r))
  have HBY := Lib.hid hb
  clear h hb
  have nO := cntD_bd (l.drop at_) most (byt_drop HBY.out at_)
  have hcd : textD (l.drop at_) most = textD (l.drop at_) most := rfl
  conv at hcd => rhs; unfold textD
  rw [hcd]
  clear hcd
  obtain ⟨⟨v, c, e⟩, hx⟩ : ∃ x, cntD (l.drop at_) most = x := ⟨_, rfl⟩
  rw [hx] at nO ⊢
  simp only at nO ⊢
  have HX := Lib.hid hx
  clear hx
  obtain ⟨n0, n1, n2, n3⟩ := nO
  rw [List.length_drop] at n1
  by_cases q1 : e = 0
  · subst q1
    have nV := (n2 rfl).2
    rw [if_neg (by simp), List.drop_drop, List.length_drop]
    obtain ⟨m, rfl⟩ := Int.eq_ofNat_of_zero_le n0
    have hat2 : at_ + c ≤ l.length := by omega
    clear n2 n3 n0 n1
    by_cases q2 : ((l.length - (at_ + c) : Nat) : Int) < (m : Int)
    · rw [if_pos q2]
      have hatm : (l.length : Int) - ((at_ + c : Nat) : Int) < (m : Int) := by omega
      clear q2
      have tok1 := True.intro
      go_enter Try.func25, Try.ntmps25
      go_wp2_with (first | ((with_reducible go_at_call 39); have _t1 := tok1; clear _t1; go_must (clear tok1; refine (off_is false r 0 _ h2 rfl).mono ?_; rintro e w' ⟨rfl, rfl⟩)) | ((with_reducible go_at_call 43); go_must (refine (cnt_read base ok r A cap l at_ most _ HR.out hl HBY.out hm).mono ?_; rw [HX.out]; rintro y w' ⟨rfl, hr, hg⟩; have hg_ := HG.out.trans hg; clear HR HG; have tok2 := True.intro; have HR := Lib.hid hr; have HG := Lib.hid hg_; have h3 := HR.out.c2; clear hr hg hg_)) | ((with_reducible go_at_call 39); have _t2 := tok2; clear _t2; go_must (refine (off_is false r 0 _ h3 rfl).mono ?_; rintro e w' ⟨rfl, rfl⟩)) | ((with_reducible go_at_call 41); go_must (refine (take_no r A cap l.length (at_ + c) m _ HR.out.c0 HR.out.c1 hat2 hl hatm).mono ?_; rintro y w' ⟨rfl, hq⟩; have hr_ := HR.out.quiet hq; have hg_ := HG.out.trans (grown_quiet hq (some r)); clear HR HG hq; have HR := Lib.hid hr_; have HG := Lib.hid hg_; clear hr_ hg_)) | ((with_reducible go_at_call 40); go_must (refine (fails_ok base ok r A cap l _ at_ _ _ _ HR.out hat).mono ?_; rintro y w' ⟨rfl, hr, hg⟩; have hg_ := HG.out.trans hg; clear HR HG; have HR := Lib.hid hr; have HG := Lib.hid hg_; clear hr hg hg_)))
      go_ret
      exact text_nil _ _ _ _ _ _ _ _ _ _ HR.out HG.out
    · rw [if_neg q2]
      have hfit : at_ + c + m ≤ l.length := by omega
      have hml : m ≤ 1000000000 := by omega
      clear q2
      have tok1 := True.intro
      go_enter Try.func25, Try.ntmps25
      go_wp2_with (first | ((with_reducible go_at_call 39); have _t1 := tok1; clear _t1; go_must (clear tok1; refine (off_is false r 0 _ h2 rfl).mono ?_; rintro e w' ⟨rfl, rfl⟩)) | ((with_reducible go_at_call 43); go_must (refine (cnt_read base ok r A cap l at_ most _ HR.out hl HBY.out hm).mono ?_; rw [HX.out]; rintro y w' ⟨rfl, hr, hg⟩; have hg_ := HG.out.trans hg; clear HR HG; have tok2 := True.intro; have HR := Lib.hid hr; have HG := Lib.hid hg_; have h3 := HR.out.c2; clear hr hg hg_)) | ((with_reducible go_at_call 39); have _t2 := tok2; clear _t2; go_must (refine (off_is false r 0 _ h3 rfl).mono ?_; rintro e w' ⟨rfl, rfl⟩)) | ((with_reducible go_at_call 41); go_must (refine (take_ok base ok r A cap l (at_ + c) m 0 _ HR.out hl hfit).mono ?_; rintro y w' ⟨A3, c3, rfl, hc3, hC3, hr, hg⟩; have HC3 := Lib.hid hC3; have hg_ := HG.out.trans hg; clear HR HG h3; have HR := Lib.hid hr; have HG := Lib.hid hg_; clear hr hg hg_ hC3)) | ((with_reducible refine gate_dst (N := 32) rfl ?_); refine Kd.R_lit (Kd.int .u8) _ 5 ?hg (N := 32) ?hd (xs := ([] : List (Int))) (inner := []) (ok := fun _ => True) (okp := fun _ => True) ?hr ?hp (fun _ hk => hk) trivial (Below.refl _ _) (Nat.le_refl _) (by simp) ?_; (case hd => rfl); (case hg => rfl); (case hr => first | (go_simp; done) | (go_simp; rfl)); (case hp => exact (Reps.none _ _)); intro vL wL hl hb hg_ hn_; clear hg_ hn_; have HL := Lib.hid hl; have HBL := Lib.hid hb; clear hl hb) | ((with_reducible refine gate_builtin (b := .append) (xs := #[.tmp 32, .tmp 33]) rfl ?_); at_builtin; go_must (refine Kd.R_append_rows (Kd.int .u8) (w0 := _) (_) rfl (.tmp 32) (.tmp 33) 27 5 (.int .u8 0) 1 rfl Try.underlying27 info5 rfl (by decide) (by omega) (vL) ([]) ((l.drop (at_ + c)).take m) _ _ _ (fun _ => True) (fun _ => False) rfl rfl (HL.out) (Kd.C_below HC3.out HBL.out) (fun x cs h => h) (fun _ h => h.elim) (fun _ _ => trivial) HBL.out HBL.out.size ?aL ?_; (case aL => (simp; omega)); intro vA wA ho hb hg hat; have HT := Lib.hid ho; have HBT := Lib.hid hb; clear ho hb hg hat)))
      go_ret
      exact ⟨_, rfl, by have := Kd.R_lower HT.out HG.out.size; simpa using this, by have := HR.out.below HBT.out; rw [show at_ + c + m = at_ + (c + m) by omega] at this; exact this, HG.out.trans (grown_below HBT.out (some r))⟩
  · have hc := n3 q1
    subst hc
    rw [if_pos q1]
    have q1' : (e != 0) = true := by simpa using q1
    clear n2 n3 n1
    have tok1 := True.intro
    go_enter Try.func25, Try.ntmps25
    go_wp2_with (first | ((with_reducible go_at_call 39); have _t1 := tok1; clear _t1; go_must (clear tok1; refine (off_is false r 0 _ h2 rfl).mono ?_; rintro e w' ⟨rfl, rfl⟩)) | ((with_reducible go_at_call 43); go_must (refine (cnt_read base ok r A cap l at_ most _ HR.out hl HBY.out hm).mono ?_; rw [HX.out]; rintro y w' ⟨rfl, hr, hg⟩; have hg_ := HG.out.trans hg; clear HR HG; have tok2 := True.intro; have HR := Lib.hid hr; have HG := Lib.hid hg_; have h3 := HR.out.c2; clear hr hg hg_)) | ((with_reducible go_at_call 39); have _t2 := tok2; clear _t2; go_must (refine (off_is true r e _ h3 q1').mono ?_; rintro e w' ⟨rfl, rfl⟩)))
    go_ret
    exact text_nil _ _ _ _ _ _ _ _ _ _ HR.out HG.out
/-- A byte is answered. -/
def ByteIs (base : Nat) (ok : Nat → Prop) (r : Nat) (A : Option Addr) (cap : Nat) (l : List Int) (at_ : Nat) (x : Int × Nat × Int) (w : World) (y : Ending) (w' : World) : Prop :=
  y = .returned (.int .u8 x.1) ∧ RdIs base ok w' r A cap l (at_ + x.2.1) x.2.2 ∧ w.grownBy w' (some r)
theorem num_off (r : Nat) (k e : Int) (w : World) (h2 : w.cell? ⟨r, 2, none⟩ = some (.int .i64 e)) (he : (e != 0) = true) : Calls Try.prog 22 #[.pointer (some ⟨r, 0, none⟩), .int .u64 k] w fun y w' => y = .returned (.int .u64 0) ∧ w = w' := by
  go_enter Try.func22, Try.ntmps22
  go_wp2_with (first | ((with_reducible go_at_call 39); go_must (refine (off_is true r e _ h2 he).mono ?_; rintro e w' ⟨rfl, rfl⟩)))
  go_ret
  exact ⟨rfl, rfl⟩
theorem byte_off (r : Nat) (e : Int) (w : World) (h2 : w.cell? ⟨r, 2, none⟩ = some (.int .i64 e)) (he : (e != 0) = true) : Calls Try.prog 32 #[.pointer (some ⟨r, 0, none⟩)] w fun y w' => y = .returned (.int .u8 0) ∧ w = w' := by
  go_enter Try.func32, Try.ntmps32
  go_wp2_with (first | ((with_reducible go_at_call 39); go_must (refine (off_is true r e _ h2 he).mono ?_; rintro e w' ⟨rfl, rfl⟩)))
  go_ret
  exact ⟨rfl, rfl⟩
theorem list_off (r : Nat) (k m e : Int) (w : World) (h2 : w.cell? ⟨r, 2, none⟩ = some (.int .i64 e)) (he : (e != 0) = true) : Calls Try.prog 24 #[.pointer (some ⟨r, 0, none⟩), .int .i64 k, .int .i64 m] w fun y w' => y = .returned (.slice none 0 0) ∧ w = w' := by
  go_enter Try.func24, Try.ntmps24
  go_wp2_with (first | ((with_reducible go_at_call 39); go_must (refine (off_is true r e _ h2 he).mono ?_; rintro e w' ⟨rfl, rfl⟩)))
  go_ret
  exact ⟨rfl, rfl⟩
theorem num_nil_ (k : Int) (w : World) : Calls Try.prog 22 #[.pointer none, .int .u64 k] w fun y w' => y = .returned (.int .u64 0) ∧ w = w' := by
  go_enter Try.func22, Try.ntmps22
  go_wp2_with (first | ((with_reducible go_at_call 39); go_must (refine (off_nil _).mono ?_; rintro e w' ⟨rfl, rfl⟩)))
  go_ret
  exact ⟨rfl, rfl⟩
theorem text_nil_ (k : Int) (w : World) : Calls Try.prog 25 #[.pointer none, .int .i64 k] w fun y w' => y = .returned (.slice none 0 0) ∧ w = w' := by
  go_enter Try.func25, Try.ntmps25
  go_wp2_with (first | ((with_reducible go_at_call 39); go_must (refine (off_nil _).mono ?_; rintro e w' ⟨rfl, rfl⟩)))
  go_ret
  exact ⟨rfl, rfl⟩
theorem list_nil_ (k m : Int) (w : World) : Calls Try.prog 24 #[.pointer none, .int .i64 k, .int .i64 m] w fun y w' => y = .returned (.slice none 0 0) ∧ w = w' := by
  go_enter Try.func24, Try.ntmps24
  go_wp2_with (first | ((with_reducible go_at_call 39); go_must (refine (off_nil _).mono ?_; rintro e w' ⟨rfl, rfl⟩)))
  go_ret
  exact ⟨rfl, rfl⟩
theorem byte_nil_ (w : World) : Calls Try.prog 32 #[.pointer none] w fun y w' => y = .returned (.int .u8 0) ∧ w = w' := by
  go_enter Try.func32, Try.ntmps32
  go_wp2_with (first | ((with_reducible go_at_call 39); go_must (refine (off_nil _).mono ?_; rintro e w' ⟨rfl, rfl⟩)))
  go_ret
  exact ⟨rfl, rfl⟩
theorem left_nil (w : World) : Calls Try.prog 27 #[.pointer none] w fun y w' => y = .returned (.int .i64 0) ∧ w = w' := by
  go_enter Try.func27, Try.ntmps27
  go_wp2
  go_ret
  exact ⟨rfl, rfl⟩
theorem err_nil (w : World) : Calls Try.prog 26 #[.pointer none] w fun y w' => y = .returned (.int .i64 2) ∧ w = w' := by
  go_enter Try.func26, Try.ntmps26
  go_wp2
  go_ret
  exact ⟨rfl, rfl⟩
theorem end_nil (w : World) : Calls Try.prog 28 #[.pointer none] w fun y w' => y = .returned (.int .i64 2) ∧ w = w' := by
  go_enter Try.func28, Try.ntmps28
  go_wp2_with (first | ((with_reducible go_at_call 39); go_must (refine (off_nil _).mono ?_; rintro e w' ⟨rfl, rfl⟩)) | ((with_reducible go_at_call 26); go_must (refine (err_nil _).mono ?_; rintro e w' ⟨rfl, rfl⟩)))
  go_ret
  exact ⟨rfl, rfl⟩
theorem err_is (r : Nat) (e : Int) (w : World) (h2 : w.cell? ⟨r, 2, none⟩ = some (.int .i64 e)) : Calls Try.prog 26 #[.pointer (some ⟨r, 0, none⟩)] w fun y w' => y = .returned (.int .i64 e) ∧ w = w' := by
  go_enter Try.func26, Try.ntmps26
  go_wp2
  go_ret
  exact ⟨rfl, rfl⟩
theorem left_is (r : Nat) (A : Option Addr) (n cap at_ : Nat) (w : World) (h0 : w.cell? ⟨r, 0, none⟩ = some (.slice A n cap)) (h1 : w.cell? ⟨r, 1, none⟩ = some (.int .i64 at_)) (ha : at_ ≤ n) (hn : n ≤ 1000000000) :
    Calls Try.prog 27 #[.pointer (some ⟨r, 0, none⟩)] w fun y w' => y = .returned (.int .i64 ((n : Int) - at_)) ∧ ∃ m, w' = w.drewN m := by
  have ha1 : (at_ : Int) ≤ n := by omega
  have hn1 : (n : Int) ≤ 1000000000 := by omega
  go_enter Try.func27, Try.ntmps27
  go_upto_region 3 with (fail)
  go_quiet (fail)
  go_wp2
  go_ret
  exact ⟨rfl, _, rfl⟩
set_option maxHeartbeats 4000000 in
set_option maxRecDepth 100000 in
theorem byte_read (base : Nat) (ok : Nat → Prop) (r : Nat) (A : Option Addr) (cap : Nat) (l : List Int) (at_ : Nat) (w : World) (h : RdIs base ok w r A cap l at_ 0) (hl : l.length ≤ 1000000000) :
    Calls Try.prog 32 #[.pointer (some ⟨r, 0, none⟩)] w (ByteIs base ok r A cap l at_ (byteD (l.drop at_)) w) := by
  have h2 := h.c2
  have hat := h.2.2.1
  have HR := Lib.hid h
  have HG := Lib.hid (World.grownBy.refl w (some r))
  clear h
  rcases hd : l.drop at_ with _ | ⟨x, t⟩
  · have hat1 : (l.length : Int) - (at_ : Int) < 1 := by have := congrArg List.length hd; simp at this; omega
    clear hd
    go_enter Try.func32, Try.ntmps32
    go_wp2_with (first | ((with_reducible go_at_call 39); go_must (refine (off_is false r 0 _ h2 rfl).mono ?_; rintro e w' ⟨rfl, rfl⟩)) | ((with_reducible go_at_call 41); go_must (refine (take_no r A cap l.length at_ 1 _ HR.out.c0 HR.out.c1 hat hl hat1).mono ?_; rintro y w' ⟨rfl, hq⟩; have hr_ := HR.out.quiet hq; have hg_ := HG.out.trans (grown_quiet hq (some r)); clear HR HG hq; have HR := Lib.hid hr_; have HG := Lib.hid hg_; clear hr_ hg_; have h1 := HR.out.c1)) | ((with_reducible go_at_call 40); go_must (refine (fails_ok base ok r A cap l _ at_ _ _ _ HR.out hat).mono ?_; rintro y w' ⟨rfl, hr, hg⟩; have hg_ := HG.out.trans hg; clear HR HG h1; have HR := Lib.hid hr; have HG := Lib.hid hg_; clear hr hg hg_)))
    go_ret
    exact ⟨rfl, HR.out, HG.out⟩
  · have hat1 : at_ + 1 ≤ l.length := by have := congrArg List.length hd; simp at this; omega
    have hd1 : (l.drop at_).take 1 = [x] := by rw [hd]; rfl
    have HD1 := Lib.hid hd1
    clear hd hd1
    go_enter Try.func32, Try.ntmps32
    go_wp2_with (first | ((with_reducible go_at_call 39); go_must (refine (off_is false r 0 _ h2 rfl).mono ?_; rintro e w' ⟨rfl, rfl⟩)) | ((with_reducible go_at_call 41); go_must (refine (take_one base ok r A cap l at_ 0 _ HR.out hl hat1).mono ?_; rintro y w' ⟨A2, c2, rfl, hc2, hC2, hr, hg⟩; rw [HD1.out] at hC2; obtain ⟨b2, off2, rfl, hb2, e2⟩ := byte_of hC2; have hg_ := HG.out.trans hg; clear HR HG; have HR := Lib.hid hr; have HG := Lib.hid hg_; clear hr hg hg_ hC2)))
    go_ret
    exact ⟨rfl, HR.out, HG.out⟩
/-- The end is asked for. -/
def EndIs (base : Nat) (ok : Nat → Prop) (r : Nat) (A : Option Addr) (cap : Nat) (l : List Int) (at_ : Nat) (e' : Int) (w : World) (y : Ending) (w' : World) : Prop :=
  y = .returned (.int .i64 e') ∧ RdIs base ok w' r A cap l at_ e' ∧ w.grownBy w' (some r)
set_option maxHeartbeats 4000000 in
set_option maxRecDepth 100000 in
theorem end_read (base : Nat) (ok : Nat → Prop) (r : Nat) (A : Option Addr) (cap : Nat) (l : List Int) (at_ : Nat) (e : Int) (w : World) (h : RdIs base ok w r A cap l at_ e) (hl : l.length ≤ 1000000000) :
    Calls Try.prog 28 #[.pointer (some ⟨r, 0, none⟩)] w (EndIs base ok r A cap l at_ (endD (l.drop at_) e) w) := by
  have h2 := h.c2
  have hat := h.2.2.1
  have HR := Lib.hid h
  have HG := Lib.hid (World.grownBy.refl w (some r))
  clear h
  unfold endD
  rw [List.length_drop]
  by_cases q1 : e = 0
  · subst q1
    by_cases q2 : at_ < l.length
    · rw [if_pos ⟨rfl, by omega⟩]
      have q2' : (at_ : Int) < l.length := by omega
      go_enter Try.func28, Try.ntmps28
      go_wp2_with (first | ((with_reducible go_at_call 39); go_must (refine (off_is false r 0 _ h2 rfl).mono ?_; rintro e w' ⟨rfl, rfl⟩)) | ((with_reducible go_at_call 27); go_must (refine (left_is r A l.length cap at_ _ HR.out.c0 HR.out.c1 hat hl).mono ?_; rintro y w' ⟨rfl, hq⟩; have hr_ := HR.out.quiet hq; have hg_ := HG.out.trans (grown_quiet hq (some r)); clear HR HG hq; have HR := Lib.hid hr_; have HG := Lib.hid hg_; clear hr_ hg_; have h1 := HR.out.c1)) | ((with_reducible go_at_call 40); go_must (refine (fails_ok base ok r A cap l _ at_ _ _ _ HR.out hat).mono ?_; rintro y w' ⟨rfl, hr, hg⟩; have hg_ := HG.out.trans hg; clear HR HG h1; have HR := Lib.hid hr; have HG := Lib.hid hg_; clear hr hg hg_)) | ((with_reducible go_at_call 26); go_must (refine (err_is r _ _ HR.out.c2).mono ?_; rintro y w' ⟨rfl, rfl⟩)))
      go_ret
      exact ⟨rfl, HR.out, HG.out⟩
    · rw [if_neg (by omega)]
      have q2' : (l.length : Int) ≤ at_ := by omega
      go_enter Try.func28, Try.ntmps28
      go_wp2_with (first | ((with_reducible go_at_call 39); go_must (refine (off_is false r 0 _ h2 rfl).mono ?_; rintro e w' ⟨rfl, rfl⟩)) | ((with_reducible go_at_call 27); go_must (refine (left_is r A l.length cap at_ _ HR.out.c0 HR.out.c1 hat hl).mono ?_; rintro y w' ⟨rfl, hq⟩; have hr_ := HR.out.quiet hq; have hg_ := HG.out.trans (grown_quiet hq (some r)); clear HR HG hq; have HR := Lib.hid hr_; have HG := Lib.hid hg_; clear hr_ hg_; have h1 := HR.out.c1)) | ((with_reducible go_at_call 26); go_must (refine (err_is r _ _ HR.out.c2).mono ?_; rintro y w' ⟨rfl, rfl⟩)))
      go_ret
      exact ⟨rfl, HR.out, HG.out⟩
  · rw [if_neg (by simp [q1])]
    have he : (e != 0) = true := by simpa using q1
    go_enter Try.func28, Try.ntmps28
    go_wp2_with (first | ((with_reducible go_at_call 39); go_must (refine (off_is true r e _ h2 he).mono ?_; rintro e w' ⟨rfl, rfl⟩)) | ((with_reducible go_at_call 26); go_must (refine (err_is r _ _ HR.out.c2).mono ?_; rintro y w' ⟨rfl, rfl⟩)))
    go_ret
    exact ⟨rfl, HR.out, HG.out⟩
end Go.Proofs.Ytnkaalapjlmmiaa.WireR2
