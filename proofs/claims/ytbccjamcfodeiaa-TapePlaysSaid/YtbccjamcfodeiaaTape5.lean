/- PROVED: Sync of a tape. No condition beyond what each line says. -/
import Derived.Test.YtbccjamcfodeiaaTape4
import Derived.Test.YtbccjamcfodeiaaLRead
import Derived.Test.YtbccjamcfodeiaaWApart
import Derived.Test.YtbccjamcfodeiaaWKept
import Derived.WalkKit
import Derived.WalkSpells
import Derived.WalkLawsBesides
import Derived.WalkMore
import Derived.Outline
import Derived.Lib.Hide
import Derived.BigQuiet
import Derived.Deep.QuietTactic
import Derived.Deep.RegionHeld3
import Derived.Deep.RegionLaw
import Derived.Deep.LoopGhost
import Derived.Deep.DeepCutAuto
namespace Go.Proofs.Ytbccjamcfodeiaa.Tape5
open Go.RowKit Go.Proofs.Ytbccjamcfodeiaa.PTapePlays Go.Proofs.YtbccjamcfodeiaaW.PrintWords Go.Proofs.YtbccjamcfodeiaaW.PrintLast Go.Proofs.YtbccjamcfodeiaaW.PrintMore
open Go.Proofs.Ytbccjamcfodeiaa.Tape Go.Proofs.Ytbccjamcfodeiaa.Tape2 Go.Proofs.Ytbccjamcfodeiaa.Tape3 Go.Proofs.Ytbccjamcfodeiaa.Tape4
set_option linter.unusedSimpArgs false
set_option linter.unusedVariables false
theorem grown_below {w w1 : World} (h : Below w.heap.size w w1) (row : Option Nat) : w.grownBy w1 row := ⟨h.os, h.tape, h.output, h.size, fun k hk _ => h.block k hk⟩
/-- What Sync answers, and the tape behind it. -/
def SyncIs (base : Nat) (U : Nat → Prop) (r i : Nat) (C : Nat → Cont) (now : List Int) (x : Bool × Int × Bool) (w : World) (y : Ending) (w' : World) : Prop :=
  y = .returned (.int .i64 (if x.1 = true then 0 else 100)) ∧ TapeU base (fun k => U k ∨ w.heap.size ≤ k) w' r (if x.1 = true then upd (upd C (i * 3) (.bytes now)) (i * 3 + 2) (.steps []) else C) x.2.1 x.2.2 ∧ Below base w w' ∧ Kept w w' U
set_option maxHeartbeats 4000000 in
set_option maxRecDepth 100000 in
theorem sync_ok (base : Nat) (U : Nat → Prop) (r i : Nat) (C' : Nat → Cont) (now : List Int) (opn : List (Bool × Int)) (f' : Int) (w : World) (h : TapeU base U w r C' f' false) (hi : i < 4) (hc1 : C' (i * 3 + 1) = .bytes now) (hc2 : C' (i * 3 + 2) = .steps opn)
    (hf : f' ≤ 9223372036854775807) (hbw : base ≤ w.heap.size) (hn : now.length ≤ 1048576) (ho : opn.length ≤ 1000000000) :
    Calls Try.prog 17 #[.pointer (some ⟨r, 0, none⟩), .int .i64 i] w (SyncIs base U r i C' now (powT f' false) w) := by
  obtain ⟨S, V, hT, hU, hS0⟩ := h
  have hS : ∀ j k, S j k → U k ∨ w.heap.size ≤ k := fun j k hk => .inl (hS0 j k hk)
  have x13 := hT.down
  have HUr := Lib.hid hU
  have HTI := Lib.hid hT
  have HSU := Lib.hid hS
  have HB := Lib.hid (Below.refl base w)
  have HK := Lib.hid (Kept.refl w U)
  have HC1 := Lib.hid hc1
  have HC2 := Lib.hid hc2
  have hbs := hbw
  have x0 := True.intro
  clear hT hU hS hS0 hc1 hc2
  by_cases q : f' = 0
  · have ht : powT f' false = (false, 0, true) := by rw [q]; rfl
    have HTK := Lib.hid ht
    clear ht q
    go_enter Try.func17, Try.ntmps17
    go_wp2_with (first | ((with_reducible go_at_call 29); go_must (refine (at_ok r i _ hi).mono ?_; rintro e w' ⟨rfl, rfl⟩)) | ((with_reducible go_at_call 30); go_must (refine (take_ok base S r V C' f' false _ HTI.out hf).mono ?_; rw [HTK.out]; rintro y w2 ⟨rfl, ht, hg⟩; have hb_ := Below.grown HB.out hg hbs (fun k hk => by cases hk; exact ht.2.1); have hk_ := Kept.of_grown hg HK.out (fun k hk => by cases hk; exact .inl HUr.out); clear HTI HB HK x0; have HTI := Lib.hid ht; have HB := Lib.hid hb_; have HK := Lib.hid hk_; clear ht hg hb_ hk_)))
    go_ret
    rw [HTK.out]
    exact ⟨rfl, ⟨S, V, HTI.out, .inl HUr.out, HSU.out⟩, HB.out, HK.out⟩
  · have ht : powT f' false = (true, (powT f' false).2.1, false) := by
      unfold powT
      rw [if_neg q]
      split <;> rfl
    obtain ⟨f2, hf2⟩ : ∃ x, (powT f' false).2.1 = x := ⟨_, rfl⟩
    rw [hf2] at ht
    have HTK := Lib.hid ht
    clear ht q hf2
    go_enter Try.func17, Try.ntmps17
    go_upto_region 7 with (first | ((with_reducible go_at_call 29); go_must (refine (at_ok r i _ hi).mono ?_; rintro e w' ⟨rfl, rfl⟩)) | ((with_reducible go_at_call 30); go_must (refine (take_ok base S r V C' f' false _ HTI.out hf).mono ?_; rw [HTK.out]; rintro y w2 ⟨rfl, ht, hg⟩; have hb_ := Below.grown HB.out hg hbs (fun k hk => by cases hk; exact ht.2.1); have hk_ := Kept.of_grown hg HK.out (fun k hk => by cases hk; exact .inl HUr.out); clear HTI HB HK x0; have HTI := Lib.hid ht; have HB := Lib.hid hb_; have HK := Lib.hid hk_; obtain ⟨A1, c1, e1, hR1⟩ := slot_bytes ht (j := i * 3 + 1) (by omega) HC1.out; have y1 := ht.cell (j := i * 3 + 1) (by omega); rw [e1] at y1; have HR1 := Lib.hid (OwnB.reads' hR1); have HY1 := Lib.hid y1; clear hbs; have hbs : base ≤ w2.heap.size := Nat.le_trans hbw HK.out.1; clear ht hg hb_ hk_ hR1 e1)) | ((with_reducible refine gate_dst (N := 28) rfl ?_); refine Kd.R_lit (Kd.int .u8) _ 5 ?hg (N := 28) ?hd (xs := ([] : List (Int))) (inner := []) (ok := fun _ => True) (okp := fun _ => True) ?hr ?hp (fun _ hk => hk) trivial (Below.refl _ _) (Nat.le_refl _) (by simp) ?_; (case hd => rfl); (case hg => rfl); (case hr => first | (go_simp; done) | (go_simp; rfl)); (case hp => exact (Reps.none _ _)); intro vL wL hl hb hg_ hn_; clear hg_ hn_; have HL := Lib.hid hl; have HBL := Lib.hid hb; have x1b := cell_b hb HY1.out; clear y1 hl hb) | ((with_reducible refine gate_builtin (b := .append) (xs := #[.tmp 28, .tmp 32]) rfl ?_); at_builtin; go_must (refine Kd.R_append_rows (Kd.int .u8) (w0 := _) (_) rfl (.tmp 28) (.tmp 32) 28 5 (.int .u8 0) 1 rfl Try.underlying28 info5 rfl (by decide) (by omega) (vL) ([]) (now) _ _ _ (fun _ => True) (fun _ => False) rfl rfl (HL.out) (Kd.C_below HR1.out.2.2 HBL.out) (fun x cs h => h) (fun _ h => h.elim) (fun _ _ => trivial) HBL.out HBL.out.size ?aL ?_; (case aL => (simp; omega)); intro vA wA ho hb hg hat; rw [List.nil_append] at ho; obtain ⟨AV, cV, rfl⟩ := Kd.R_slice ho; obtain ⟨y2, z2⟩ := slot_at HTI.out (j := i * 3) (by omega) (grown_below hb _); have HT := Lib.hid ho; have HBT := Lib.hid hb; clear ho hb hg hat)))
    have hp := step_put HTI.out HUr.out HSU.out (j := i * 3) (v := .slice AV now.length cV) (c := .bytes now) (by omega) (grown_below HBT.out _) (.inl (Kd.R_lower (Kd.R_mono (Kd.R_bound HT.out) (fun k hk => .inr hk.2.1)) hbs)) HB.out hbw HK.out
    refine world_gen (P := fun w5 => TapeU base (fun k => U k ∨ w.heap.size ≤ k) w5 r (upd C' (i * 3) (.bytes now)) f2 false ∧ Below base w w5 ∧ Kept w w5 U) hp (fun w5 h5 => ?_)
    obtain ⟨p1, p2, p3⟩ := h5
    obtain ⟨S2, V2, hT2, hU2, hS2⟩ := p1
    clear hp y2 z2 HT HBT HTI HB HK hbs HSU
    have hbs : base ≤ w5.heap.size := Nat.le_trans hbw p3.1
    obtain ⟨A2, c2, e2, hR2⟩ := slot_steps hT2 (j := i * 3 + 2) (by omega) ((upd_ne _ _ (by omega)).trans HC2.out)
    have y3 := hT2.cell (j := i * 3 + 2) (by omega)
    rw [e2] at y3
    obtain ⟨w6, hrun, hg6, hR6⟩ := run_clear_steps hR2 0
    rw [← e2] at hg6
    obtain ⟨y4, z4⟩ := slot_at hT2 (j := i * 3 + 2) (by omega) hg6
    rw [e2] at y4
    have HR6 := Lib.hid hR6
    have HG6 := Lib.hid hg6
    have HTI := Lib.hid hT2
    have HSU := Lib.hid hS2
    have HB := Lib.hid p2
    have HK := Lib.hid p3
    clear hT2 hS2 p2 p3 hR2 hR6 hg6 e2 hU2
    go_wp2
    go_ret
    have hp := step_put HTI.out HUr.out HSU.out (j := i * 3 + 2) (v := .slice A2 0 c2) (c := .steps []) (by omega) HG6.out (Kd.R_mono HR6.out (fun k hk => .inl hk)) HB.out hbw HK.out
    rw [HTK.out]
    exact ⟨rfl, hp⟩
end Go.Proofs.Ytbccjamcfodeiaa.Tape5
