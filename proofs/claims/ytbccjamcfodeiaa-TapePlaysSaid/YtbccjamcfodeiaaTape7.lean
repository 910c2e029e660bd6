/- PROVED: Cut, Fuse, Down of a tape, and what its methods answer where they refuse. No condition beyond what each line says. -/
import Derived.Test.YtbccjamcfodeiaaTape6
import Derived.Test.YtbccjamcfodeiaaLRead
import Derived.Test.YtbccjamcfodeiaaWApart
import Derived.Test.YtbccjamcfodeiaaWKept
import Derived.WalkKit
import Derived.WalkSpells
import Derived.WalkLawsBesides
import Derived.WalkMore
import Derived.Outline
import Derived.Lib.Hide
import Derived.BigQuiet
import Derived.Deep.QuietTactic
import Derived.Deep.RegionHeld3
import Derived.Deep.RegionLaw
import Derived.Deep.LoopGhost
import Derived.Deep.DeepCutAuto
namespace Go.Proofs.Ytbccjamcfodeiaa.Tape7
open Go.RowKit Go.Proofs.Ytbccjamcfodeiaa.PTapePlays Go.Proofs.YtbccjamcfodeiaaW.PrintWords Go.Proofs.YtbccjamcfodeiaaW.PrintLast Go.Proofs.YtbccjamcfodeiaaW.PrintMore
open Go.Proofs.Ytbccjamcfodeiaa.Tape Go.Proofs.Ytbccjamcfodeiaa.Tape2 Go.Proofs.Ytbccjamcfodeiaa.Tape3 Go.Proofs.Ytbccjamcfodeiaa.Tape4 Go.Proofs.Ytbccjamcfodeiaa.Tape5 Go.Proofs.Ytbccjamcfodeiaa.Tape6
set_option linter.unusedSimpArgs false
set_option linter.unusedVariables false
theorem append_bad (r : Nat) (i : Int) (A : Option Addr) (n c : Nat) (w : World) (hi : ¬ (0 ≤ i ∧ i < 4)) : Calls Try.prog 13 #[.pointer (some ⟨r, 0, none⟩), .int .i64 i, .slice A n c] w fun e w' => e = .returned (.int .i64 1) ∧ w = w' := by
  go_enter Try.func13, Try.ntmps13
  go_wp2_with (first | ((with_reducible go_at_call 29); go_must (refine (at_bad r i _ hi).mono ?_; rintro e w' ⟨rfl, rfl⟩)))
  go_ret
  exact ⟨rfl, rfl⟩
theorem cut_bad (r : Nat) (i n : Int) (w : World) (hi : ¬ (0 ≤ i ∧ i < 4)) : Calls Try.prog 22 #[.pointer (some ⟨r, 0, none⟩), .int .i64 i, .int .i64 n] w fun e w' => e = .returned (.int .i64 1) ∧ w = w' := by
  go_enter Try.func22, Try.ntmps22
  go_wp2_with (first | ((with_reducible go_at_call 29); go_must (refine (at_bad r i _ hi).mono ?_; rintro e w' ⟨rfl, rfl⟩)))
  go_ret
  exact ⟨rfl, rfl⟩
theorem sync_bad (r : Nat) (i : Int) (w : World) (hi : ¬ (0 ≤ i ∧ i < 4)) : Calls Try.prog 17 #[.pointer (some ⟨r, 0, none⟩), .int .i64 i] w fun e w' => e = .returned (.int .i64 1) ∧ w = w' := by
  go_enter Try.func17, Try.ntmps17
  go_wp2_with (first | ((with_reducible go_at_call 29); go_must (refine (at_bad r i _ hi).mono ?_; rintro e w' ⟨rfl, rfl⟩)))
  go_ret
  exact ⟨rfl, rfl⟩
theorem open_bad (r : Nat) (i : Int) (w : World) (hi : ¬ (0 ≤ i ∧ i < 4)) : Calls Try.prog 21 #[.pointer (some ⟨r, 0, none⟩), .int .i64 i] w fun e w' => e = .returned (.int .i64 0) ∧ w = w' := by
  go_enter Try.func21, Try.ntmps21
  go_wp2_with (first | ((with_reducible go_at_call 29); go_must (refine (at_bad r i _ hi).mono ?_; rintro e w' ⟨rfl, rfl⟩)))
  go_ret
  exact ⟨rfl, rfl⟩
theorem read_bad (r : Nat) (i : Int) (w : World) (hi : ¬ (0 ≤ i ∧ i < 4)) : Calls Try.prog 14 #[.pointer (some ⟨r, 0, none⟩), .int .i64 i] w fun e w' => e = .returned (.tuple #[.slice none 0 0, .int .i64 1]) ∧ w = w' := by
  go_enter Try.func14, Try.ntmps14
  go_wp2_with (first | ((with_reducible go_at_call 29); go_must (refine (at_bad r i _ hi).mono ?_; rintro e w' ⟨rfl, rfl⟩)))
  go_ret2
  exact ⟨rfl, rfl⟩
theorem append_down (r i : Nat) (A : Option Addr) (n c : Nat) (w : World) (hi : i < 4) (x : w.cell? ⟨r, 13, none⟩ = some (.bool true)) : Calls Try.prog 13 #[.pointer (some ⟨r, 0, none⟩), .int .i64 i, .slice A n c] w fun e w' => e = .returned (.int .i64 100) ∧ w = w' := by
  go_enter Try.func13, Try.ntmps13
  go_wp2_with (first | ((with_reducible go_at_call 29); go_must (refine (at_ok r i _ hi).mono ?_; rintro e w' ⟨rfl, rfl⟩)))
  go_ret
  exact ⟨rfl, rfl⟩
theorem append_full (r i : Nat) (A A1 : Option Addr) (n c n1 c1 : Nat) (w : World) (hi : i < 4) (x : w.cell? ⟨r, 13, none⟩ = some (.bool false)) (x1 : w.cell? ⟨r, i * 3 + 1, none⟩ = some (.slice A1 n1 c1)) (hl : n1 ≤ 1048576) (hn : n ≤ 2000000) (h : 1048576 < n1 + n) : Calls Try.prog 13 #[.pointer (some ⟨r, 0, none⟩), .int .i64 i, .slice A n c] w fun e w' => e = .returned (.int .i64 90) ∧ w = w' := by
  have hI : (1048576 : Int) - n < n1 := by omega
  have hnI : (n : Int) ≤ 2000000 := by omega
  clear h
  go_enter Try.func13, Try.ntmps13
  go_wp2_with (first | ((with_reducible go_at_call 29); go_must (refine (at_ok r i _ hi).mono ?_; rintro e w' ⟨rfl, rfl⟩)))
  go_ret
  exact ⟨rfl, rfl⟩
theorem read_down (r i : Nat) (w : World) (hi : i < 4) (x : w.cell? ⟨r, 13, none⟩ = some (.bool true)) : Calls Try.prog 14 #[.pointer (some ⟨r, 0, none⟩), .int .i64 i] w fun e w' => e = .returned (.tuple #[.slice none 0 0, .int .i64 100]) ∧ w = w' := by
  go_enter Try.func14, Try.ntmps14
  go_wp2_with (first | ((with_reducible go_at_call 29); go_must (refine (at_ok r i _ hi).mono ?_; rintro e w' ⟨rfl, rfl⟩)))
  go_ret2
  exact ⟨rfl, rfl⟩
theorem sync_down (r i : Nat) (w : World) (hi : i < 4) (x : w.cell? ⟨r, 13, none⟩ = some (.bool true)) : Calls Try.prog 17 #[.pointer (some ⟨r, 0, none⟩), .int .i64 i] w fun e w' => e = .returned (.int .i64 100) ∧ w = w' := by
  go_enter Try.func17, Try.ntmps17
  go_wp2_with (first | ((with_reducible go_at_call 29); go_must (refine (at_ok r i _ hi).mono ?_; rintro e w' ⟨rfl, rfl⟩)))
  go_ret
  exact ⟨rfl, rfl⟩
theorem cut_arg (r i : Nat) (n : Int) (A1 : Option Addr) (n1 c1 : Nat) (w : World) (hi : i < 4) (x1 : w.cell? ⟨r, i * 3 + 1, none⟩ = some (.slice A1 n1 c1)) (hn : n < 0 ∨ n1 < n) : Calls Try.prog 22 #[.pointer (some ⟨r, 0, none⟩), .int .i64 i, .int .i64 n] w fun e w' => e = .returned (.int .i64 1) ∧ w = w' := by
  by_cases q : n < 0
  · go_enter Try.func22, Try.ntmps22
    go_wp2_with (first | ((with_reducible go_at_call 29); go_must (refine (at_ok r i _ hi).mono ?_; rintro e w' ⟨rfl, rfl⟩)))
    go_ret
    exact ⟨rfl, rfl⟩
  · have q1 : 0 ≤ n := by omega
    have q2 : n1 < n := by omega
    clear hn q
    go_enter Try.func22, Try.ntmps22
    go_wp2_with (first | ((with_reducible go_at_call 29); go_must (refine (at_ok r i _ hi).mono ?_; rintro e w' ⟨rfl, rfl⟩)))
    go_ret
    exact ⟨rfl, rfl⟩
theorem cut_down (r i n : Nat) (A1 : Option Addr) (n1 c1 : Nat) (w : World) (hi : i < 4) (x : w.cell? ⟨r, 13, none⟩ = some (.bool true)) (x1 : w.cell? ⟨r, i * 3 + 1, none⟩ = some (.slice A1 n1 c1)) (hn : n ≤ n1) : Calls Try.prog 22 #[.pointer (some ⟨r, 0, none⟩), .int .i64 i, .int .i64 n] w fun e w' => e = .returned (.int .i64 100) ∧ w = w' := by
  have hnI : (n : Int) ≤ n1 := by omega
  go_enter Try.func22, Try.ntmps22
  go_wp2_with (first | ((with_reducible go_at_call 29); go_must (refine (at_ok r i _ hi).mono ?_; rintro e w' ⟨rfl, rfl⟩)))
  go_ret
  exact ⟨rfl, rfl⟩
/-- The power's fuse. -/
def fuseOf (n : Int) : Int := if n < -1 then -1 else n
/-- What Fuse leaves. -/
def FuseIs (base : Nat) (U : Nat → Prop) (r : Nat) (C : Nat → Cont) (f : Int) (d : Bool) (w : World) (e : Ending) (w' : World) : Prop :=
  e = .returned (.tuple #[]) ∧ TapeU base U w' r C f d ∧ Below base w w' ∧ Kept w w' U
theorem fuse_ok (base : Nat) (U : Nat → Prop) (r : Nat) (C : Nat → Cont) (f : Int) (d : Bool) (n : Int) (w : World) (h : TapeU base U w r C f d) (hbw : base ≤ w.heap.size) :
    Calls Try.prog 28 #[.pointer (some ⟨r, 0, none⟩), .int .i64 n] w (FuseIs base U r C (fuseOf n) d w) := by
  obtain ⟨S, V, hT, hU, hS⟩ := h
  have h0 := hT.fuse
  have f0 := hT.free 12
  have HT := Lib.hid hT
  have HU := Lib.hid hU
  have HS := Lib.hid hS
  clear hT hU hS
  unfold fuseOf
  by_cases q : n < -1
  · rw [if_pos q]
    go_enter Try.func28, Try.ntmps28
    go_wp2
    go_end0
    exact ⟨rfl, ⟨S, V, HT.out.setFuse (-1), HU.out, HS.out⟩, Below.setCell (p := ⟨r, 12, none⟩) (Below.refl _ _) HT.out.2.1 _, (Kept.refl w U).setCell (.inl HU.out) _⟩
  · rw [if_neg q]
    have q' : -1 ≤ n := by omega
    go_enter Try.func28, Try.ntmps28
    go_wp2
    go_end0
    exact ⟨rfl, ⟨S, V, HT.out.setFuse n, HU.out, HS.out⟩, Below.setCell (p := ⟨r, 12, none⟩) (Below.refl _ _) HT.out.2.1 _, (Kept.refl w U).setCell (.inl HU.out) _⟩
theorem down_ok (r : Nat) (d : Bool) (w : World) (x : w.cell? ⟨r, 13, none⟩ = some (.bool d)) : Calls Try.prog 26 #[.pointer (some ⟨r, 0, none⟩)] w fun e w' => e = .returned (.bool d) ∧ w = w' := by
  go_enter Try.func26, Try.ntmps26
  go_wp2
  go_ret
  exact ⟨rfl, rfl⟩
/-- What Cut answers, and the tape behind it. -/
def CutIs (base : Nat) (U : Nat → Prop) (r i n : Nat) (C : Nat → Cont) (now : List Int) (opn : List (Bool × Int)) (x : Bool × Int × Bool) (w : World) (y : Ending) (w' : World) : Prop :=
  y = .returned (.int .i64 (if x.1 = true then 0 else 100)) ∧ TapeU base (fun k => U k ∨ w.heap.size ≤ k) w' r (if x.1 = true then upd (upd C (i * 3 + 1) (.bytes (now.take n))) (i * 3 + 2) (.steps (opn ++ [(true, (n : Int))])) else C) x.2.1 x.2.2 ∧ Below base w w' ∧ Kept w w' U
set_option maxHeartbeats 4000000 in
set_option maxRecDepth 100000 in
theorem cut_ok (base : Nat) (U : Nat → Prop) (r i n : Nat) (C' : Nat → Cont) (now : List Int) (opn' : List (Bool × Int)) (f' : Int) (w : World) (h : TapeU base U w r C' f' false) (hi : i < 4) (hc1 : C' (i * 3 + 1) = .bytes now) (hc2 : C' (i * 3 + 2) = .steps opn')
    (hf : f' ≤ 9223372036854775807) (hbw : base ≤ w.heap.size) (hn : n ≤ now.length) (hnl : now.length ≤ 1048576) (ho : opn'.length ≤ 1000000000) :
    Calls Try.prog 22 #[.pointer (some ⟨r, 0, none⟩), .int .i64 i, .int .i64 n] w (CutIs base U r i n C' now opn' (powT f' false) w) := by
  obtain ⟨S, V, hT, hU, hS0⟩ := h
  have hS : ∀ j k, S j k → U k ∨ w.heap.size ≤ k := fun j k hk => .inl (hS0 j k hk)
  have x13 := hT.down
  obtain ⟨A0, c0, e0, hR0⟩ := slot_bytes hT (j := i * 3 + 1) (by omega) hc1
  have x0 := hT.cell (j := i * 3 + 1) (by omega)
  rw [e0] at x0
  have hnI : (n : Int) ≤ now.length := by omega
  have HUr := Lib.hid hU
  have HTI := Lib.hid hT
  have HSU := Lib.hid hS
  have HB := Lib.hid (Below.refl base w)
  have HK := Lib.hid (Kept.refl w U)
  have HC1 := Lib.hid hc1
  have HC2 := Lib.hid hc2
  have hbs := hbw
  clear hT hU hS hS0 hc1 hc2 hR0 e0
  by_cases q : f' = 0
  · have ht : powT f' false = (false, 0, true) := by rw [q]; rfl
    have HTK := Lib.hid ht
    clear ht q
    go_enter Try.func22, Try.ntmps22
    go_wp2_with (first | ((with_reducible go_at_call 29); go_must (refine (at_ok r i _ hi).mono ?_; rintro e w' ⟨rfl, rfl⟩)) | ((with_reducible go_at_call 30); go_must (refine (take_ok base S r V C' f' false _ HTI.out hf).mono ?_; rw [HTK.out]; rintro y w2 ⟨rfl, ht, hg⟩; have hb_ := Below.grown HB.out hg hbs (fun k hk => by cases hk; exact ht.2.1); have hk_ := Kept.of_grown hg HK.out (fun k hk => by cases hk; exact .inl HUr.out); clear HTI HB HK x0; have HTI := Lib.hid ht; have HB := Lib.hid hb_; have HK := Lib.hid hk_; clear ht hg hb_ hk_)))
    go_ret
    rw [HTK.out]
    exact ⟨rfl, ⟨S, V, HTI.out, .inl HUr.out, HSU.out⟩, HB.out, HK.out⟩
  · have ht : powT f' false = (true, (powT f' false).2.1, false) := by
      unfold powT
      rw [if_neg q]
      split <;> rfl
    obtain ⟨f2, hf2⟩ : ∃ x, (powT f' false).2.1 = x := ⟨_, rfl⟩
    rw [hf2] at ht
    have HTK := Lib.hid ht
    clear ht q hf2
    go_enter Try.func22, Try.ntmps22
    go_upto_region 8 with (first | ((with_reducible go_at_call 29); go_must (refine (at_ok r i _ hi).mono ?_; rintro e w' ⟨rfl, rfl⟩)) | ((with_reducible go_at_call 30); go_must (refine (take_ok base S r V C' f' false _ HTI.out hf).mono ?_; rw [HTK.out]; rintro y w2 ⟨rfl, ht, hg⟩; have hb_ := Below.grown HB.out hg hbs (fun k hk => by cases hk; exact ht.2.1); have hk_ := Kept.of_grown hg HK.out (fun k hk => by cases hk; exact .inl HUr.out); clear HTI HB HK x0; have HTI := Lib.hid ht; have HB := Lib.hid hb_; have HK := Lib.hid hk_; obtain ⟨A1, c1, e1, hR1⟩ := slot_bytes ht (j := i * 3 + 1) (by omega) HC1.out; have y1 := ht.cell (j := i * 3 + 1) (by omega); rw [e1] at y1; have HR1 := Lib.hid hR1; have HE1 := Lib.hid e1; clear hbs; have hbs : base ≤ w2.heap.size := Nat.le_trans hbw HK.out.1; clear ht hg hb_ hk_ hR1 e1)))
    have hnc : (n : Int) ≤ c1 := by have := HR1.out.reads'.2.1; omega
    obtain ⟨y2, z2⟩ := slot_at HTI.out (j := i * 3 + 1) (by omega) (World.grownBy.refl _ _)
    clear y2
    go_upto_region 9 with (fail)
    have hp := step_put HTI.out HUr.out HSU.out (j := i * 3 + 1) (v := .slice A1 n n) (c := .bytes (now.take n)) (by omega) (World.grownBy.refl _ _) (OwnB.mono (OwnB.cut HR1.out hn) (fun k hk => .inl hk)) HB.out hbw HK.out
    refine world_gen (P := fun w5 => TapeU base (fun k => U k ∨ w.heap.size ≤ k) w5 r (upd C' (i * 3 + 1) (.bytes (now.take n))) f2 false ∧ Below base w w5 ∧ Kept w w5 U) hp (fun w5 h5 => ?_)
    obtain ⟨p1, p2, p3⟩ := h5
    clear hp z2 HTI HB HK HR1 HE1 y1 hbs HSU
    obtain ⟨S2, V2, hT2, hU2, hS2⟩ := p1
    have hbs : base ≤ w5.heap.size := Nat.le_trans hbw p3.1
    obtain ⟨A2, c2, e2, hR2⟩ := slot_steps hT2 (j := i * 3 + 2) (by omega) ((upd_ne _ _ (by omega)).trans HC2.out)
    have y3 := hT2.cell (j := i * 3 + 2) (by omega)
    rw [e2] at y3
    have HTI := Lib.hid hT2
    have HSU := Lib.hid hS2
    have HB := Lib.hid p2
    have HK := Lib.hid p3
    have HR2 := Lib.hid hR2
    have HE3 := Lib.hid e2
    clear hT2 hS2 p2 p3 hR2 e2 hU2
    go_wp2_with (first | ((with_reducible refine gate_builtin (b := .append) (xs := #[.tmp 55, .tmp 58]) rfl ?_); at_builtin; go_must (refine Kd.R_append kS (w0 := _) base rfl (.tmp 55) (.tmp 58) 61 71 (.agg #[.bool false, .int .i64 0]) 16 rfl Try.underlying61 info71 rfl (by decide) (by omega) (.slice A2 opn'.length c2) opn' (true, (n : Int)) [.bool true, .int .i64 n] (fun k => S2 (i * 3 + 2) k ∨ w5.heap.size ≤ k) (fun _ => False) rfl rfl ?aP (fun _ h => h.elim) (fun k hk => .inr hk) (Kd.R_mono HR2.out (fun k hk => .inl hk)) (Below.refl _ _) hbs ?aL ?_; (case aP => exact ⟨[.bool true], [.int .i64 n], rfl, rfl, rfl⟩); (case aL => omega); intro vA wA ho hb hg hat; obtain ⟨AV2, cV2, rfl⟩ := Kd.R_slice ho; obtain ⟨y4, z4⟩ := slot_at HTI.out (j := i * 3 + 2) (by omega) (by rw [HE3.out]; exact hg); rw [HE3.out] at y4; have HO := Lib.hid ho; have HGR := Lib.hid hg; clear y3 ho hb hg hat)))
    go_ret
    have hp := step_put HTI.out HUr.out HSU.out (j := i * 3 + 2) (v := .slice AV2 (opn'.length + 1) cV2) (c := .steps (opn' ++ [(true, (n : Int))])) (by omega) (by rw [HE3.out]; exact HGR.out) (by have := HO.out; rw [List.length_append] at this; exact this) HB.out hbw HK.out
    rw [HTK.out]
    exact ⟨rfl, hp⟩
end Go.Proofs.Ytbccjamcfodeiaa.Tape7
