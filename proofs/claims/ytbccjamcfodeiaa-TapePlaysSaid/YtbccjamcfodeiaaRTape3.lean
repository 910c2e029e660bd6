/- PROVED: the reference's Append, Cut and Sync. No condition beyond what each line says. -/
import Derived.Test.YtbccjamcfodeiaaRTape2
import Derived.Test.YtbccjamcfodeiaaLRead
import Derived.Test.YtbccjamcfodeiaaWApart
import Derived.Test.YtbccjamcfodeiaaWKept
import Derived.WalkKit
import Derived.WalkSpells
import Derived.WalkLawsBesides
import Derived.WalkMore
import Derived.Outline
import Derived.Lib.Hide
import Derived.BigQuiet
import Derived.Deep.QuietTactic
import Derived.Deep.RegionHeld3
import Derived.Deep.RegionLaw
import Derived.Deep.LoopGhost
import Derived.Deep.DeepCutAuto
namespace Go.Proofs.Ytbccjamcfodeiaa.RTape3
open Go.RowKit Go.Proofs.Ytbccjamcfodeiaa.PTapePlays Go.Proofs.YtbccjamcfodeiaaW.PrintWords Go.Proofs.YtbccjamcfodeiaaW.PrintLast Go.Proofs.YtbccjamcfodeiaaW.PrintMore
open Go.Proofs.Ytbccjamcfodeiaa.Tape Go.Proofs.Ytbccjamcfodeiaa.Tape2 Go.Proofs.Ytbccjamcfodeiaa.Tape3 Go.Proofs.Ytbccjamcfodeiaa.Tape4 Go.Proofs.Ytbccjamcfodeiaa.Tape5 Go.Proofs.Ytbccjamcfodeiaa.Tape6 Go.Proofs.Ytbccjamcfodeiaa.Tape7 Go.Proofs.Ytbccjamcfodeiaa.Tape8 Go.Proofs.Ytbccjamcfodeiaa.Tape9
open Go.Proofs.Ytbccjamcfodeiaa.TapeW Go.Proofs.Ytbccjamcfodeiaa.TapeF Go.Proofs.Ytbccjamcfodeiaa.TapeP Go.Proofs.Ytbccjamcfodeiaa.TapeP2 Go.Proofs.Ytbccjamcfodeiaa.RTape
open Go.Proofs.Ytbccjamcfodeiaa.RTape2
set_option linter.unusedSimpArgs false
set_option linter.unusedVariables false
theorem drew_al (w : World) (o : Obj) : (World.alloc w o).drew = (World.drew w).alloc o := rfl
/-- Slot j alone is another. -/
def ElseR (C C' : Nat → RCont) (i : Nat) (ro : List S78) : Prop := C' (i * 2 + 1) = .steps ro ∧ ∀ j, j ≠ i * 2 + 1 → C' j = C j
/-- What Append answers, and the tape behind it. -/
def RAppIs (base : Nat) (U : Nat → Prop) (r i : Nat) (C : Nat → RCont) (x : Int × List Int × List (Bool × Int) × Int × Bool) (w : World) (y : Ending) (w' : World) : Prop :=
  y = .returned (.int .i64 x.1) ∧ ∃ C', RefU base (fun k => U k ∨ w.heap.size ≤ k) w' r C' x.2.2.2.1 x.2.2.2.2 ∧ ElseR C C' i (x.2.2.1.map cv) ∧ Below base w w' ∧ Kept w w' U
set_option maxHeartbeats 4000000 in
set_option maxRecDepth 100000 in
theorem rappend_ok (base : Nat) (U : Nat → Prop) (r i : Nat) (C : Nat → RCont) (sure : List Int) (ro : List S78) (o : List (Bool × Int)) (now : List Int) (f : Int) (A : Option Addr) (c : Nat) (b : List Int) (w : World) (h : RefU base U w r C f false) (hi : i < 4) (hc0 : C (i * 2) = .bytes sure) (hc1 : C (i * 2 + 1) = .steps ro) (hro : ro = o.map cv)
    (hok : okS o sure.length) (hnow : crashB o sure = now) (hl : sure.length ≤ 1048576) (hf : f ≤ 9223372036854775807) (hbw : base ≤ w.heap.size) (hn : now.length + b.length ≤ 1048576) (ho : o.length + b.length ≤ 100000000) (hC : Kd.C (Kd.int .u8) w A b.length b) (hcap : b.length ≤ c) (hsep : ∀ a, A = some a → 0 < b.length → ¬ U a.block) :
    Calls Try.prog 32 #[.pointer (some ⟨r, 0, none⟩), .int .i64 i, .slice A b.length c] w (RAppIs base U r i C (appT b now o f false) w) := by
  have x9 : w.cell? ⟨r, 9, none⟩ = some (.bool false) := by obtain ⟨S, V, hT, hU, hS⟩ := h; exact hT.down
  have HN := Lib.hid (now_ok base U r i C sure ro o now f false w h hi hc0 hc1 hro hok hnow hl (by omega))
  have hi0 : (0 : Int) ≤ i := by omega
  have hi4 : (i : Int) < 4 := by omega
  have hnI : (now.length : Int) ≤ 1048576 - (b.length : Int) := by omega
  have hbI : (b.length : Int) ≤ 1048576 := by omega
  have HC := Lib.hid hC
  have HSEP := Lib.hid hsep
  have HT0 := Lib.hid h
  have HUr : Hid (U r) := by obtain ⟨S, V, hT, hU, hS⟩ := h; exact Lib.hid hU
  have HE : Hid (ElseR C C i (o.map cv)) := Lib.hid ⟨by rw [hc1, hro], fun _ _ => rfl⟩
  clear hC hsep h hc0 hc1 hro hok hnow
  go_enter Try.func32, Try.ntmps32
  go_upto_region 8 with (first | ((with_reducible go_at_call 10); go_must (refine (is_yes _ _ hi0 hi4).mono ?_; rintro e w' ⟨rfl, rfl⟩)) | ((with_reducible go_at_call 38); go_must (refine HN.out.mono ?_; rintro e w2 ⟨Av, cv_, rfl, hv, hb⟩; have HV := Lib.hid hv; have HBV := Lib.hid hb; clear hv hb)))
  have HT : Hid (RefU base (fun k => U k ∨ w.heap.size ≤ k) w2 r C f false) := Lib.hid (RefU.mono (RefU.step HT0.out HBV.out.size (fun k _ hk => HBV.out.block k hk)) (fun k hk => .inl hk))
  have HB : Hid (Below base w w2) := Lib.hid (Below.mono HBV.out hbw)
  have HK : Hid (Kept w w2 U) := Lib.hid (Kept.of_below HBV.out U)
  clear x9 HN HV HBV HT0
  go_loopw [7] (fun u7 wr => ∃ (k : Nat) (C' : Nat → RCont) (now' : List Int) (opn' : List (Bool × Int)) (f' : Int), u7 = .int .i64 k ∧ k ≤ b.length ∧ Hid (opn'.length = o.length + k) ∧ f' ≤ 9223372036854775807 ∧ Hid (RefU base (fun k => U k ∨ w.heap.size ≤ k) wr r C' f' false) ∧ Hid (ElseR C C' i (opn'.map cv)) ∧ Hid (Below base w wr) ∧ Hid (Kept w wr U) ∧ Hid (appT b now o f false = appT (b.drop k) now' opn' f' false)) (fun u7 _ => b.length - (intOf u7).toNat)
  case atStart => exact ⟨0, C, now, o, f, rfl, Nat.zero_le _, Lib.hid rfl, hf, HT, HE, HB, HK, Lib.hid rfl⟩
  clear HT HE HB HK hf
  obtain ⟨k, C', now', opn', f', rfl, hk, HOL, hf, HT, HE, HB, HK, HX⟩ := hrel
  by_cases hlt : k < b.length
  · have hlt' : (k : Int) < b.length := by omega
    obtain ⟨x, hx⟩ : ∃ x, b[k]? = some x := ⟨_, List.getElem?_eq_getElem hlt⟩
    obtain ⟨bb, off, rfl, x0⟩ := byte_in HC.out hx
    have x0 := cell_kept x0 HK.out (show ¬ U bb from HSEP.out ⟨bb, off, none⟩ rfl (by omega))
    have hdr : b.drop k = x :: b.drop (k + 1) := by
      have := List.getElem?_eq_some_iff.1 hx
      rw [← this.2, List.drop_eq_getElem_cons]
    have hX := HX.out
    rw [hdr, appT] at hX
    have HX2 := Lib.hid hX
    obtain ⟨S, V, hT, hU, hS⟩ := HT.out
    have hbs : base ≤ wr.heap.size := Nat.le_trans hbw HK.out.1
    have HTI := Lib.hid hT
    have HSU := Lib.hid hS
    clear hX hdr hx HT HX hT hS hU
    by_cases q : f' = 0
    · have ht : powT f' false = (false, 0, true) := by rw [q]; rfl
      have HTK := Lib.hid ht
      clear ht q
      go_wp2_with (first | ((with_reducible go_at_call 39); go_must (refine (step_ok base S r V C' f' false _ HTI.out hf).mono ?_; rw [HTK.out]; rintro y w2 ⟨rfl, ht, hg⟩; have hb_ := Below.grown HB.out hg hbs (fun k hk => by cases hk; exact ht.2.1); have hk_ := Kept.of_grown hg HK.out (fun k hk => by cases hk; exact .inl HUr.out); clear HTI HB HK x0; have HTI := Lib.hid ht; have HB := Lib.hid hb_; have HK := Lib.hid hk_; clear ht hg hb_ hk_)))
      go_ret
      have e : appT b now o f false = (100, now', opn', 0, true) := by rw [HX2.out, HTK.out]; rfl
      rw [e]
      exact ⟨rfl, C', ⟨S, V, HTI.out, .inl HUr.out, HSU.out⟩, HE.out, HB.out, HK.out⟩
    · have ht : powT f' false = (true, (powT f' false).2.1, false) := by
        unfold powT
        rw [if_neg q]
        split <;> rfl
      obtain ⟨f2, hf2⟩ : ∃ x, (powT f' false).2.1 = x := ⟨_, rfl⟩
      rw [hf2] at ht
      have hf3 : f2 ≤ 9223372036854775807 := by
        rw [← hf2]; unfold powT; rw [if_neg q]; split <;> simp <;> omega
      have HTK := Lib.hid ht
      clear ht q hf2
      go_upto_region 12 with (first | ((with_reducible go_at_call 39); go_must (refine (step_ok base S r V C' f' false _ HTI.out hf).mono ?_; rw [HTK.out]; rintro y w2 ⟨rfl, ht, hg⟩; have hb_ := Below.grown HB.out hg hbs (fun k hk => by cases hk; exact ht.2.1); have hk_ := Kept.of_grown hg HK.out (fun k hk => by cases hk; exact .inl HUr.out); clear HTI HB HK; have x0 := (World.cell?_of_block (hg.block bb (World.block_lt_of_cell? _ _ x0) (fun e_ => HSEP.out ⟨bb, off, none⟩ rfl (by omega) (by injection e_ with e_; rw [show bb = r from e_]; exact HUr.out)))).trans x0; have HTI := Lib.hid ht; have HB := Lib.hid hb_; have HK := Lib.hid hk_; obtain ⟨ro', hro'⟩ : ∃ x, opn'.map cv = x := ⟨_, rfl⟩; have HRO := Lib.hid hro'.symm; have hrl : ro'.length ≤ 100000000 := (by rw [← hro', List.length_map, HOL.out]; omega); have hcc := HE.out.1; rw [hro'] at hcc; obtain ⟨A2, c2, e2, hR2⟩ := slot_stepsr ht (j := i * 2 + 1) (by omega) hcc; have y3 := ht.cell (j := i * 2 + 1) (by omega); have hL2 := ht.lt; rw [e2] at y3; have HR2 := Lib.hid hR2; have HE3 := Lib.hid e2; clear hbs; have hbs : base ≤ w2.heap.size := Nat.le_trans hbw HK.out.1; clear hro' hcc ht hg hb_ hk_ hR2 e2)))
      go_region_law (first | ((rw [drew_al]; refine Kd.R_append_step k78 (w0 := _) base rfl (.tmp 40) (.tmp 46) 52 78 (.agg #[.int .u8 0, .int .i64 0]) 16 rfl Try.underlying52 info78 rfl (by decide) (by decide) (.slice A2 ro'.length c2) ro' ⟨x, -1⟩ [.int .u8 x, .int .i64 (-1)] (fun k => S (i * 2 + 1) k ∨ w2.heap.size ≤ k) (fun _ => False) ?aS ?aX ?aP (fun _ h => h.elim) ?aF ?aR (Below.refl _ _) ?aH ?aL ?_); (case aS => rfl); (case aX => rfl); (case aF => exact (fun k hk => .inr hk)); (case aH => exact hbs); (case aP => exact k78_mkM _ _ _ ⟨x, -1⟩); (case aR => exact Kd.R_mono HR2.out (fun k hk => .inl hk)); (case aL => omega); intro vA wA ho hb hg hat; have hg : w2.grownBy wA (Value.slice A2 ro'.length c2).ownBlock := ⟨hg.os, hg.tape, hg.output, hg.size, hg.block⟩; obtain ⟨AV2, cV2, rfl⟩ := Kd.R_slice ho; obtain ⟨y4, z4⟩ := slot_atr HTI.out (j := i * 2 + 1) (by omega) (by rw [HE3.out]; exact hg); rw [HE3.out] at y4; have HO := Lib.hid ho; have HGR := Lib.hid hg; clear ho hb hg hat))
      all_goals
        have hp := step_putr HTI.out HUr.out HSU.out (j := i * 2 + 1) (v := .slice AV2 (ro'.length + 1) cV2) (c := .steps (ro' ++ [⟨x, -1⟩])) (by omega) (by rw [HE3.out]; exact HGR.out) (by have := HO.out; rw [List.length_append] at this; exact this) HB.out hbw HK.out
        refine world_gen (P := fun w6 => RefU base (fun k => U k ∨ w.heap.size ≤ k) w6 r (upd C' (i * 2 + 1) (.steps (ro' ++ [⟨x, -1⟩]))) f2 false ∧ Below base w w6 ∧ Kept w w6 U) hp (fun w6 h6 => ?_)
        obtain ⟨p1, p2, p3⟩ := h6
        have HT := Lib.hid p1
        have HB2 := Lib.hid p2
        have HK2 := Lib.hid p3
        have HE5 : Hid (ElseR C (upd C' (i * 2 + 1) (.steps (ro' ++ [⟨x, -1⟩]))) i ((opn' ++ [(false, x)]).map cv)) := Lib.hid ⟨by rw [upd_same, HRO.out, List.map_append]; rfl, fun j hj => (upd_ne _ _ hj).trans (HE.out.2 j hj)⟩
        clear hp y4 z4 HO HGR HTI HB HK HR2 HE3 hbs HSU p1 p2 p3
        go_wp2
        exact ⟨⟨k + 1, _, now' ++ [x], opn' ++ [(false, x)], f2, by go_num, by omega, Lib.hid (by rw [List.length_append, HOL.out]; simp; omega), hf3, HT, HE5, HB2, HK2, Lib.hid (by rw [HX2.out, HTK.out]; rfl)⟩, by simp [intOf]; omega⟩
  · have hlt' : (b.length : Int) ≤ k := by omega
    have hX := HX.out
    rw [List.drop_of_length_le (by omega), appT] at hX
    have HX2 := Lib.hid hX
    clear hX HX
    go_wp2
    go_ret
    rw [HX2.out]
    exact ⟨rfl, C', HT.out, HE.out, HB.out, HK.out⟩
/-- What Cut answers, and the tape behind it. -/
def RCutIs (base : Nat) (U : Nat → Prop) (r i n : Nat) (C : Nat → RCont) (ro : List S78) (x : Bool × Int × Bool) (w : World) (y : Ending) (w' : World) : Prop :=
  y = .returned (.int .i64 (if x.1 = true then 0 else 100)) ∧ RefU base (fun k => U k ∨ w.heap.size ≤ k) w' r (if x.1 = true then upd C (i * 2 + 1) (.steps (ro ++ [⟨0, (n : Int)⟩])) else C) x.2.1 x.2.2 ∧ Below base w w' ∧ Kept w w' U
set_option maxHeartbeats 4000000 in
set_option maxRecDepth 100000 in
theorem rcut_ok (base : Nat) (U : Nat → Prop) (r i n : Nat) (C' : Nat → RCont) (sure : List Int) (ro' : List S78) (o : List (Bool × Int)) (now : List Int) (f' : Int) (w : World) (h : RefU base U w r C' f' false) (hi : i < 4) (hc0 : C' (i * 2) = .bytes sure) (hc1 : C' (i * 2 + 1) = .steps ro') (hro : ro' = o.map cv)
    (hok : okS o sure.length) (hnow : crashB o sure = now) (hl : sure.length ≤ 1048576) (hf : f' ≤ 9223372036854775807) (hbw : base ≤ w.heap.size) (hn : n ≤ now.length) (ho : o.length ≤ 10000000) :
    Calls Try.prog 33 #[.pointer (some ⟨r, 0, none⟩), .int .i64 i, .int .i64 n] w (RCutIs base U r i n C' ro' (powT f' false) w) := by
  have x9 : w.cell? ⟨r, 9, none⟩ = some (.bool false) := by obtain ⟨S, V, hT, hU, hS⟩ := h; exact hT.down
  have HN := Lib.hid (now_ok base U r i C' sure ro' o now f' false w h hi hc0 hc1 hro hok hnow hl (by omega))
  have hi0 : (0 : Int) ≤ i := by omega
  have hi4 : (i : Int) < 4 := by omega
  have hnI : (n : Int) ≤ now.length := by omega
  have hrl : ro'.length ≤ 10000000 := by rw [hro, List.length_map]; exact ho
  have HT0 := Lib.hid h
  have HUr : Hid (U r) := by obtain ⟨S, V, hT, hU, hS⟩ := h; exact Lib.hid hU
  have HC1 := Lib.hid hc1
  clear h hc0 hc1 hro hok hnow
  go_enter Try.func33, Try.ntmps33
  go_upto_region 3 with (first | ((with_reducible go_at_call 10); go_must (refine (is_yes _ _ hi0 hi4).mono ?_; rintro e w' ⟨rfl, rfl⟩)) | ((with_reducible go_at_call 38); go_must (refine HN.out.mono ?_; rintro e w2 ⟨Av, cv_, rfl, hv, hb⟩; have HV := Lib.hid hv; have HBV := Lib.hid hb; have x9 := cell_b hb x9; clear hv hb)))
  refine world_gen (P := fun wr => RefU base (fun k => U k ∨ w.heap.size ≤ k) wr r C' f' false ∧ Below base w wr ∧ Kept w wr U) ⟨RefU.mono (RefU.step HT0.out HBV.out.size (fun k _ hk => HBV.out.block k hk)) (fun k hk => .inl hk), Below.mono HBV.out hbw, Kept.of_below HBV.out U⟩ (fun wr h3 => ?_)
  clear x9 HN HV HBV HT0
  obtain ⟨hT, hB, hK⟩ := h3
  obtain ⟨S, V, hT, hU, hS⟩ := hT
  have x13 := hT.down
  have HTI := Lib.hid hT
  have HSU := Lib.hid hS
  have HB := Lib.hid hB
  have HK := Lib.hid hK
  have hbs : base ≤ wr.heap.size := Nat.le_trans hbw hK.1
  have x0 := True.intro
  clear hT hU hS hB hK
  by_cases q : f' = 0
  · have ht : powT f' false = (false, 0, true) := by rw [q]; rfl
    have HTK := Lib.hid ht
    clear ht q
    go_wp2_with (first | ((with_reducible go_at_call 39); go_must (refine (step_ok base S r V C' f' false _ HTI.out hf).mono ?_; rw [HTK.out]; rintro y w2 ⟨rfl, ht, hg⟩; have hb_ := Below.grown HB.out hg hbs (fun k hk => by cases hk; exact ht.2.1); have hk_ := Kept.of_grown hg HK.out (fun k hk => by cases hk; exact .inl HUr.out); clear HTI HB HK x0; have HTI := Lib.hid ht; have HB := Lib.hid hb_; have HK := Lib.hid hk_; clear ht hg hb_ hk_)))
    go_ret
    rw [HTK.out]
    exact ⟨rfl, ⟨S, V, HTI.out, .inl HUr.out, HSU.out⟩, HB.out, HK.out⟩
  · have ht : powT f' false = (true, (powT f' false).2.1, false) := by
      unfold powT
      rw [if_neg q]
      split <;> rfl
    obtain ⟨f2, hf2⟩ : ∃ x, (powT f' false).2.1 = x := ⟨_, rfl⟩
    rw [hf2] at ht
    have HTK := Lib.hid ht
    clear ht q hf2
    go_upto_region 5 with (first | ((with_reducible go_at_call 39); go_must (refine (step_ok base S r V C' f' false _ HTI.out hf).mono ?_; rw [HTK.out]; rintro y w2 ⟨rfl, ht, hg⟩; have hb_ := Below.grown HB.out hg hbs (fun k hk => by cases hk; exact ht.2.1); have hk_ := Kept.of_grown hg HK.out (fun k hk => by cases hk; exact .inl HUr.out); clear HTI HB HK x0; have HTI := Lib.hid ht; have HB := Lib.hid hb_; have HK := Lib.hid hk_; obtain ⟨A2, c2, e2, hR2⟩ := slot_stepsr ht (j := i * 2 + 1) (by omega) HC1.out; have y3 := ht.cell (j := i * 2 + 1) (by omega); have hL2 := ht.lt; rw [e2] at y3; have HR2 := Lib.hid hR2; have HE3 := Lib.hid e2; clear hbs; have hbs : base ≤ w2.heap.size := Nat.le_trans hbw HK.out.1; clear ht hg hb_ hk_ hR2 e2)))
    go_region_law (first | ((rw [drew_al]; refine Kd.R_append_step k78 (w0 := _) base rfl (.tmp 39) (.tmp 42) 52 78 (.agg #[.int .u8 0, .int .i64 0]) 16 rfl Try.underlying52 info78 rfl (by decide) (by decide) (.slice A2 ro'.length c2) ro' ⟨0, (n : Int)⟩ [.int .u8 0, .int .i64 n] (fun k => S (i * 2 + 1) k ∨ w2.heap.size ≤ k) (fun _ => False) ?aS ?aX ?aP (fun _ h => h.elim) ?aF ?aR (Below.refl _ _) ?aH ?aL ?_); (case aS => rfl); (case aX => rfl); (case aF => exact (fun k hk => .inr hk)); (case aH => exact hbs); (case aP => exact k78_mkM _ _ _ ⟨0, (n : Int)⟩); (case aR => exact Kd.R_mono HR2.out (fun k hk => .inl hk)); (case aL => omega); intro vA wA ho hb hg hat; have hg : w2.grownBy wA (Value.slice A2 ro'.length c2).ownBlock := ⟨hg.os, hg.tape, hg.output, hg.size, hg.block⟩; obtain ⟨AV2, cV2, rfl⟩ := Kd.R_slice ho; obtain ⟨y4, z4⟩ := slot_atr HTI.out (j := i * 2 + 1) (by omega) (by rw [HE3.out]; exact hg); rw [HE3.out] at y4; have HO := Lib.hid ho; have HGR := Lib.hid hg; clear ho hb hg hat))
    all_goals
      go_wp2
      go_ret
      have hp := step_putr HTI.out HUr.out HSU.out (j := i * 2 + 1) (v := .slice AV2 (ro'.length + 1) cV2) (c := .steps (ro' ++ [⟨0, (n : Int)⟩])) (by omega) (by rw [HE3.out]; exact HGR.out) (by have := HO.out; rw [List.length_append] at this; exact this) HB.out hbw HK.out
      rw [HTK.out]
      exact ⟨rfl, hp⟩
/-- What Sync answers, and the tape behind it. -/
def RSyncIs (base : Nat) (U : Nat → Prop) (r i : Nat) (C : Nat → RCont) (now : List Int) (x : Bool × Int × Bool) (w : World) (y : Ending) (w' : World) : Prop :=
  y = .returned (.int .i64 (if x.1 = true then 0 else 100)) ∧ RefU base (fun k => U k ∨ w.heap.size ≤ k) w' r (if x.1 = true then upd (upd C (i * 2) (.bytes now)) (i * 2 + 1) (.steps []) else C) x.2.1 x.2.2 ∧ Below base w w' ∧ Kept w w' U
/-- Two slots at once: fresh bytes, and no steps. -/
theorem put2 {base : Nat} {S : Nat → Nat → Prop} {U : Nat → Prop} {w wr w1 : World} {r i : Nat} {V : Nat → Value} {C : Nat → RCont} {f : Int} {d : Bool} {A : Option Addr} {n c : Nat} {l : List Int} (h : RefIs base S wr r V C f d) (hi : i < 4) (hU : U r) (hS : ∀ j k, S j k → U k ∨ w.heap.size ≤ k)
    (hb : Below wr.heap.size wr w1) (ho : Kd.R (Kd.int .u8) 5 w1 wr.heap.size (fun _ => True) (.slice A n c) l) (hB : Below base w wr) (hbw : base ≤ w.heap.size) (hK : Kept w wr U) :
    RefU base (fun k => U k ∨ w.heap.size ≤ k) ((w1.setCell ⟨r, i * 2, none⟩ (.slice A n c)).setCell ⟨r, i * 2 + 1, none⟩ (.slice none 0 0)) r (upd (upd C (i * 2) (.bytes l)) (i * 2 + 1) (.steps [])) f d ∧ Below base w ((w1.setCell ⟨r, i * 2, none⟩ (.slice A n c)).setCell ⟨r, i * 2 + 1, none⟩ (.slice none 0 0)) ∧ Kept w ((w1.setCell ⟨r, i * 2, none⟩ (.slice A n c)).setCell ⟨r, i * 2 + 1, none⟩ (.slice none 0 0)) U := by
  have hbs : base ≤ wr.heap.size := Nat.le_trans hbw hK.1
  obtain ⟨⟨S2, V2, h2, hU2, hS2⟩, hB2, hK2⟩ := step_putr h hU hS (j := i * 2) (v := .slice A n c) (c := .bytes l) (by omega) (grown_below hb _) (.inl (Kd.R_lower (Kd.R_mono (Kd.R_bound ho) (fun k hk => .inr hk.2.1)) hbs)) hB hbw hK
  exact step_putr h2 hU hS2 (j := i * 2 + 1) (v := .slice none 0 0) (c := .steps []) (by omega) (World.grownBy.refl _ _) (Kd.R_nil _ _ _ _ _) hB2 hbw hK2
set_option maxHeartbeats 4000000 in
set_option maxRecDepth 100000 in
theorem rsync_ok (base : Nat) (U : Nat → Prop) (r i : Nat) (C' : Nat → RCont) (sure : List Int) (ro' : List S78) (o : List (Bool × Int)) (now : List Int) (f' : Int) (w : World) (h : RefU base U w r C' f' false) (hi : i < 4) (hc0 : C' (i * 2) = .bytes sure) (hc1 : C' (i * 2 + 1) = .steps ro') (hro : ro' = o.map cv)
    (hok : okS o sure.length) (hnow : crashB o sure = now) (hl : sure.length ≤ 1048576) (hf : f' ≤ 9223372036854775807) (hbw : base ≤ w.heap.size) (ho : o.length ≤ 10000000) :
    Calls Try.prog 34 #[.pointer (some ⟨r, 0, none⟩), .int .i64 i] w (RSyncIs base U r i C' now (powT f' false) w) := by
  have hi0 : (0 : Int) ≤ i := by omega
  have hi4 : (i : Int) < 4 := by omega
  obtain ⟨S, V, hT, hU, hS0⟩ := h
  have hS : ∀ j k, S j k → U k ∨ w.heap.size ≤ k := fun j k hk => .inl (hS0 j k hk)
  have x13 := hT.down
  have HTI := Lib.hid hT
  have HUr := Lib.hid hU
  have HSU := Lib.hid hS
  have HB := Lib.hid (Below.refl base w)
  have HK := Lib.hid (Kept.refl w U)
  have HC0 := Lib.hid hc0
  have HC1 := Lib.hid hc1
  have HRO := Lib.hid hro
  have HOK := Lib.hid hok
  have HNOW := Lib.hid hnow
  have hbs := hbw
  have x0 := True.intro
  clear hT hU hS hS0 hc0 hc1 hro hok hnow
  by_cases q : f' = 0
  · have ht : powT f' false = (false, 0, true) := by rw [q]; rfl
    have HTK := Lib.hid ht
    clear ht q
    go_enter Try.func34, Try.ntmps34
    go_wp2_with (first | ((with_reducible go_at_call 10); go_must (refine (is_yes _ _ hi0 hi4).mono ?_; rintro e w' ⟨rfl, rfl⟩)) | ((with_reducible go_at_call 39); go_must (refine (step_ok base S r V C' f' false _ HTI.out hf).mono ?_; rw [HTK.out]; rintro y w2 ⟨rfl, ht, hg⟩; have hb_ := Below.grown HB.out hg hbs (fun k hk => by cases hk; exact ht.2.1); have hk_ := Kept.of_grown hg HK.out (fun k hk => by cases hk; exact .inl HUr.out); clear HTI HB HK x0; have HTI := Lib.hid ht; have HB := Lib.hid hb_; have HK := Lib.hid hk_; clear ht hg hb_ hk_)))
    go_ret
    rw [HTK.out]
    exact ⟨rfl, ⟨S, V, HTI.out, .inl HUr.out, HSU.out⟩, HB.out, HK.out⟩
  · have ht : powT f' false = (true, (powT f' false).2.1, false) := by
      unfold powT
      rw [if_neg q]
      split <;> rfl
    obtain ⟨f2, hf2⟩ : ∃ x, (powT f' false).2.1 = x := ⟨_, rfl⟩
    rw [hf2] at ht
    have HTK := Lib.hid ht
    clear ht q hf2
    go_enter Try.func34, Try.ntmps34
    go_upto_region 5 with (first | ((with_reducible go_at_call 10); go_must (refine (is_yes _ _ hi0 hi4).mono ?_; rintro e w' ⟨rfl, rfl⟩)) | ((with_reducible go_at_call 39); go_must (refine (step_ok base S r V C' f' false _ HTI.out hf).mono ?_; rw [HTK.out]; rintro y w2 ⟨rfl, ht, hg⟩; have hb_ := Below.grown HB.out hg hbs (fun k hk => by cases hk; exact ht.2.1); have hk_ := Kept.of_grown hg HK.out (fun k hk => by cases hk; exact .inl HUr.out); clear HTI HB HK x0; have HTI := Lib.hid ht; have HB := Lib.hid hb_; have HK := Lib.hid hk_; clear ht hg hb_ hk_)))
    go_region_law (first | (go_simp; (with_reducible go_at_call 38); go_must (refine (now_ok base (fun k => U k ∨ w.heap.size ≤ k) r i C' sure ro' o now f2 false _ ⟨S, V, HTI.out.below (below_drew1 (Below.refl _ _)), .inl HUr.out, HSU.out⟩ hi HC0.out HC1.out HRO.out HOK.out HNOW.out hl (by omega)).mono ?_; rintro e w3 ⟨Av, cv_, rfl, hv, hb⟩; have hb : Below w2.heap.size w2 w3 := ⟨hb.os, hb.tape, hb.output, hb.size, hb.block⟩; have hv : Kd.R (Kd.int .u8) 5 w3 w2.heap.size (fun _ => True) (.slice Av now.length cv_) now := hv; have u0 := (HTI.out.below hb).cell (j := i * 2) (by omega); have u1 := (HTI.out.below hb).cell (j := i * 2 + 1) (by omega); have t0 := (HTI.out.below hb).free (i * 2); have t1 := (HTI.out.below hb).free (i * 2 + 1); have HV := Lib.hid hv; have HBV := Lib.hid hb; clear hv hb)))
    all_goals
      go_wp2
      go_ret
      have hp := put2 HTI.out hi HUr.out HSU.out HBV.out HV.out HB.out hbw HK.out
      rw [HTK.out]
      exact ⟨rfl, hp⟩
end Go.Proofs.Ytbccjamcfodeiaa.RTape3
