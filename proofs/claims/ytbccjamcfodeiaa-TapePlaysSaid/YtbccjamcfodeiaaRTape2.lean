/- PROVED: what the reference's tape answers where it changes nothing. No condition beyond what each line says. -/
import Derived.Test.YtbccjamcfodeiaaRTape
import Derived.Test.YtbccjamcfodeiaaLRead
import Derived.Test.YtbccjamcfodeiaaWApart
import Derived.Test.YtbccjamcfodeiaaWKept
import Derived.WalkKit
import Derived.WalkSpells
import Derived.WalkLawsBesides
import Derived.WalkMore
import Derived.Outline
import Derived.Lib.Hide
import Derived.BigQuiet
import Derived.Deep.QuietTactic
import Derived.Deep.RegionHeld3
import Derived.Deep.RegionLaw
import Derived.Deep.LoopGhost
import Derived.Deep.DeepCutAuto
namespace Go.Proofs.Ytbccjamcfodeiaa.RTape2
open Go.RowKit Go.Proofs.Ytbccjamcfodeiaa.PTapePlays Go.Proofs.YtbccjamcfodeiaaW.PrintWords Go.Proofs.YtbccjamcfodeiaaW.PrintLast Go.Proofs.YtbccjamcfodeiaaW.PrintMore
open Go.Proofs.Ytbccjamcfodeiaa.Tape Go.Proofs.Ytbccjamcfodeiaa.Tape2 Go.Proofs.Ytbccjamcfodeiaa.Tape3 Go.Proofs.Ytbccjamcfodeiaa.Tape4 Go.Proofs.Ytbccjamcfodeiaa.Tape5 Go.Proofs.Ytbccjamcfodeiaa.Tape6 Go.Proofs.Ytbccjamcfodeiaa.Tape7 Go.Proofs.Ytbccjamcfodeiaa.Tape8 Go.Proofs.Ytbccjamcfodeiaa.Tape9
open Go.Proofs.Ytbccjamcfodeiaa.TapeW Go.Proofs.Ytbccjamcfodeiaa.TapeF Go.Proofs.Ytbccjamcfodeiaa.TapeP Go.Proofs.Ytbccjamcfodeiaa.TapeP2 Go.Proofs.Ytbccjamcfodeiaa.RTape
set_option linter.unusedSimpArgs false
set_option linter.unusedVariables false
set_option maxHeartbeats 4000000 in
set_option maxRecDepth 100000 in
theorem now_ok (base : Nat) (U : Nat → Prop) (r i : Nat) (C : Nat → RCont) (sure : List Int) (ro : List S78) (o : List (Bool × Int)) (now : List Int) (f : Int) (d : Bool) (w : World) (h : RefU base U w r C f d) (hi : i < 4) (hc0 : C (i * 2) = .bytes sure) (hc1 : C (i * 2 + 1) = .steps ro) (hro : ro = o.map cv)
    (hok : okS o sure.length) (hnow : crashB o sure = now) (hl : sure.length ≤ 1048576) (ho : o.length ≤ 100000000) :
    Calls Try.prog 38 #[.pointer (some ⟨r, 0, none⟩), .int .i64 i] w fun e w' => ∃ A c, e = .returned (.slice A now.length c) ∧ Kd.R (Kd.int .u8) 5 w' w.heap.size (fun _ => True) (.slice A now.length c) now ∧ Below w.heap.size w w' := by
  obtain ⟨S, V, hT, hU, hS⟩ := h
  obtain ⟨A0, c0, e0, hR0⟩ := slot_bytesr hT (j := i * 2) (by omega) hc0
  obtain ⟨A1, c1, e1, hR1⟩ := slot_stepsr hT (j := i * 2 + 1) (by omega) hc1
  have x0 := hT.cell (j := i * 2) (by omega)
  have x1 := hT.cell (j := i * 2 + 1) (by omega)
  rw [e0] at x0
  rw [e1] at x1
  have hiI : (i : Int) < 4 := by omega
  have hlr : ro.length = o.length := by rw [hro, List.length_map]
  have hroI : (ro.length : Int) ≤ 100000000 := by omega
  have HR0 := Lib.hid (OwnB.reads' hR0)
  have HR1 := Lib.hid (Kd.R_reads' hR1)
  have HE : Hid (crashB (o.take ro.length) sure = now) := Lib.hid (by rw [hlr, List.take_length]; exact hnow)
  have HRO := Lib.hid hro
  have HOK := Lib.hid hok
  have HLR := Lib.hid (Nat.le_of_eq hlr)
  have HX := Lib.hid (⟨x0, x1⟩ : w.cell? ⟨r, i * 2, none⟩ = some (.slice A0 sure.length c0) ∧ w.cell? ⟨r, i * 2 + 1, none⟩ = some (.slice A1 ro.length c1))
  clear hT hU hS hc0 hc1 e0 e1 hR0 hR1 hlr hro hok hnow x0 x1
  go_enter Try.func38, Try.ntmps38
  go_upto_region 1 with (fail)
  have HSC := Lib.hid (show (World.drew w).cell? ⟨r, i * 2, none⟩ = some (.slice A0 sure.length c0) ∧ (World.drew w).cell? ⟨r, i * 2 + 1, none⟩ = some (.slice A1 ro.length c1) from ⟨by rw [World.cell?_drew]; exact HX.out.1, by rw [World.cell?_drew]; exact HX.out.2⟩)
  have HBD := Lib.hid (below_drew1 (Below.refl w.heap.size w))
  go_region_held3 (fun w2 => w2.cell? ⟨r, i * 2, none⟩ = some (.slice A0 sure.length c0) ∧ w2.cell? ⟨r, i * 2 + 1, none⟩ = some (.slice A1 ro.length c1)) (first | with_reducible exact HSC.out) (first | ((with_reducible go_at_call 31); have q9 := after_t A0 A1 _ c0 _ c1 sure ro o ro.length _ rfl rfl (Kd.C_below HR0.out.2.2 HBD.out) HR0.out.2.1 (Kd.C_below HR1.out.2.2 HBD.out) HR1.out.2.1 HRO.out HLR.out (by omega) HOK.out (by omega); rw [HE.out] at q9; (with_reducible refine q9.mono ?_); clear q9; rintro e w2 ⟨Av, cv_, rfl, hv, hb⟩; have hs_ := (show _ ∧ _ from ⟨cell_b hb HSC.out.1, cell_b hb HSC.out.2⟩); clear HSC; have HSC := Lib.hid hs_; clear hs_; have HV := Lib.hid hv; have HBV : Hid (Below w.heap.size w w2) := Lib.hid (below_step HBD.out hb); clear hv hb))
  all_goals
    go_wp2
    go_ret
    exact ⟨_, _, rfl, HV.out, HBV.out⟩
theorem ropen_ok (base : Nat) (U : Nat → Prop) (r i : Nat) (C : Nat → RCont) (ro : List S78) (f : Int) (d : Bool) (w : World) (h : RefU base U w r C f d) (hi : i < 4) (hc1 : C (i * 2 + 1) = .steps ro) :
    Calls Try.prog 37 #[.pointer (some ⟨r, 0, none⟩), .int .i64 i] w fun e w' => e = .returned (.int .i64 ro.length) ∧ w = w' := by
  obtain ⟨S, V, hT, hU, hS⟩ := h
  obtain ⟨A1, c1, e1, hR1⟩ := slot_stepsr hT (j := i * 2 + 1) (by omega) hc1
  have x1 := hT.cell (j := i * 2 + 1) (by omega)
  rw [e1] at x1
  have hi0 : (0 : Int) ≤ i := by omega
  have hi4 : (i : Int) < 4 := by omega
  clear hT hU hS hc1 e1 hR1
  go_enter Try.func37, Try.ntmps37
  go_wp2_with (first | ((with_reducible go_at_call 10); go_must (refine (is_yes _ _ hi0 hi4).mono ?_; rintro e w' ⟨rfl, rfl⟩)))
  go_ret
  exact ⟨rfl, rfl⟩
theorem ropen_bad (r : Nat) (i : Int) (w : World) (hno : ¬ (0 ≤ i ∧ i < 4)) : Calls Try.prog 37 #[.pointer (some ⟨r, 0, none⟩), .int .i64 i] w fun e w' => e = .returned (.int .i64 0) ∧ w = w' := by
  go_enter Try.func37, Try.ntmps37
  go_wp2_with (first | ((with_reducible go_at_call 10); go_must (refine (is_no _ _ hno).mono ?_; rintro e w' ⟨rfl, rfl⟩)))
  go_ret
  exact ⟨rfl, rfl⟩
theorem rread_bad (r : Nat) (i : Int) (w : World) (hno : ¬ (0 ≤ i ∧ i < 4)) : Calls Try.prog 36 #[.pointer (some ⟨r, 0, none⟩), .int .i64 i] w fun e w' => e = .returned (.tuple #[.slice none 0 0, .int .i64 1]) ∧ w = w' := by
  go_enter Try.func36, Try.ntmps36
  go_wp2_with (first | ((with_reducible go_at_call 10); go_must (refine (is_no _ _ hno).mono ?_; rintro e w' ⟨rfl, rfl⟩)))
  go_ret2
  exact ⟨rfl, rfl⟩
theorem rread_down (r i : Nat) (w : World) (hi : i < 4) (x : w.cell? ⟨r, 9, none⟩ = some (.bool true)) : Calls Try.prog 36 #[.pointer (some ⟨r, 0, none⟩), .int .i64 i] w fun e w' => e = .returned (.tuple #[.slice none 0 0, .int .i64 100]) ∧ w = w' := by
  have hi0 : (0 : Int) ≤ i := by omega
  have hi4 : (i : Int) < 4 := by omega
  go_enter Try.func36, Try.ntmps36
  go_wp2_with (first | ((with_reducible go_at_call 10); go_must (refine (is_yes _ _ hi0 hi4).mono ?_; rintro e w' ⟨rfl, rfl⟩)))
  go_ret2
  exact ⟨rfl, rfl⟩
theorem rread_ok (base : Nat) (U : Nat → Prop) (r i : Nat) (C : Nat → RCont) (sure : List Int) (ro : List S78) (o : List (Bool × Int)) (now : List Int) (f : Int) (w : World) (h : RefU base U w r C f false) (hi : i < 4) (hc0 : C (i * 2) = .bytes sure) (hc1 : C (i * 2 + 1) = .steps ro) (hro : ro = o.map cv)
    (hok : okS o sure.length) (hnow : crashB o sure = now) (hl : sure.length ≤ 1048576) (ho : o.length ≤ 100000000) :
    Calls Try.prog 36 #[.pointer (some ⟨r, 0, none⟩), .int .i64 i] w fun e w' => ∃ A c, e = .returned (.tuple #[.slice A now.length c, .int .i64 0]) ∧ Kd.R (Kd.int .u8) 5 w' w.heap.size (fun _ => True) (.slice A now.length c) now ∧ Below w.heap.size w w' := by
  have hi0 : (0 : Int) ≤ i := by omega
  have hi4 : (i : Int) < 4 := by omega
  have x9 : w.cell? ⟨r, 9, none⟩ = some (.bool false) := by obtain ⟨S, V, hT, hU, hS⟩ := h; exact hT.down
  have HN := Lib.hid (now_ok base U r i C sure ro o now f false w h hi hc0 hc1 hro hok hnow hl ho)
  clear h hc0 hc1 hro hok hnow
  go_enter Try.func36, Try.ntmps36
  go_wp2_with (first | ((with_reducible go_at_call 10); go_must (refine (is_yes _ _ hi0 hi4).mono ?_; rintro e w' ⟨rfl, rfl⟩)) | ((with_reducible go_at_call 38); go_must (refine HN.out.mono ?_; rintro e w2 ⟨Av, cv_, rfl, hv, hb⟩; have HV := Lib.hid hv; have HBV := Lib.hid hb; clear hv hb)))
  go_ret2
  exact ⟨_, _, rfl, HV.out, HBV.out⟩
theorem rappend_bad (r : Nat) (i : Int) (A : Option Addr) (n c : Nat) (w : World) (hno : ¬ (0 ≤ i ∧ i < 4)) : Calls Try.prog 32 #[.pointer (some ⟨r, 0, none⟩), .int .i64 i, .slice A n c] w fun e w' => e = .returned (.int .i64 1) ∧ w = w' := by
  go_enter Try.func32, Try.ntmps32
  go_wp2_with (first | ((with_reducible go_at_call 10); go_must (refine (is_no _ _ hno).mono ?_; rintro e w' ⟨rfl, rfl⟩)))
  go_ret
  exact ⟨rfl, rfl⟩
theorem rappend_down (r i : Nat) (A : Option Addr) (n c : Nat) (w : World) (hi : i < 4) (x : w.cell? ⟨r, 9, none⟩ = some (.bool true)) : Calls Try.prog 32 #[.pointer (some ⟨r, 0, none⟩), .int .i64 i, .slice A n c] w fun e w' => e = .returned (.int .i64 100) ∧ w = w' := by
  have hi0 : (0 : Int) ≤ i := by omega
  have hi4 : (i : Int) < 4 := by omega
  go_enter Try.func32, Try.ntmps32
  go_wp2_with (first | ((with_reducible go_at_call 10); go_must (refine (is_yes _ _ hi0 hi4).mono ?_; rintro e w' ⟨rfl, rfl⟩)))
  go_ret
  exact ⟨rfl, rfl⟩
theorem rappend_full (base : Nat) (U : Nat → Prop) (r i : Nat) (C : Nat → RCont) (sure : List Int) (ro : List S78) (o : List (Bool × Int)) (now : List Int) (f : Int) (A : Option Addr) (n c : Nat) (w : World) (h : RefU base U w r C f false) (hi : i < 4) (hc0 : C (i * 2) = .bytes sure) (hc1 : C (i * 2 + 1) = .steps ro) (hro : ro = o.map cv)
    (hok : okS o sure.length) (hnow : crashB o sure = now) (hl : sure.length ≤ 1048576) (ho : o.length ≤ 100000000) (hnl : now.length ≤ 1048576) (hn : n ≤ 2000000) (hfull : 1048576 < now.length + n) :
    Calls Try.prog 32 #[.pointer (some ⟨r, 0, none⟩), .int .i64 i, .slice A n c] w fun e w' => e = .returned (.int .i64 90) ∧ Below w.heap.size w w' := by
  have hi0 : (0 : Int) ≤ i := by omega
  have hi4 : (i : Int) < 4 := by omega
  have x9 : w.cell? ⟨r, 9, none⟩ = some (.bool false) := by obtain ⟨S, V, hT, hU, hS⟩ := h; exact hT.down
  have HN := Lib.hid (now_ok base U r i C sure ro o now f false w h hi hc0 hc1 hro hok hnow hl ho)
  have hI : (1048576 : Int) - n < now.length := by omega
  have hnI : (n : Int) ≤ 2000000 := by omega
  clear h hc0 hc1 hro hok hnow hfull
  go_enter Try.func32, Try.ntmps32
  go_wp2_with (first | ((with_reducible go_at_call 10); go_must (refine (is_yes _ _ hi0 hi4).mono ?_; rintro e w' ⟨rfl, rfl⟩)) | ((with_reducible go_at_call 38); go_must (refine HN.out.mono ?_; rintro e w2 ⟨Av, cv_, rfl, hv, hb⟩; have HV := Lib.hid hv; have HBV := Lib.hid hb; clear hv hb)))
  go_ret
  exact ⟨rfl, HBV.out⟩
theorem rcut_bad (r : Nat) (i n : Int) (w : World) (hno : ¬ (0 ≤ i ∧ i < 4)) : Calls Try.prog 33 #[.pointer (some ⟨r, 0, none⟩), .int .i64 i, .int .i64 n] w fun e w' => e = .returned (.int .i64 1) ∧ w = w' := by
  go_enter Try.func33, Try.ntmps33
  go_wp2_with (first | ((with_reducible go_at_call 10); go_must (refine (is_no _ _ hno).mono ?_; rintro e w' ⟨rfl, rfl⟩)))
  go_ret
  exact ⟨rfl, rfl⟩
theorem rcut_neg (r i : Nat) (n : Int) (w : World) (hi : i < 4) (hn : n < 0) : Calls Try.prog 33 #[.pointer (some ⟨r, 0, none⟩), .int .i64 i, .int .i64 n] w fun e w' => e = .returned (.int .i64 1) ∧ w = w' := by
  have hi0 : (0 : Int) ≤ i := by omega
  have hi4 : (i : Int) < 4 := by omega
  go_enter Try.func33, Try.ntmps33
  go_wp2_with (first | ((with_reducible go_at_call 10); go_must (refine (is_yes _ _ hi0 hi4).mono ?_; rintro e w' ⟨rfl, rfl⟩)))
  go_ret
  exact ⟨rfl, rfl⟩
theorem rcut_long (base : Nat) (U : Nat → Prop) (r i : Nat) (C : Nat → RCont) (sure : List Int) (ro : List S78) (o : List (Bool × Int)) (now : List Int) (f : Int) (d : Bool) (n : Int) (w : World) (h : RefU base U w r C f d) (hi : i < 4) (hc0 : C (i * 2) = .bytes sure) (hc1 : C (i * 2 + 1) = .steps ro) (hro : ro = o.map cv)
    (hok : okS o sure.length) (hnow : crashB o sure = now) (hl : sure.length ≤ 1048576) (ho : o.length ≤ 100000000) (hn : now.length < n) :
    Calls Try.prog 33 #[.pointer (some ⟨r, 0, none⟩), .int .i64 i, .int .i64 n] w fun e w' => e = .returned (.int .i64 1) ∧ Below w.heap.size w w' := by
  have hi0 : (0 : Int) ≤ i := by omega
  have hi4 : (i : Int) < 4 := by omega
  have n0 : 0 ≤ n := by omega
  have HN := Lib.hid (now_ok base U r i C sure ro o now f d w h hi hc0 hc1 hro hok hnow hl ho)
  clear h hc0 hc1 hro hok hnow
  go_enter Try.func33, Try.ntmps33
  go_wp2_with (first | ((with_reducible go_at_call 10); go_must (refine (is_yes _ _ hi0 hi4).mono ?_; rintro e w' ⟨rfl, rfl⟩)) | ((with_reducible go_at_call 38); go_must (refine HN.out.mono ?_; rintro e w2 ⟨Av, cv_, rfl, hv, hb⟩; have HV := Lib.hid hv; have HBV := Lib.hid hb; clear hv hb)))
  go_ret
  exact ⟨rfl, HBV.out⟩
theorem rcut_down (base : Nat) (U : Nat → Prop) (r i : Nat) (C : Nat → RCont) (sure : List Int) (ro : List S78) (o : List (Bool × Int)) (now : List Int) (f : Int) (n : Nat) (w : World) (h : RefU base U w r C f true) (hi : i < 4) (hc0 : C (i * 2) = .bytes sure) (hc1 : C (i * 2 + 1) = .steps ro) (hro : ro = o.map cv)
    (hok : okS o sure.length) (hnow : crashB o sure = now) (hl : sure.length ≤ 1048576) (ho : o.length ≤ 100000000) (hn : n ≤ now.length) :
    Calls Try.prog 33 #[.pointer (some ⟨r, 0, none⟩), .int .i64 i, .int .i64 n] w fun e w' => e = .returned (.int .i64 100) ∧ Below w.heap.size w w' := by
  have hi0 : (0 : Int) ≤ i := by omega
  have hi4 : (i : Int) < 4 := by omega
  have hnI : (n : Int) ≤ now.length := by omega
  have x9 : w.cell? ⟨r, 9, none⟩ = some (.bool true) := by obtain ⟨S, V, hT, hU, hS⟩ := h; exact hT.down
  have HN := Lib.hid (now_ok base U r i C sure ro o now f true w h hi hc0 hc1 hro hok hnow hl ho)
  clear h hc0 hc1 hro hok hnow
  go_enter Try.func33, Try.ntmps33
  go_wp2_with (first | ((with_reducible go_at_call 10); go_must (refine (is_yes _ _ hi0 hi4).mono ?_; rintro e w' ⟨rfl, rfl⟩)) | ((with_reducible go_at_call 38); go_must (refine HN.out.mono ?_; rintro e w2 ⟨Av, cv_, rfl, hv, hb⟩; have HV := Lib.hid hv; have HBV := Lib.hid hb; have x9 := cell_b hb x9; clear hv hb)))
  go_ret
  exact ⟨rfl, HBV.out⟩
theorem rsync_bad (r : Nat) (i : Int) (w : World) (hno : ¬ (0 ≤ i ∧ i < 4)) : Calls Try.prog 34 #[.pointer (some ⟨r, 0, none⟩), .int .i64 i] w fun e w' => e = .returned (.int .i64 1) ∧ w = w' := by
  go_enter Try.func34, Try.ntmps34
  go_wp2_with (first | ((with_reducible go_at_call 10); go_must (refine (is_no _ _ hno).mono ?_; rintro e w' ⟨rfl, rfl⟩)))
  go_ret
  exact ⟨rfl, rfl⟩
theorem rsync_down (r i : Nat) (w : World) (hi : i < 4) (x : w.cell? ⟨r, 9, none⟩ = some (.bool true)) : Calls Try.prog 34 #[.pointer (some ⟨r, 0, none⟩), .int .i64 i] w fun e w' => e = .returned (.int .i64 100) ∧ w = w' := by
  have hi0 : (0 : Int) ≤ i := by omega
  have hi4 : (i : Int) < 4 := by omega
  go_enter Try.func34, Try.ntmps34
  go_wp2_with (first | ((with_reducible go_at_call 10); go_must (refine (is_yes _ _ hi0 hi4).mono ?_; rintro e w' ⟨rfl, rfl⟩)))
  go_ret
  exact ⟨rfl, rfl⟩
/-- What Fuse leaves. -/
def RFuseIs (base : Nat) (U : Nat → Prop) (r : Nat) (C : Nat → RCont) (f : Int) (d : Bool) (w : World) (e : Ending) (w' : World) : Prop :=
  e = .returned (.tuple #[]) ∧ RefU base U w' r C f d ∧ Below base w w' ∧ Kept w w' U
theorem rfuse_ok (base : Nat) (U : Nat → Prop) (r : Nat) (C : Nat → RCont) (f : Int) (d : Bool) (n : Int) (w : World) (h : RefU base U w r C f d) (hbw : base ≤ w.heap.size) :
    Calls Try.prog 35 #[.pointer (some ⟨r, 0, none⟩), .int .i64 n] w (RFuseIs base U r C (fuseOf n) d w) := by
  obtain ⟨S, V, hT, hU, hS⟩ := h
  have h0 := hT.fuse
  have f0 := hT.free 8
  have HT := Lib.hid hT
  have HU := Lib.hid hU
  have HS := Lib.hid hS
  clear hT hU hS
  unfold fuseOf
  by_cases q : n < -1
  · rw [if_pos q]
    go_enter Try.func35, Try.ntmps35
    go_wp2
    go_end0
    exact ⟨rfl, ⟨S, V, HT.out.setFuse (-1), HU.out, HS.out⟩, Below.setCell (p := ⟨r, 8, none⟩) (Below.refl _ _) HT.out.2.1 _, (Kept.refl w U).setCell (.inl HU.out) _⟩
  · rw [if_neg q]
    have q' : -1 ≤ n := by omega
    go_enter Try.func35, Try.ntmps35
    go_wp2
    go_end0
    exact ⟨rfl, ⟨S, V, HT.out.setFuse n, HU.out, HS.out⟩, Below.setCell (p := ⟨r, 8, none⟩) (Below.refl _ _) HT.out.2.1 _, (Kept.refl w U).setCell (.inl HU.out) _⟩
end Go.Proofs.Ytbccjamcfodeiaa.RTape2
