/- PROVED: the reference's Crash. No condition beyond what each line says. -/
import Derived.Test.YtbccjamcfodeiaaRTape3
import Derived.Test.YtbccjamcfodeiaaLRead
import Derived.Test.YtbccjamcfodeiaaWApart
import Derived.Test.YtbccjamcfodeiaaWKept
import Derived.WalkKit
import Derived.WalkSpells
import Derived.WalkLawsBesides
import Derived.WalkMore
import Derived.Outline
import Derived.Lib.Hide
import Derived.BigQuiet
import Derived.Deep.QuietTactic
import Derived.Deep.RegionHeld3
import Derived.Deep.RegionLaw
import Derived.Deep.LoopGhost
import Derived.Deep.DeepCutAuto
namespace Go.Proofs.Ytbccjamcfodeiaa.RTape4
open Go.RowKit Go.Proofs.Ytbccjamcfodeiaa.PTapePlays Go.Proofs.YtbccjamcfodeiaaW.PrintWords Go.Proofs.YtbccjamcfodeiaaW.PrintLast Go.Proofs.YtbccjamcfodeiaaW.PrintMore
open Go.Proofs.Ytbccjamcfodeiaa.Tape Go.Proofs.Ytbccjamcfodeiaa.Tape2 Go.Proofs.Ytbccjamcfodeiaa.Tape3 Go.Proofs.Ytbccjamcfodeiaa.Tape4 Go.Proofs.Ytbccjamcfodeiaa.Tape5 Go.Proofs.Ytbccjamcfodeiaa.Tape6 Go.Proofs.Ytbccjamcfodeiaa.Tape7 Go.Proofs.Ytbccjamcfodeiaa.Tape8 Go.Proofs.Ytbccjamcfodeiaa.Tape9
open Go.Proofs.Ytbccjamcfodeiaa.TapeW Go.Proofs.Ytbccjamcfodeiaa.TapeF Go.Proofs.Ytbccjamcfodeiaa.TapeP Go.Proofs.Ytbccjamcfodeiaa.TapeP2 Go.Proofs.Ytbccjamcfodeiaa.RTape
open Go.Proofs.Ytbccjamcfodeiaa.RTape2 Go.Proofs.Ytbccjamcfodeiaa.RTape3
set_option linter.unusedSimpArgs false
set_option linter.unusedVariables false
/-- What a crash leaves in a slot. -/
def rcrashC (sure : Nat → List Int) (o : Nat → List (Bool × Int)) (ks : List Int) : Nat → RCont := fun j => if j % 2 = 1 then .steps [] else .bytes (crashB ((o (j / 2)).take (manyOf ks (j / 2) (o (j / 2)).length)) (sure (j / 2)))
/-- The slots behind so many rounds. -/
def rpart (sure : Nat → List Int) (o : Nat → List (Bool × Int)) (ks : List Int) (i : Nat) : Nat → RCont := fun j => if j / 2 < i then rcrashC sure o ks j else rfresh j
theorem RefU.drewN {base : Nat} {U : Nat → Prop} {w : World} {r : Nat} {C : Nat → RCont} {f : Int} {d : Bool} (h : RefU base U w r C f d) (m : Nat) : RefU base U (w.drewN m) r C f d := RefU.step h (Nat.le_refl _) (fun _ _ _ => rfl)
set_option maxHeartbeats 4000000 in
set_option maxRecDepth 100000 in
theorem rcrash_ok (base : Nat) (U : Nat → Prop) (r : Nat) (C : Nat → RCont) (sure : Nat → List Int) (ro : Nat → List S78) (o : Nat → List (Bool × Int)) (f : Int) (d : Bool) (A : Option Addr) (c : Nat) (ks : List Int) (w : World) (h : RefU base U w r C f d) (hc0 : ∀ i, i < 4 → C (i * 2) = .bytes (sure i)) (hc1 : ∀ i, i < 4 → C (i * 2 + 1) = .steps (ro i)) (hro : ∀ i, i < 4 → ro i = (o i).map cv)
    (hs : ∀ i, i < 4 → (sure i).length ≤ 1048576) (ho : ∀ i, i < 4 → (o i).length ≤ 10000000) (hok : ∀ i, i < 4 → okS (o i) (sure i).length) (hC : Kd.C (Kd.int .i64) w A ks.length ks) (hcap : ks.length ≤ c) (hk : ks.length ≤ 1000000) :
    Calls Try.prog 24 #[.pointer (some ⟨r, 0, none⟩), .slice A ks.length c] w fun e w' => ∃ r2, e = .returned (.pointer (some ⟨r2, 0, none⟩)) ∧ RefU w.heap.size (fun k => w.heap.size ≤ k) w' r2 (rcrashC sure o ks) (-1) false ∧ Below w.heap.size w w' := by
  have HC := Lib.hid hC
  have HT := Lib.hid h
  have HS := Lib.hid hc0
  have HO := Lib.hid hc1
  have HRO := Lib.hid hro
  have HOK := Lib.hid hok
  have HSL := Lib.hid hs
  have HOL := Lib.hid ho
  clear hC h hc0 hc1 hro hok hs ho
  go_enter Try.func24, Try.ntmps24
  go_upto_region 3 with (first | ((with_reducible go_at_call 23); go_must (refine (rnew_ok w.heap.size w (Nat.le_refl _)).mono ?_; rintro e w1 ⟨r2, rfl, hn, hb⟩; have HN : Hid (RefU w.heap.size (fun k => w.heap.size ≤ k) w1 r2 (rpart sure o ks 0) (-1) false) := Lib.hid (RefU.congr hn (fun j _ => by unfold rpart; rw [if_neg (Nat.not_lt_zero _)])); have HB := Lib.hid hb; clear hn hb)))
  go_loopw [6] (fun u6 wr => ∃ (i : Nat), u6 = .int .i64 i ∧ i ≤ 4 ∧ Hid (RefU w.heap.size (fun k => w.heap.size ≤ k) wr r2 (rpart sure o ks i) (-1) false) ∧ Hid (Below w.heap.size w wr)) (fun u6 _ => 4 - (intOf u6).toNat)
  case atStart => exact ⟨0, rfl, by omega, HN, HB⟩
  clear HN HB
  obtain ⟨i, rfl, hi4, HN, HB⟩ := hrel
  by_cases hlt : i < 4
  · have hlt' : (i : Int) < 4 := by omega
    obtain ⟨m, hm⟩ : ∃ m, m = manyOf ks i (o i).length := ⟨_, rfl⟩
    have hml : m ≤ (o i).length := by rw [hm]; unfold manyOf; split <;> omega
    have hol := HOL.out i hlt
    have hsl := HSL.out i hlt
    have hrl : (ro i).length = (o i).length := by rw [HRO.out i hlt, List.length_map]
    have hroI : ((ro i).length : Int) ≤ 10000000 := by omega
    have HM := Lib.hid hm
    obtain ⟨bx, hbx⟩ : ∃ x, crashB ((o i).take m) (sure i) = x := ⟨_, rfl⟩
    have HBX := Lib.hid hbx
    have HROI := Lib.hid (HRO.out i hlt)
    have HOKI := Lib.hid (HOK.out i hlt)
    clear hbx
    by_cases q : i < ks.length
    · have q' : (i : Int) < ks.length := by omega
      have hT := HT.out
      obtain ⟨S, V, hT, _, _⟩ := hT
      have hT := hT.below HB.out
      obtain ⟨A0, c0, e0, hR0⟩ := slot_bytesr hT (j := i * 2) (by omega) (HS.out i hlt)
      obtain ⟨A1, c1, e1, hR1⟩ := slot_stepsr hT (j := i * 2 + 1) (by omega) (HO.out i hlt)
      have x0 := hT.cell (j := i * 2) (by omega)
      have x1 := hT.cell (j := i * 2 + 1) (by omega)
      rw [e0] at x0
      rw [e1] at x1
      have HR0 := Lib.hid (OwnB.reads' hR0)
      have HR1 := Lib.hid (Kd.R_reads' hR1)
      have hrr := hT.lt
      clear hT hR0 hR1 e0 e1
      obtain ⟨b3, off3, rfl, x3⟩ := int_in HC.out (k := i) (x := ks.getD i 0) (by rw [List.getD, List.getElem?_eq_getElem q]; rfl)
      obtain ⟨v, hv⟩ : ∃ v, ks.getD i 0 = v := ⟨_, rfl⟩
      rw [hv] at x3
      have hm' : m = min (max v 0).toNat (o i).length := by rw [hm, ← hv]; unfold manyOf; rw [if_pos q]
      have x3 := cell_b HB.out x3
      obtain ⟨z, hz⟩ : ∃ z, (if ((ro i).length : Int) < v then ((ro i).length : Int) else v) = z := ⟨_, rfl⟩
      have e8 : (if (0 : Int) < z then z else 0) = (m : Int) := by
        rw [hm', ← hz, ← hrl]
        split <;> split <;> omega
      clear hm hm' hv hrl
      go_upto_region 7 with (fail)
      go_quiet (fail)
      refine world_gen (P := fun w5 => RefU w.heap.size (fun k => w.heap.size ≤ k) w5 r2 (rpart sure o ks i) (-1) false ∧ Below w.heap.size w w5) ⟨RefU.drewN HN.out nq, pw_below_drewN HB.out nq⟩ (fun w5 h5 => ?_)
      clear x0 x1 x3 e8 hz HR0 HR1 HN HB hrr
      obtain ⟨p1, p2⟩ := h5
      have HN := Lib.hid p1
      have HB := Lib.hid p2
      clear p1 p2
      have hT := HT.out
      obtain ⟨S, V, hT, _, _⟩ := hT
      have hT := hT.below HB.out
      obtain ⟨A0, c0, e0, hR0⟩ := slot_bytesr hT (j := i * 2) (by omega) (HS.out i hlt)
      obtain ⟨A1, c1, e1, hR1⟩ := slot_stepsr hT (j := i * 2 + 1) (by omega) (HO.out i hlt)
      have x0 := hT.cell (j := i * 2) (by omega)
      have x1 := hT.cell (j := i * 2 + 1) (by omega)
      rw [e0] at x0
      rw [e1] at x1
      have HR0 := Lib.hid (OwnB.reads' hR0)
      have HR1 := Lib.hid (Kd.R_reads' hR1)
      have hrr := hT.lt
      clear hT hR0 hR1 e0 e1
      go_upto_region 8 with (fail)
      obtain ⟨S3, V3, hT3, hU3, hS3⟩ := HN.out
      have hS3' : ∀ j k, S3 j k → w.heap.size ≤ k ∨ w.heap.size ≤ k := fun j k hk => .inl (hS3 j k hk)
      have HTW := Lib.hid hT3
      have HUW := Lib.hid hU3
      have HSW := Lib.hid hS3'
      have hLr := hT3.lt
      clear hT3 hU3 hS3 hS3'
      go_region_law (first | (go_simp; (with_reducible go_at_call 31); have q9 := after_t A0 A1 _ c0 _ c1 (sure i) (ro i) (o i) m (World.drew w5) rfl rfl (Kd.C_below HR0.out.2.2 (below_drew1 (Below.refl _ _))) HR0.out.2.1 (Kd.C_below HR1.out.2.2 (below_drew1 (Below.refl _ _))) HR1.out.2.1 HROI.out hml (by omega) HOKI.out (by omega); rw [HBX.out] at q9; go_must (refine q9.mono ?_; clear q9; rintro e w3 ⟨Av, cv_, rfl, hv, hb⟩; have hb : Below w5.heap.size w5 w3 := ⟨hb.os, hb.tape, hb.output, hb.size, hb.block⟩; have hv : Kd.R (Kd.int .u8) 5 w3 w5.heap.size (fun _ => True) (.slice Av bx.length cv_) bx := hv; have u0 := (HTW.out.below hb).cell (j := i * 2) (by omega); have u1 := (HTW.out.below hb).cell (j := i * 2 + 1) (by omega); have t0 := (HTW.out.below hb).free (i * 2); have t1 := (HTW.out.below hb).free (i * 2 + 1); have HV := Lib.hid hv; have HBV := Lib.hid hb; clear hv hb)))
      all_goals
        have hp := put2 HTW.out hlt HUW.out HSW.out HBV.out HV.out HB.out (Nat.le_refl _) (Kept.of_below HB.out (fun k => w.heap.size ≤ k))
        refine world_gen (P := fun w9 => RefU w.heap.size (fun k => w.heap.size ≤ k) w9 r2 (rpart sure o ks (i + 1)) (-1) false ∧ Below w.heap.size w w9) ⟨RefU.congr (RefU.mono hp.1 (fun k hk => by rcases hk with hk | hk <;> exact hk)) (fun j hj => ?_), hp.2.1⟩ (fun w9 h9 => ?_)
        · have hbe : crashB ((o i).take (manyOf ks i (o i).length)) (sure i) = bx := by rw [← HM.out]; exact HBX.out
          by_cases q1 : j = i * 2 + 1
          · subst q1
            rw [upd_same]
            unfold rpart rcrashC
            rw [if_pos (by omega), if_pos (by omega)]
          by_cases q0 : j = i * 2
          · subst q0
            rw [upd_ne _ _ q1, upd_same]
            unfold rpart rcrashC
            rw [if_pos (by omega), if_neg (by omega), show (i * 2) / 2 = i by omega, hbe]
          · rw [upd_ne _ _ q1, upd_ne _ _ q0]
            unfold rpart
            by_cases q : j / 2 < i
            · rw [if_pos (by omega), if_pos q]
            · rw [if_neg (by omega), if_neg q]
        obtain ⟨p1, p2⟩ := h9
        have HN := Lib.hid p1
        have HB := Lib.hid p2
        clear p1 p2 hp u0 u1 t0 t1
        go_wp2
        exact ⟨⟨i + 1, by go_num, by omega, HN, HB⟩, by simp [intOf]; omega⟩
    · have hm0 : m = 0 := by rw [hm]; unfold manyOf; rw [if_neg q]
      subst hm0
      clear hm hrl
      have q' : (ks.length : Int) ≤ i := by omega
      have hT := HT.out
      obtain ⟨S, V, hT, _, _⟩ := hT
      have hT := hT.below HB.out
      obtain ⟨A0, c0, e0, hR0⟩ := slot_bytesr hT (j := i * 2) (by omega) (HS.out i hlt)
      obtain ⟨A1, c1, e1, hR1⟩ := slot_stepsr hT (j := i * 2 + 1) (by omega) (HO.out i hlt)
      have x0 := hT.cell (j := i * 2) (by omega)
      have x1 := hT.cell (j := i * 2 + 1) (by omega)
      rw [e0] at x0
      rw [e1] at x1
      have HR0 := Lib.hid (OwnB.reads' hR0)
      have HR1 := Lib.hid (Kd.R_reads' hR1)
      have hrr := hT.lt
      clear hT hR0 hR1 e0 e1
      go_upto_region 8 with (fail)
      obtain ⟨S3, V3, hT3, hU3, hS3⟩ := HN.out
      have hS3' : ∀ j k, S3 j k → w.heap.size ≤ k ∨ w.heap.size ≤ k := fun j k hk => .inl (hS3 j k hk)
      have HTW := Lib.hid hT3
      have HUW := Lib.hid hU3
      have HSW := Lib.hid hS3'
      have hLr := hT3.lt
      clear hT3 hU3 hS3 hS3'
      go_region_law (first | (go_simp; (with_reducible go_at_call 31); have q9 := after_t A0 A1 _ c0 _ c1 (sure i) (ro i) (o i) 0 (World.drew wr) rfl rfl (Kd.C_below HR0.out.2.2 (below_drew1 (Below.refl _ _))) HR0.out.2.1 (Kd.C_below HR1.out.2.2 (below_drew1 (Below.refl _ _))) HR1.out.2.1 HROI.out hml (by omega) HOKI.out (by omega); rw [HBX.out] at q9; rw [show ((0 : Nat) : Int) = 0 from rfl] at q9; go_must (refine q9.mono ?_; clear q9; rintro e w3 ⟨Av, cv_, rfl, hv, hb⟩; have hb : Below wr.heap.size wr w3 := ⟨hb.os, hb.tape, hb.output, hb.size, hb.block⟩; have hv : Kd.R (Kd.int .u8) 5 w3 wr.heap.size (fun _ => True) (.slice Av bx.length cv_) bx := hv; have u0 := (HTW.out.below hb).cell (j := i * 2) (by omega); have u1 := (HTW.out.below hb).cell (j := i * 2 + 1) (by omega); have t0 := (HTW.out.below hb).free (i * 2); have t1 := (HTW.out.below hb).free (i * 2 + 1); have HV := Lib.hid hv; have HBV := Lib.hid hb; clear hv hb)))
      all_goals
        have hp := put2 HTW.out hlt HUW.out HSW.out HBV.out HV.out HB.out (Nat.le_refl _) (Kept.of_below HB.out (fun k => w.heap.size ≤ k))
        refine world_gen (P := fun w9 => RefU w.heap.size (fun k => w.heap.size ≤ k) w9 r2 (rpart sure o ks (i + 1)) (-1) false ∧ Below w.heap.size w w9) ⟨RefU.congr (RefU.mono hp.1 (fun k hk => by rcases hk with hk | hk <;> exact hk)) (fun j hj => ?_), hp.2.1⟩ (fun w9 h9 => ?_)
        · have hbe : crashB ((o i).take (manyOf ks i (o i).length)) (sure i) = bx := by rw [← HM.out]; exact HBX.out
          by_cases q1 : j = i * 2 + 1
          · subst q1
            rw [upd_same]
            unfold rpart rcrashC
            rw [if_pos (by omega), if_pos (by omega)]
          by_cases q0 : j = i * 2
          · subst q0
            rw [upd_ne _ _ q1, upd_same]
            unfold rpart rcrashC
            rw [if_pos (by omega), if_neg (by omega), show (i * 2) / 2 = i by omega, hbe]
          · rw [upd_ne _ _ q1, upd_ne _ _ q0]
            unfold rpart
            by_cases q : j / 2 < i
            · rw [if_pos (by omega), if_pos q]
            · rw [if_neg (by omega), if_neg q]
        obtain ⟨p1, p2⟩ := h9
        have HN := Lib.hid p1
        have HB := Lib.hid p2
        clear p1 p2 hp u0 u1 t0 t1
        go_wp2
        exact ⟨⟨i + 1, by go_num, by omega, HN, HB⟩, by simp [intOf]; omega⟩
  · have hlt' : (4 : Int) ≤ i := by omega
    have hi : i = 4 := by omega
    go_wp2
    go_ret
    refine ⟨r2, rfl, RefU.congr HN.out (fun j hj => ?_), HB.out⟩
    unfold rpart
    rw [if_pos (by omega)]
end Go.Proofs.Ytbccjamcfodeiaa.RTape4
