/- PROVED: the law TapeApart: the walk. No condition beyond what the row opens. -/
import Derived.Test.YtbccjamcfodeiaaTapeA
import Derived.Test.YtbccjamcfodeiaaLRead
import Derived.Test.YtbccjamcfodeiaaWApart
import Derived.Test.YtbccjamcfodeiaaWKept
import Derived.WalkKit
import Derived.WalkSpells
import Derived.WalkLawsBesides
import Derived.WalkMore
import Derived.Outline
import Derived.Lib.Hide
import Derived.BigQuiet
import Derived.Deep.QuietTactic
import Derived.Deep.RegionHeld3
import Derived.Deep.RegionLaw
import Derived.Deep.LoopGhost
import Derived.Deep.DeepCutAuto
namespace Go.Proofs.Ytbccjamcfodeiaa.TapeApart
open Go.RowKit Go.Proofs.Ytbccjamcfodeiaa.PTapePlays Go.Proofs.YtbccjamcfodeiaaW.PrintWords Go.Proofs.YtbccjamcfodeiaaW.PrintLast Go.Proofs.YtbccjamcfodeiaaW.PrintMore
open Go.Proofs.Ytbccjamcfodeiaa.Tape Go.Proofs.Ytbccjamcfodeiaa.Tape2 Go.Proofs.Ytbccjamcfodeiaa.Tape3 Go.Proofs.Ytbccjamcfodeiaa.Tape4 Go.Proofs.Ytbccjamcfodeiaa.Tape5 Go.Proofs.Ytbccjamcfodeiaa.Tape6 Go.Proofs.Ytbccjamcfodeiaa.Tape7 Go.Proofs.Ytbccjamcfodeiaa.Tape8 Go.Proofs.Ytbccjamcfodeiaa.Tape9
open Go.Proofs.Ytbccjamcfodeiaa.TapeW Go.Proofs.Ytbccjamcfodeiaa.TapeF Go.Proofs.Ytbccjamcfodeiaa.TapeP Go.Proofs.Ytbccjamcfodeiaa.TapeP2
open Go.Proofs.Ytbccjamcfodeiaa.TapeS
open Go.Proofs.Ytbccjamcfodeiaa.TapeE
open Go.Proofs.Ytbccjamcfodeiaa.TapeA
set_option linter.unusedSimpArgs false
set_option linter.unusedVariables false
theorem held_c {w w2 : World} {bb o : Nat} {u1 u2 u3 : Value} (hb : Below w.heap.size w w2) (h : w.cell? ⟨bb, o + 1, none⟩ = some u1 ∧ w.cell? ⟨bb, o + 2, none⟩ = some u2 ∧ w.cell? ⟨bb, o + 3, none⟩ = some u3) : w2.cell? ⟨bb, o + 1, none⟩ = some u1 ∧ w2.cell? ⟨bb, o + 2, none⟩ = some u2 ∧ w2.cell? ⟨bb, o + 3, none⟩ = some u3 :=
  ⟨cell_b hb h.1, cell_b hb h.2.1, cell_b hb h.2.2⟩
set_option maxHeartbeats 4000000 in
set_option maxRecDepth 100000 in
theorem apart_walk (A : Option Addr) (cap : Nat) (l : List S45) (M : Option Addr) (capm : Nat) (m : List S45) (K : Option Addr) (capk : Nat) (ks : List Int) (w : World) (hC : Kd.C k45 w A l.length l) (hcap : l.length ≤ cap) (hok : ∀ x ∈ l, okC x)
    (hM : Kd.C k45 w M m.length m) (hcapm : m.length ≤ capm) (hokm : ∀ x ∈ m, okC x) (hCK : Kd.C (Kd.int .i64) w K ks.length ks) (hcapk : ks.length ≤ capk) :
    Calls Try.prog 6 #[.slice A l.length cap, .slice M m.length capm, .slice K ks.length capk] w fun e w' => e = .returned (.bool true) ∧ Below w.heap.size w w' := by
  have HB := Lib.hid (Below.refl w.heap.size w)
  have HC := Lib.hid hC
  have HOK := Lib.hid hok
  have HM := Lib.hid hM
  have HOM := Lib.hid hokm
  have HCK := Lib.hid hCK
  obtain ⟨lb, hlb, hsh⟩ := long_f l
  have HLB := Lib.hid hlb
  have HSH := Lib.hid hsh
  obtain ⟨mb, hmb, hsm⟩ := long_f m
  have HMB := Lib.hid hmb
  have HSM := Lib.hid hsm
  have tok1 := True.intro
  clear hC hok hM hokm hCK hlb hsh hmb hsm
  rcases lb with _ | _
  rotate_left
  · go_enter Try.func6, Try.ntmps6
    go_wp2_with (first | ((with_reducible go_at_call 15); (have q_ := tok1; clear q_); go_must (refine (long_t l _ A cap _ HLB.out (Kd.C_below HC.out HB.out) hcap).mono ?_; rintro e w1 ⟨rfl, hb⟩; clear tok1; have tok2 := True.intro; have hb_ := below_step HB.out hb; clear HB; have HB := Lib.hid hb_; clear hb_ hb)) | ((with_reducible go_at_call 15); (have q_ := tok2; clear q_); go_must (refine (long_t m _ M capm _ HMB.out (Kd.C_below HM.out HB.out) hcapm).mono ?_; rintro e w1 ⟨rfl, hb⟩; clear tok2; have hb_ := below_step HB.out hb; clear HB; have HB := Lib.hid hb_; clear hb_ hb)) | ((with_reducible go_at_call 11); go_must (refine (awake_ok _).mono ?_; rintro e w1 ⟨rfl, hb⟩; have hb_ := below_step HB.out hb; clear HB; have HB := Lib.hid hb_; clear hb_ hb)))
    go_ret
    exact ⟨rfl, HB.out⟩
  rcases mb with _ | _
  rotate_left
  · go_enter Try.func6, Try.ntmps6
    go_wp2_with (first | ((with_reducible go_at_call 15); (have q_ := tok1; clear q_); go_must (refine (long_t l _ A cap _ HLB.out (Kd.C_below HC.out HB.out) hcap).mono ?_; rintro e w1 ⟨rfl, hb⟩; clear tok1; have tok2 := True.intro; have hb_ := below_step HB.out hb; clear HB; have HB := Lib.hid hb_; clear hb_ hb)) | ((with_reducible go_at_call 15); (have q_ := tok2; clear q_); go_must (refine (long_t m _ M capm _ HMB.out (Kd.C_below HM.out HB.out) hcapm).mono ?_; rintro e w1 ⟨rfl, hb⟩; clear tok2; have hb_ := below_step HB.out hb; clear HB; have HB := Lib.hid hb_; clear hb_ hb)) | ((with_reducible go_at_call 11); go_must (refine (awake_ok _).mono ?_; rintro e w1 ⟨rfl, hb⟩; have hb_ := below_step HB.out hb; clear HB; have HB := Lib.hid hb_; clear hb_ hb)))
    go_ret
    exact ⟨rfl, HB.out⟩
  by_cases q2 : 10 < ks.length
  · have q2I : (10 : Int) < ks.length := by omega
    go_enter Try.func6, Try.ntmps6
    go_wp2_with (first | ((with_reducible go_at_call 15); (have q_ := tok1; clear q_); go_must (refine (long_t l _ A cap _ HLB.out (Kd.C_below HC.out HB.out) hcap).mono ?_; rintro e w1 ⟨rfl, hb⟩; clear tok1; have tok2 := True.intro; have hb_ := below_step HB.out hb; clear HB; have HB := Lib.hid hb_; clear hb_ hb)) | ((with_reducible go_at_call 15); (have q_ := tok2; clear q_); go_must (refine (long_t m _ M capm _ HMB.out (Kd.C_below HM.out HB.out) hcapm).mono ?_; rintro e w1 ⟨rfl, hb⟩; clear tok2; have hb_ := below_step HB.out hb; clear HB; have HB := Lib.hid hb_; clear hb_ hb)) | ((with_reducible go_at_call 11); go_must (refine (awake_ok _).mono ?_; rintro e w1 ⟨rfl, hb⟩; have hb_ := below_step HB.out hb; clear HB; have HB := Lib.hid hb_; clear hb_ hb)))
    go_ret
    exact ⟨rfl, HB.out⟩
  have q2I : (ks.length : Int) ≤ 10 := by omega
  have hsh := HSH.out rfl
  have hsm := HSM.out rfl
  clear HSH HSM q2
  have HSH := Lib.hid hsh
  have HSM := Lib.hid hsm
  have hl60 := hsh.1
  have hm60 := hsm.1
  clear hsh hsm
  have hE := ever_play l ever_new
  have hF := play_fine l newS_good HOK.out HSH.out.2
  obtain ⟨s, hs0⟩ : ∃ s, playS l newS = s := ⟨_, rfl⟩
  have HS0 := Lib.hid hs0
  rw [hs0] at hE hF
  clear hs0
  have HF := Lib.hid (hF.mono (show 0 + 501 * l.length ≤ 31000 by omega))
  have HFc := Lib.hid (crashS_good HF.out ks)
  have HEV := Lib.hid hE
  clear hE hF
  go_enter Try.func6, Try.ntmps6
  go_upto_region 6 with (first | ((with_reducible go_at_call 15); (have q_ := tok1; clear q_); go_must (refine (long_t l _ A cap _ HLB.out (Kd.C_below HC.out HB.out) hcap).mono ?_; rintro e w1 ⟨rfl, hb⟩; clear tok1; have tok2 := True.intro; have hb_ := below_step HB.out hb; clear HB; have HB := Lib.hid hb_; clear hb_ hb)) | ((with_reducible go_at_call 15); (have q_ := tok2; clear q_); go_must (refine (long_t m _ M capm _ HMB.out (Kd.C_below HM.out HB.out) hcapm).mono ?_; rintro e w1 ⟨rfl, hb⟩; clear tok2; have hb_ := below_step HB.out hb; clear HB; have HB := Lib.hid hb_; clear hb_ hb)) | ((with_reducible go_at_call 16); go_must (refine (played_y A cap l _ (Kd.C_below HC.out HB.out) hcap HOK.out HSH.out).mono ?_; rintro e w1 ⟨r, rfl, hy, hb⟩; rw [HS0.out] at hy; have HY1 := Lib.hid (Apt.lower hy HB.out.size); clear hy; have hb_ := below_step HB.out hb; clear HB; have HB := Lib.hid hb_; clear hb_ hb)) | ((with_reducible refine gate_dst (N := 36) rfl ?_); (have q_ := HY1; clear q_); refine Kd.R_lit (Kd.int .i64) _ 3 ?hg (N := 36) ?hd (xs := ([] : List (Int))) (inner := []) (ok := fun _ => True) (okp := fun _ => True) ?hr ?hp (fun _ hk => hk) trivial (Below.refl _ _) (Nat.le_refl _) (by simp) ?_; (case hd => rfl); (case hg => rfl); (case hr => first | (go_simp; done) | (go_simp; rfl)); (case hp => exact (Reps.none _ _)); intro vL wL hl hb hg_ hn_; clear hg_ hn_; have HL := Lib.hid hl; have HBL := Lib.hid hb; clear hl hb) | ((with_reducible refine gate_builtin (b := .append) (xs := #[.tmp 36, .tmp 37]) rfl ?_); at_builtin; go_must (refine Kd.R_append_rows (Kd.int .i64) (w0 := _) (_) rfl (.tmp 36) (.tmp 37) 34 3 (.int .i64 0) 8 rfl Try.underlying34 info3 rfl (by decide) (by omega) (vL) ([]) (ks) _ _ _ (fun _ => True) (fun _ => False) rfl rfl (HL.out) (Kd.C_below HCK.out (below_step HB.out HBL.out)) (fun x cs h => h) (fun _ h => h.elim) (fun _ _ => trivial) HBL.out HBL.out.size ?aL ?_; (case aL => (simp; omega)); intro vA wA ho hb hg hat; rw [List.nil_append] at ho; obtain ⟨AK, cK, rfl⟩ := Kd.R_slice ho; have HK := Lib.hid (Kd.R_reads' ho); have HY2 : Hid (Apt w.heap.size wA ([tape r s])) := Lib.hid (Apt.below HY1.out hb); clear HY1 HL HBL ho hg hat; have hb_ := below_step HB.out hb; clear HB; have HB := Lib.hid hb_; clear hb_ hb)) | ((with_reducible go_at_call 19); (have q_ := HY2; clear q_); go_must (refine (crash_z w.heap.size ([tape r s]) 0 r _ ks.length s (crashS s ks) AK cK ks _ HY2.out rfl HF.out (by omega) rfl HK.out.2.2 HK.out.2.1 (by omega) HB.out.size rfl).mono ?_; rintro e w1 ⟨r2, rfl, hy, hb⟩; have HY3 : Hid (Apt w.heap.size w1 ([tape r s] ++ [tape r2 (crashS s ks)])) := Lib.hid hy; clear HY2 hy HK; have hb_ := below_step HB.out hb; clear HB; have HB := Lib.hid hb_; clear hb_ hb)))
  go_loopw [7, 8, 9] (fun u7 u8 u9 wr => ∃ (i r r2 : Nat), u9 = .int .i64 i ∧ i ≤ 4 ∧ u7 = .pointer (some ⟨r, 0, none⟩) ∧ u8 = .pointer (some ⟨r2, 0, none⟩) ∧ Hid (Apt w.heap.size wr ([tape r s] ++ [tape r2 (crashS s ks)])) ∧ Hid (Below w.heap.size w wr)) (fun _ _ u9 _ => 4 - (intOf u9).toNat)
  case atStart => exact ⟨0, _, _, rfl, by omega, rfl, rfl, HY3, HB⟩
  clear HY3 HB
  obtain ⟨i, r, r2, rfl, hi4, rfl, rfl, HY3, HB⟩ := hrel
  by_cases hi : i < 4
  · have hiI : (i : Int) < 4 := by omega
    obtain ⟨now, hnow⟩ : ∃ x, s.now i = x := ⟨_, rfl⟩
    have HX1 : Hid (readS s i = (now, 0)) := Lib.hid (by rw [readS_ok HEV.out.2 hi, hnow])
    have hl1 := read_len HF.out hi HX1.out
    obtain ⟨bx, hbx⟩ : ∃ x, (crashS s ks).now i = x := ⟨_, rfl⟩
    have HX2 : Hid (readS (crashS s ks) i = (bx, 0)) := Lib.hid (by rw [readS_ok (ever_crash s ks).2 hi, hbx])
    have hl2 := read_len HFc.out hi HX2.out
    obtain ⟨no, hno⟩ : ∃ x, openS s i = x := ⟨_, rfl⟩
    have HX3 := Lib.hid hno
    have hn0 : 0 ≤ no ∧ no ≤ 31000 := by rw [← hno]; unfold openS; rw [if_neg (fun hq => hq ⟨by omega, by omega⟩)]; have := HF.out.ol i hi; show 0 ≤ ((s.opn i).length : Int) ∧ ((s.opn i).length : Int) ≤ _; omega
    clear hnow hbx hno
    go_upto_region 12 with (first | ((with_reducible go_at_call 14); (have q_ := HY3; clear q_); go_must (refine (read_z w.heap.size ([tape r s] ++ [tape r2 (crashS s ks)]) 0 r _ s i 0 now _ HY3.out rfl HF.out HB.out.size HX1.out).mono ?_; rintro e w1 ⟨A1, c1, rfl, hy, hb⟩; have HY4 : Hid (Apt w.heap.size w1 ([tape r s] ++ [tape r2 (crashS s ks)] ++ [row (.slice A1 now.length c1) now])) := Lib.hid hy; clear HY3 hy; have hb_ := below_step HB.out hb; clear HB; have HB := Lib.hid hb_; clear hb_ hb)) | ((with_reducible go_at_call 14); (have q_ := HY4; clear q_); go_must (refine (read_z w.heap.size ([tape r s] ++ [tape r2 (crashS s ks)] ++ [row (.slice A1 now.length c1) now]) 1 r2 _ (crashS s ks) i 0 bx _ HY4.out rfl HFc.out HB.out.size HX2.out).mono ?_; rintro e w1 ⟨A2, c2, rfl, hy, hb⟩; have HY5 : Hid (Apt w.heap.size w1 ([tape r s] ++ [tape r2 (crashS s ks)] ++ [row (.slice A1 now.length c1) now] ++ [row (.slice A2 bx.length c2) bx])) := Lib.hid hy; clear HY4 hy; have hb_ := below_step HB.out hb; clear HB; have HB := Lib.hid hb_; clear hb_ hb)) | ((with_reducible go_at_call 21); (have q_ := HY5; clear q_); go_must (refine (open_z w.heap.size ([tape r s] ++ [tape r2 (crashS s ks)] ++ [row (.slice A1 now.length c1) now] ++ [row (.slice A2 bx.length c2) bx]) 0 r s i no _ HY5.out rfl HX3.out).mono ?_; rintro e w1 ⟨rfl, rfl⟩; have HY6 := HY5; clear HY5)))
    go_loopw [15] (fun u15 wr => ∃ (j : Nat) (sx : TS), u15 = .int .i64 j ∧ j ≤ m.length ∧ Hid (Apt w.heap.size wr ([tape r s] ++ [tape r2 sx] ++ [row (.slice A1 now.length c1) now] ++ [row (.slice A2 bx.length c2) bx])) ∧ Hid (Below w.heap.size w wr) ∧ Hid (Fine (501 * j) sx)) (fun u15 _ => m.length - (intOf u15).toNat)
    case atStart => exact ⟨0, _, rfl, Nat.zero_le _, HY6, HB, HFc⟩
    clear HY6 HB
    obtain ⟨j, sx, rfl, hj, HY6, HB, HFx⟩ := hrel
    by_cases hj2 : j < m.length
    · have hltJ : (j : Int) < m.length := by omega
      obtain ⟨x, hx⟩ : ∃ x, m[j]? = some x := ⟨_, List.getElem?_eq_getElem hj2⟩
      obtain ⟨bb, off, A3, c3, A4, c4, rfl, e0, e1, e2, e3, e4, hc3, hC3, hc4, hC4⟩ := call_in HM.out hx
      have HE := Lib.hid (show w.cell? ⟨bb, off + j * 5 + 1, none⟩ = some (.int .i64 x.f1) ∧ w.cell? ⟨bb, off + j * 5 + 2, none⟩ = some (.int .i64 x.f2) ∧ w.cell? ⟨bb, off + j * 5 + 3, none⟩ = some (.slice A3 x.f3.length c3) from ⟨e1, e2, e3⟩)
      have HBY := Lib.hid (okC_by (HOM.out x (List.mem_of_getElem? hx)))
      have hx5 := (HSM.out.2 x (List.mem_of_getElem? hx)).1
      have HC3 := Lib.hid hC3
      clear e0 e1 e2 e3 e4 hC3 hC4 hx
      obtain ⟨ka, sa, hx⟩ : ∃ k s2, appS sx x.f1 x.f3 = (k, s2) := ⟨_, _, rfl⟩
      obtain ⟨kb, sb, hx2⟩ : ∃ k s2, cutS sa x.f1 x.f2 = (k, s2) := ⟨_, _, rfl⟩
      have hFa := appS_good HFx.out x.f1 x.f3 HBY.out
      rw [hx] at hFa
      have hFb := cutS_good hFa x.f1 x.f2
      rw [hx2] at hFb
      have HXA := Lib.hid hx
      have HXB := Lib.hid hx2
      have HFa : Hid (Fine (501 * j + 500) sa) := Lib.hid (hFa.mono (by omega))
      have HFb : Hid (Fine (501 * (j + 1)) sb) := Lib.hid (hFb.mono (by omega))
      have hjj : 501 * j ≤ 40000 := by omega
      clear hx hx2 hFa hFb
      go_upto_region 14 with (fail)
      have hy_ := Apt.below HY6.out (below_drew1 (Below.refl _ _))
      have hb_ := below_drew1 HB.out
      clear HY6 HB
      have HY6 := Lib.hid hy_
      have HB := Lib.hid hb_
      clear hy_ hb_
      have HSC := Lib.hid (held_c HB.out HE.out)
      go_region_held3 (fun w2 => w2.cell? ⟨bb, off + j * 5 + 1, none⟩ = some (.int .i64 x.f1) ∧ w2.cell? ⟨bb, off + j * 5 + 2, none⟩ = some (.int .i64 x.f2) ∧ w2.cell? ⟨bb, off + j * 5 + 3, none⟩ = some (.slice A3 x.f3.length c3)) (first | with_reducible exact HSC.out) (first | ((with_reducible go_at_call 18); (have q_ := HY6; clear q_); have q9 := own_z w.heap.size ([tape r s] ++ [tape r2 sx] ++ [row (.slice A1 now.length c1) now] ++ [row (.slice A2 bx.length c2) bx]) A3 c3 x.f3 _ HY6.out (Kd.C_below HC3.out HB.out) hc3 (by omega) HB.out.size; (with_reducible refine q9.mono ?_); clear q9; rintro e w1 ⟨Ao, co, rfl, hy, hb⟩; have HY7 : Hid (Apt w.heap.size w1 ([tape r s] ++ [tape r2 sx] ++ [row (.slice A1 now.length c1) now] ++ [row (.slice A2 bx.length c2) bx] ++ [row (.slice Ao x.f3.length co) x.f3])) := Lib.hid hy; clear HY6 hy; have hb_ := below_step HB.out hb; clear HB; have HB := Lib.hid hb_; clear hb_ hb; clear HSC; have HSC := Lib.hid (held_c HB.out HE.out)) | ((with_reducible go_at_call 13); (have q_ := HY7; clear q_); have q9 := app_z w.heap.size ([tape r s] ++ [tape r2 sx] ++ [row (.slice A1 now.length c1) now] ++ [row (.slice A2 bx.length c2) bx] ++ [row (.slice Ao x.f3.length co) x.f3]) ([tape r s] ++ [tape r2 sa] ++ [row (.slice A1 now.length c1) now] ++ [row (.slice A2 bx.length c2) bx]) 1 4 4 r2 (501 * j) x.f3.length sx sa x.f1 ka Ao co x.f3 _ HY7.out rfl rfl (by decide) rfl HFx.out (by omega) (by omega) HBY.out HB.out.size HXA.out rfl; (with_reducible refine q9.mono ?_); clear q9; rintro e w1 ⟨rfl, hy, hb⟩; have HY8 : Hid (Apt w.heap.size w1 ([tape r s] ++ [tape r2 sa] ++ [row (.slice A1 now.length c1) now] ++ [row (.slice A2 bx.length c2) bx])) := Lib.hid hy; clear HY7 hy; have hb_ := HB.out.trans hb; clear HB; have HB := Lib.hid hb_; clear hb_ hb; clear HSC; have HSC := Lib.hid (held_c HB.out HE.out)))
      all_goals
        go_upto_region 15 with (fail)
        have hy_ := Apt.below HY8.out (below_drew1 (Below.refl _ _))
        have hb_ := below_drew1 HB.out
        clear HY8 HB HSC
        have HY8 := Lib.hid hy_
        have HB := Lib.hid hb_
        clear hy_ hb_
        have HSC := Lib.hid (held_c HB.out HE.out)
        go_region_held3 (fun w2 => w2.cell? ⟨bb, off + j * 5 + 1, none⟩ = some (.int .i64 x.f1) ∧ w2.cell? ⟨bb, off + j * 5 + 2, none⟩ = some (.int .i64 x.f2) ∧ w2.cell? ⟨bb, off + j * 5 + 3, none⟩ = some (.slice A3 x.f3.length c3)) (first | with_reducible exact HSC.out) (first | ((with_reducible go_at_call 22); (have q_ := HY8; clear q_); have q9 := cut_z w.heap.size ([tape r s] ++ [tape r2 sa] ++ [row (.slice A1 now.length c1) now] ++ [row (.slice A2 bx.length c2) bx]) ([tape r s] ++ [tape r2 sb] ++ [row (.slice A1 now.length c1) now] ++ [row (.slice A2 bx.length c2) bx]) 1 4 r2 (501 * j + 500) sa sb x.f1 x.f2 kb _ HY8.out rfl HFa.out (by omega) HB.out.size HXB.out rfl; (with_reducible refine q9.mono ?_); clear q9; rintro e w1 ⟨rfl, hy, hb⟩; have HY9 : Hid (Apt w.heap.size w1 ([tape r s] ++ [tape r2 sb] ++ [row (.slice A1 now.length c1) now] ++ [row (.slice A2 bx.length c2) bx])) := Lib.hid hy; clear HY8 hy; have hb_ := HB.out.trans hb; clear HB; have HB := Lib.hid hb_; clear hb_ hb; clear HSC; have HSC := Lib.hid (held_c HB.out HE.out)))
        all_goals
          go_wp2
          exact ⟨⟨j + 1, sb, by go_num, by omega, HY9, HB, HFb⟩, by simp [intOf]; omega⟩
    · have hltJ : (m.length : Int) ≤ j := by omega
      clear hj2
      go_upto_region 19 with (first | ((with_reducible go_at_call 14); (have q_ := HY6; clear q_); go_must (refine (read_z w.heap.size ([tape r s] ++ [tape r2 sx] ++ [row (.slice A1 now.length c1) now] ++ [row (.slice A2 bx.length c2) bx]) 0 r _ s i 0 now _ HY6.out rfl HF.out HB.out.size HX1.out).mono ?_; rintro e w1 ⟨A5, c5, rfl, hy, hb⟩; have HY7 : Hid (Apt w.heap.size w1 ([tape r s] ++ [tape r2 sx] ++ [row (.slice A1 now.length c1) now] ++ [row (.slice A2 bx.length c2) bx] ++ [row (.slice A5 now.length c5) now])) := Lib.hid hy; clear HY6 hy; have hb_ := below_step HB.out hb; clear HB; have HB := Lib.hid hb_; clear hb_ hb)) | ((with_reducible refine gate_dst (N := 97) rfl ?_); (have q_ := HY7; clear q_); refine Kd.R_lit (Kd.int .i64) _ 3 ?hg (N := 97) ?hd (xs := ([] : List (Int))) (inner := []) (ok := fun _ => True) (okp := fun _ => True) ?hr ?hp (fun _ hk => hk) trivial (Below.refl _ _) (Nat.le_refl _) (by simp) ?_; (case hd => rfl); (case hg => rfl); (case hr => first | (go_simp; done) | (go_simp; rfl)); (case hp => exact (Reps.none _ _)); intro vL wL hl hb hg_ hn_; clear hg_ hn_; have HL := Lib.hid hl; have HBL := Lib.hid hb; clear hl hb) | ((with_reducible refine gate_builtin (b := .append) (xs := #[.tmp 97, .tmp 98]) rfl ?_); at_builtin; go_must (refine Kd.R_append_rows (Kd.int .i64) (w0 := _) (_) rfl (.tmp 97) (.tmp 98) 34 3 (.int .i64 0) 8 rfl Try.underlying34 info3 rfl (by decide) (by omega) (vL) ([]) (ks) _ _ _ (fun _ => True) (fun _ => False) rfl rfl (HL.out) (Kd.C_below HCK.out (below_step HB.out HBL.out)) (fun x cs h => h) (fun _ h => h.elim) (fun _ _ => trivial) HBL.out HBL.out.size ?aL ?_; (case aL => (simp; omega)); intro vA wA ho hb hg hat; rw [List.nil_append] at ho; obtain ⟨AK, cK, rfl⟩ := Kd.R_slice ho; have HK := Lib.hid (Kd.R_reads' ho); have HYa : Hid (Apt w.heap.size wA ([tape r s] ++ [tape r2 sx] ++ [row (.slice A1 now.length c1) now] ++ [row (.slice A2 bx.length c2) bx] ++ [row (.slice A5 now.length c5) now])) := Lib.hid (Apt.below HY7.out hb); clear HY7 HL HBL ho hg hat; have hb_ := below_step HB.out hb; clear HB; have HB := Lib.hid hb_; clear hb_ hb)) | ((with_reducible go_at_call 19); (have q_ := HYa; clear q_); go_must (refine (crash_z w.heap.size ([tape r s] ++ [tape r2 sx] ++ [row (.slice A1 now.length c1) now] ++ [row (.slice A2 bx.length c2) bx] ++ [row (.slice A5 now.length c5) now]) 0 r _ ks.length s (crashS s ks) AK cK ks _ HYa.out rfl HF.out (by omega) rfl HK.out.2.2 HK.out.2.1 (by omega) HB.out.size rfl).mono ?_; rintro e w1 ⟨r3, rfl, hy, hb⟩; have HYb : Hid (Apt w.heap.size w1 ([tape r s] ++ [tape r2 sx] ++ [row (.slice A1 now.length c1) now] ++ [row (.slice A2 bx.length c2) bx] ++ [row (.slice A5 now.length c5) now] ++ [tape r3 (crashS s ks)])) := Lib.hid hy; clear HYa hy HK; have hb_ := below_step HB.out hb; clear HB; have HB := Lib.hid hb_; clear hb_ hb)))
      go_loopw [18] (fun u18 wr => ∃ (j : Nat) (st : TS), u18 = .int .i64 j ∧ j ≤ m.length ∧ Hid (Apt w.heap.size wr ([tape r st] ++ [tape r2 sx] ++ [row (.slice A1 now.length c1) now] ++ [row (.slice A2 bx.length c2) bx] ++ [row (.slice A5 now.length c5) now] ++ [tape r3 (crashS s ks)])) ∧ Hid (Below w.heap.size w wr) ∧ Hid (Fine (31000 + 501 * j) st) ∧ Hid (no ≤ openS st i)) (fun u18 _ => m.length - (intOf u18).toNat)
      case atStart => exact ⟨0, s, rfl, Nat.zero_le _, HYb, HB, HF, Lib.hid (by rw [HX3.out]; exact Int.le_refl _)⟩
      clear HYb HB hltJ hj HFx
      obtain ⟨j, st, rfl, hj, HYb, HB, HFt, HG⟩ := hrel
      by_cases hj2 : j < m.length
      · have hltJ : (j : Int) < m.length := by omega
        obtain ⟨x, hx⟩ : ∃ x, m[j]? = some x := ⟨_, List.getElem?_eq_getElem hj2⟩
        obtain ⟨bb, off, A3, c3, A4, c4, rfl, e0, e1, e2, e3, e4, hc3, hC3, hc4, hC4⟩ := call_in HM.out hx
        have HE := Lib.hid (show w.cell? ⟨bb, off + j * 5 + 1, none⟩ = some (.int .i64 x.f1) ∧ w.cell? ⟨bb, off + j * 5 + 2, none⟩ = some (.int .i64 x.f2) ∧ w.cell? ⟨bb, off + j * 5 + 3, none⟩ = some (.slice A3 x.f3.length c3) from ⟨e1, e2, e3⟩)
        have HBY := Lib.hid (okC_by (HOM.out x (List.mem_of_getElem? hx)))
        have hx5 := (HSM.out.2 x (List.mem_of_getElem? hx)).1
        have HC3 := Lib.hid hC3
        clear e0 e1 e2 e3 e4 hC3 hC4 hx
        obtain ⟨ka, sa, hx⟩ : ∃ k s2, appS st x.f1 x.f3 = (k, s2) := ⟨_, _, rfl⟩
        have hFa := appS_good HFt.out x.f1 x.f3 HBY.out
        have hGa := grows_app st x.f1 x.f3 i
        rw [hx] at hFa hGa
        have HXA := Lib.hid hx
        have HFa : Hid (Fine (31000 + 501 * (j + 1)) sa) := Lib.hid (hFa.mono (by omega))
        have HGa : Hid (no ≤ openS sa i) := Lib.hid (Int.le_trans HG.out hGa)
        have hjj : 501 * j ≤ 40000 := by omega
        clear hx hFa hGa
        go_upto_region 21 with (fail)
        have hy_ := Apt.below HYb.out (below_drew1 (Below.refl _ _))
        have hb_ := below_drew1 HB.out
        clear HYb HB
        have HYb := Lib.hid hy_
        have HB := Lib.hid hb_
        clear hy_ hb_
        have HSC := Lib.hid (held_c HB.out HE.out)
        go_region_held3 (fun w2 => w2.cell? ⟨bb, off + j * 5 + 1, none⟩ = some (.int .i64 x.f1) ∧ w2.cell? ⟨bb, off + j * 5 + 2, none⟩ = some (.int .i64 x.f2) ∧ w2.cell? ⟨bb, off + j * 5 + 3, none⟩ = some (.slice A3 x.f3.length c3)) (first | with_reducible exact HSC.out) (first | ((with_reducible go_at_call 18); (have q_ := HYb; clear q_); have q9 := own_z w.heap.size ([tape r st] ++ [tape r2 sx] ++ [row (.slice A1 now.length c1) now] ++ [row (.slice A2 bx.length c2) bx] ++ [row (.slice A5 now.length c5) now] ++ [tape r3 (crashS s ks)]) A3 c3 x.f3 _ HYb.out (Kd.C_below HC3.out HB.out) hc3 (by omega) HB.out.size; (with_reducible refine q9.mono ?_); clear q9; rintro e w1 ⟨Ao, co, rfl, hy, hb⟩; have HYc : Hid (Apt w.heap.size w1 ([tape r st] ++ [tape r2 sx] ++ [row (.slice A1 now.length c1) now] ++ [row (.slice A2 bx.length c2) bx] ++ [row (.slice A5 now.length c5) now] ++ [tape r3 (crashS s ks)] ++ [row (.slice Ao x.f3.length co) x.f3])) := Lib.hid hy; clear HYb hy; have hb_ := below_step HB.out hb; clear HB; have HB := Lib.hid hb_; clear hb_ hb; clear HSC; have HSC := Lib.hid (held_c HB.out HE.out)) | ((with_reducible go_at_call 13); (have q_ := HYc; clear q_); have q9 := app_z w.heap.size ([tape r st] ++ [tape r2 sx] ++ [row (.slice A1 now.length c1) now] ++ [row (.slice A2 bx.length c2) bx] ++ [row (.slice A5 now.length c5) now] ++ [tape r3 (crashS s ks)] ++ [row (.slice Ao x.f3.length co) x.f3]) ([tape r sa] ++ [tape r2 sx] ++ [row (.slice A1 now.length c1) now] ++ [row (.slice A2 bx.length c2) bx] ++ [row (.slice A5 now.length c5) now] ++ [tape r3 (crashS s ks)]) 0 6 6 r (31000 + 501 * j) x.f3.length st sa x.f1 ka Ao co x.f3 _ HYc.out rfl rfl (by decide) rfl HFt.out (by omega) (by omega) HBY.out HB.out.size HXA.out rfl; (with_reducible refine q9.mono ?_); clear q9; rintro e w1 ⟨rfl, hy, hb⟩; have HYd : Hid (Apt w.heap.size w1 ([tape r sa] ++ [tape r2 sx] ++ [row (.slice A1 now.length c1) now] ++ [row (.slice A2 bx.length c2) bx] ++ [row (.slice A5 now.length c5) now] ++ [tape r3 (crashS s ks)])) := Lib.hid hy; clear HYc hy; have hb_ := HB.out.trans hb; clear HB; have HB := Lib.hid hb_; clear hb_ hb; clear HSC; have HSC := Lib.hid (held_c HB.out HE.out)))
        all_goals
          go_wp2
          exact ⟨⟨j + 1, sa, by go_num, by omega, HYd, HB, HFa, HGa⟩, by simp [intOf]; omega⟩
      · have hltJ : (m.length : Int) ≤ j := by omega
        obtain ⟨k2, hk2⟩ : ∃ x, openS st i = x := ⟨_, rfl⟩
        have HX4 := Lib.hid hk2
        have hge := HG.out
        rw [hk2] at hge
        clear hk2 hj2
        go_wp2_with (first | ((with_reducible go_at_call 14); (have q_ := HYb; clear q_); go_must (refine (read_z w.heap.size ([tape r st] ++ [tape r2 sx] ++ [row (.slice A1 now.length c1) now] ++ [row (.slice A2 bx.length c2) bx] ++ [row (.slice A5 now.length c5) now] ++ [tape r3 (crashS s ks)]) 5 r3 _ (crashS s ks) i 0 bx _ HYb.out rfl HFc.out HB.out.size HX2.out).mono ?_; rintro e w1 ⟨A6, c6, rfl, hy, hb⟩; have HYe : Hid (Apt w.heap.size w1 ([tape r st] ++ [tape r2 sx] ++ [row (.slice A1 now.length c1) now] ++ [row (.slice A2 bx.length c2) bx] ++ [row (.slice A5 now.length c5) now] ++ [tape r3 (crashS s ks)] ++ [row (.slice A6 bx.length c6) bx])) := Lib.hid hy; clear HYb hy; have hb_ := below_step HB.out hb; clear HB; have HB := Lib.hid hb_; clear hb_ hb)) | ((with_reducible go_at_call 20); (have q_ := HYe; clear q_); go_must (refine (same_y A1 A5 now.length now.length c1 c5 now now _ rfl rfl (reads_at HYe.out (i := 2) rfl).2 (reads_at HYe.out (i := 2) rfl).1 (reads_at HYe.out (i := 4) rfl).2 (reads_at HYe.out (i := 4) rfl).1 (by omega)).mono ?_; rintro e w1 ⟨he, hb⟩; rw [decide_eq_true rfl] at he; subst he; have HYf : Hid (Apt w.heap.size w1 ([tape r st] ++ [tape r2 sx] ++ [row (.slice A1 now.length c1) now] ++ [row (.slice A2 bx.length c2) bx] ++ [row (.slice A5 now.length c5) now] ++ [tape r3 (crashS s ks)] ++ [row (.slice A6 bx.length c6) bx])) := Lib.hid (Apt.below HYe.out hb); clear HYe; have hb_ := below_step HB.out hb; clear HB; have HB := Lib.hid hb_; clear hb_ hb)) | ((with_reducible go_at_call 20); (have q_ := HYf; clear q_); go_must (refine (same_y A2 A6 bx.length bx.length c2 c6 bx bx _ rfl rfl (reads_at HYf.out (i := 3) rfl).2 (reads_at HYf.out (i := 3) rfl).1 (reads_at HYf.out (i := 6) rfl).2 (reads_at HYf.out (i := 6) rfl).1 (by omega)).mono ?_; rintro e w1 ⟨he, hb⟩; rw [decide_eq_true rfl] at he; subst he; have HYg : Hid (Apt w.heap.size w1 ([tape r st] ++ [tape r2 sx] ++ [row (.slice A1 now.length c1) now] ++ [row (.slice A2 bx.length c2) bx] ++ [row (.slice A5 now.length c5) now] ++ [tape r3 (crashS s ks)] ++ [row (.slice A6 bx.length c6) bx])) := Lib.hid (Apt.below HYf.out hb); clear HYf; have hb_ := below_step HB.out hb; clear HB; have HB := Lib.hid hb_; clear hb_ hb)) | ((with_reducible go_at_call 21); (have q_ := HYg; clear q_); go_must (refine (open_z w.heap.size ([tape r st] ++ [tape r2 sx] ++ [row (.slice A1 now.length c1) now] ++ [row (.slice A2 bx.length c2) bx] ++ [row (.slice A5 now.length c5) now] ++ [tape r3 (crashS s ks)] ++ [row (.slice A6 bx.length c6) bx]) 0 r st i k2 _ HYg.out rfl HX4.out).mono ?_; rintro e w1 ⟨rfl, rfl⟩; have HYp := HYg; clear HYg)) | ((with_reducible go_at_call 16); (have q_ := HYp; clear q_); clear HYp; go_must (refine (played_y A cap l _ (Kd.C_below HC.out HB.out) hcap HOK.out HSH.out).mono ?_; rintro e w1 ⟨r9, rfl, hy, hb⟩; rw [HS0.out] at hy; have HYh := Lib.hid (Apt.lower hy HB.out.size); clear hy; have hb_ := below_step HB.out hb; clear HB; have HB := Lib.hid hb_; clear hb_ hb)) | ((with_reducible refine gate_dst (N := 162) rfl ?_); (have q_ := HYh; clear q_); refine Kd.R_lit (Kd.int .i64) _ 3 ?hg (N := 162) ?hd (xs := ([] : List (Int))) (inner := []) (ok := fun _ => True) (okp := fun _ => True) ?hr ?hp (fun _ hk => hk) trivial (Below.refl _ _) (Nat.le_refl _) (by simp) ?_; (case hd => rfl); (case hg => rfl); (case hr => first | (go_simp; done) | (go_simp; rfl)); (case hp => exact (Reps.none _ _)); intro vL wL hl hb hg_ hn_; clear hg_ hn_; have HL := Lib.hid hl; have HBL := Lib.hid hb; clear hl hb) | ((with_reducible refine gate_builtin (b := .append) (xs := #[.tmp 162, .tmp 163]) rfl ?_); at_builtin; go_must (refine Kd.R_append_rows (Kd.int .i64) (w0 := _) (_) rfl (.tmp 162) (.tmp 163) 34 3 (.int .i64 0) 8 rfl Try.underlying34 info3 rfl (by decide) (by omega) (vL) ([]) (ks) _ _ _ (fun _ => True) (fun _ => False) rfl rfl (HL.out) (Kd.C_below HCK.out (below_step HB.out HBL.out)) (fun x cs h => h) (fun _ h => h.elim) (fun _ _ => trivial) HBL.out HBL.out.size ?aL ?_; (case aL => (simp; omega)); intro vA wA ho hb hg hat; rw [List.nil_append] at ho; obtain ⟨AK, cK, rfl⟩ := Kd.R_slice ho; have HK := Lib.hid (Kd.R_reads' ho); have HYj : Hid (Apt w.heap.size wA ([tape r9 s])) := Lib.hid (Apt.below HYh.out hb); clear HYh HL HBL ho hg hat; have hb_ := below_step HB.out hb; clear HB; have HB := Lib.hid hb_; clear hb_ hb)) | ((with_reducible go_at_call 19); (have q_ := HYj; clear q_); go_must (refine (crash_z w.heap.size ([tape r9 s]) 0 r9 _ ks.length s (crashS s ks) AK cK ks _ HYj.out rfl HF.out (by omega) rfl HK.out.2.2 HK.out.2.1 (by omega) HB.out.size rfl).mono ?_; rintro e w1 ⟨r8, rfl, hy, hb⟩; have HYk : Hid (Apt w.heap.size w1 ([tape r9 s] ++ [tape r8 (crashS s ks)])) := Lib.hid hy; clear HYj hy HK; have hb_ := below_step HB.out hb; clear HB; have HB := Lib.hid hb_; clear hb_ hb)))
        exact ⟨⟨i + 1, _, _, by go_num, by omega, rfl, rfl, HYk, HB⟩, by simp [intOf]; omega⟩
  · have hiI : (4 : Int) ≤ i := by omega
    go_wp2_with (first | ((with_reducible go_at_call 11); go_must (refine (awake_ok _).mono ?_; rintro e w1 ⟨rfl, hb⟩; have hb_ := below_step HB.out hb; clear HB; have HB := Lib.hid hb_; clear hb_ hb)))
    go_ret
    exact ⟨rfl, HB.out⟩
end Go.Proofs.Ytbccjamcfodeiaa.TapeApart
