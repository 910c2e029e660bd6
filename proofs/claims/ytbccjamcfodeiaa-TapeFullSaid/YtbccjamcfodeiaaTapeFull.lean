/- PROVED: the law TapeFull: the walk. No condition. -/
import Derived.Test.YtbccjamcfodeiaaTapeF
import Derived.Test.YtbccjamcfodeiaaLRead
import Derived.Test.YtbccjamcfodeiaaWApart
import Derived.Test.YtbccjamcfodeiaaWKept
import Derived.WalkKit
import Derived.WalkSpells
import Derived.WalkLawsBesides
import Derived.WalkMore
import Derived.Outline
import Derived.Lib.Hide
import Derived.BigQuiet
import Derived.Deep.QuietTactic
import Derived.Deep.RegionHeld3
import Derived.Deep.RegionLaw
import Derived.Deep.LoopGhost
import Derived.Deep.DeepCutAuto
namespace Go.Proofs.Ytbccjamcfodeiaa.TapeFull
open Go.RowKit Go.Proofs.Ytbccjamcfodeiaa.PTapePlays Go.Proofs.YtbccjamcfodeiaaW.PrintWords Go.Proofs.YtbccjamcfodeiaaW.PrintLast Go.Proofs.YtbccjamcfodeiaaW.PrintMore
open Go.Proofs.Ytbccjamcfodeiaa.Tape Go.Proofs.Ytbccjamcfodeiaa.Tape2 Go.Proofs.Ytbccjamcfodeiaa.Tape3 Go.Proofs.Ytbccjamcfodeiaa.Tape4 Go.Proofs.Ytbccjamcfodeiaa.Tape5 Go.Proofs.Ytbccjamcfodeiaa.Tape6 Go.Proofs.Ytbccjamcfodeiaa.Tape7 Go.Proofs.Ytbccjamcfodeiaa.Tape8 Go.Proofs.Ytbccjamcfodeiaa.Tape9
open Go.Proofs.Ytbccjamcfodeiaa.TapeW
open Go.Proofs.Ytbccjamcfodeiaa.TapeF
set_option linter.unusedSimpArgs false
set_option linter.unusedVariables false
set_option maxHeartbeats 4000000 in
set_option maxRecDepth 100000 in
theorem full_walk (file less more : Int) (w : World) : Calls Try.prog 3 #[.int .i64 file, .int .i64 less, .int .i64 more] w fun e w' => e = .returned (.bool true) ∧ Below w.heap.size w w' := by
  have HB := Lib.hid (Below.refl w.heap.size w)
  by_cases hno : ¬ (0 ≤ file ∧ file < 4)
  · go_enter Try.func3, Try.ntmps3
    go_wp2_with (first | ((with_reducible go_at_call 10); go_must (refine (is_no _ _ hno).mono ?_; rintro e w' ⟨rfl, rfl⟩)) | ((with_reducible go_at_call 11); go_must (refine (awake_ok _).mono ?_; rintro e w1 ⟨rfl, hb⟩; have hb_ := below_step HB.out hb; clear HB; have HB := Lib.hid hb_; clear hb_ hb)))
    go_ret
    exact ⟨rfl, HB.out⟩
  have hi0 : 0 ≤ file := by omega
  have hi4 : file < 4 := by omega
  clear hno
  by_cases c1 : less < 0
  · go_enter Try.func3, Try.ntmps3
    go_wp2_with (first | ((with_reducible go_at_call 10); go_must (refine (is_yes _ _ hi0 hi4).mono ?_; rintro e w' ⟨rfl, rfl⟩)) | ((with_reducible go_at_call 11); go_must (refine (awake_ok _).mono ?_; rintro e w1 ⟨rfl, hb⟩; have hb_ := below_step HB.out hb; clear HB; have HB := Lib.hid hb_; clear hb_ hb)))
    go_ret
    exact ⟨rfl, HB.out⟩
  by_cases c2 : 4 < less
  · go_enter Try.func3, Try.ntmps3
    go_wp2_with (first | ((with_reducible go_at_call 10); go_must (refine (is_yes _ _ hi0 hi4).mono ?_; rintro e w' ⟨rfl, rfl⟩)) | ((with_reducible go_at_call 11); go_must (refine (awake_ok _).mono ?_; rintro e w1 ⟨rfl, hb⟩; have hb_ := below_step HB.out hb; clear HB; have HB := Lib.hid hb_; clear hb_ hb)))
    go_ret
    exact ⟨rfl, HB.out⟩
  by_cases c3 : more < 0
  · go_enter Try.func3, Try.ntmps3
    go_wp2_with (first | ((with_reducible go_at_call 10); go_must (refine (is_yes _ _ hi0 hi4).mono ?_; rintro e w' ⟨rfl, rfl⟩)) | ((with_reducible go_at_call 11); go_must (refine (awake_ok _).mono ?_; rintro e w1 ⟨rfl, hb⟩; have hb_ := below_step HB.out hb; clear HB; have HB := Lib.hid hb_; clear hb_ hb)))
    go_ret
    exact ⟨rfl, HB.out⟩
  by_cases c4 : 8 < more
  · go_enter Try.func3, Try.ntmps3
    go_wp2_with (first | ((with_reducible go_at_call 10); go_must (refine (is_yes _ _ hi0 hi4).mono ?_; rintro e w' ⟨rfl, rfl⟩)) | ((with_reducible go_at_call 11); go_must (refine (awake_ok _).mono ?_; rintro e w1 ⟨rfl, hb⟩; have hb_ := below_step HB.out hb; clear HB; have HB := Lib.hid hb_; clear hb_ hb)))
    go_ret
    exact ⟨rfl, HB.out⟩
  obtain ⟨i, rfl⟩ := Int.eq_ofNat_of_zero_le hi0
  obtain ⟨l, rfl⟩ := Int.eq_ofNat_of_zero_le (show 0 ≤ less by omega)
  obtain ⟨m, rfl⟩ := Int.eq_ofNat_of_zero_le (show 0 ≤ more by omega)
  have hi : i < 4 := by omega
  have hl4 : (l : Int) ≤ 4 := by omega
  have hm8 : (m : Int) ≤ 8 := by omega
  have l0 : (0 : Int) ≤ l := by omega
  have m0 : (0 : Int) ≤ m := by omega
  clear c1 c2 c3 c4
  have HY0 := Lib.hid (Apt.none_ w.heap.size w)
  obtain ⟨zs, Hzs, hzl⟩ : ∃ zs : List Int, Hid (zs = List.replicate (1048576 - (l : Int)).toNat 0) ∧ Hid (zs.length = 1048576 - l) := ⟨_, Lib.hid rfl, Lib.hid (by rw [List.length_replicate]; omega)⟩
  obtain ⟨ys, Hys, hyl⟩ : ∃ zs : List Int, Hid (zs = List.replicate (m : Int).toNat 0) ∧ Hid (zs.length = m) := ⟨_, Lib.hid rfl, Lib.hid (by rw [List.length_replicate]; omega)⟩
  have hzb : ∀ x ∈ zs, 0 ≤ x ∧ x < 256 := by rw [Hzs.out]; exact zeros_by _
  have hyb : ∀ x ∈ ys, 0 ≤ x ∧ x < 256 := by rw [Hys.out]; exact zeros_by _
  obtain ⟨s1, hs1⟩ : ∃ s, s = put_ newS i (newS.now i ++ zs, newS.opn i ++ zs.map (fun c => (false, c)), -1, false) := ⟨_, rfl⟩
  have hx1 : Hid (appS newS i zs = (0, s1)) := Lib.hid (by rw [hs1]; exact appS_free rfl rfl hi (by show 0 + zs.length ≤ _; have := hzl.out; omega))
  have hf1 : Hid (Fine (0 + zs.length) s1) := Lib.hid (by have h := appS_good newS_good (i : Int) zs hzb; rw [hx1.out] at h; exact h)
  have hn1 : s1.now i = zs := by rw [hs1]; show upd _ i _ i = zs; rw [upd_same]; rfl
  have hd1 : s1.d = false := by rw [hs1]; rfl
  have hff1 : s1.f = -1 := by rw [hs1]; rfl
  clear hs1
  have hzm : zs.length ≤ 1048576 := by have := hzl.out; omega
  have hym : ys.length ≤ 8 := by have := hyl.out; omega
  by_cases q : l < m
  · have qI : (l : Int) < m := by omega
    have hx2 : Hid (appS s1 i ys = (90, s1)) := Lib.hid (appS_full hd1 hi (by rw [hn1]; have := hzl.out; have := hyl.out; omega))
    have hx3 : Hid (readS s1 i = (zs, 0)) := Lib.hid (by rw [readS_ok hd1 hi, hn1])
    have he : ((zs.length : Int) == 1048576 - (l : Int)) = true := by have := hzl.out; simp; omega
    have Hzb := Lib.hid hzb
    have Hyb := Lib.hid hyb
    clear hn1 hd1 hff1 hzb hyb q
    go_enter Try.func3, Try.ntmps3
    go_wp2_with (first | ((with_reducible go_at_call 10); go_must (refine (is_yes _ _ hi0 hi4).mono ?_; rintro e w' ⟨rfl, rfl⟩)) | ((with_reducible go_at_call 12); (have q_ := HY0; clear q_); go_must (refine (new_y w.heap.size _ _ HY0.out HB.out.size).mono ?_; rintro e w1 ⟨r, rfl, hy, hb⟩; have HY1 : Hid (Apt w.heap.size w1 ([] ++ [tape r newS])) := Lib.hid hy; clear HY0 hy; have hb_ := below_step HB.out hb; clear HB; have HB := Lib.hid hb_; clear hb_ hb)) | ((with_reducible refine gate_dst (N := 37) rfl ?_); (have q_ := HY1; clear q_); refine Kd.R_make (Kd.int .u8) _ 5 rfl (N := 37) rfl 28 _ _ rfl (1048576 - (l : Int)) rfl rfl Try.underlying28 (.int .u8 0) 1 info5 rfl (by decide) (by omega) 0 (ok := fun _ => True) (okp := fun _ => True) rfl (fun _ hk => hk) trivial (by omega) (by omega) (Below.refl _ _) (Nat.le_refl _) ?_; intro vL wL hl hb hg_ hn_; rw [← Hzs.out] at hl; clear hg_ hn_; obtain ⟨A1, cA1, rfl⟩ := Kd.R_slice hl; have HY2 : Hid (Apt w.heap.size wL ([tape r newS] ++ [row (.slice A1 zs.length cA1) zs])) := Lib.hid (Apt.add HY1.out hb (Kd.R_lower (Kd.R_mono (Kd.R_bound hl) (fun k hk => hk.2.1)) HB.out.size)); clear HY1 hl; have hb_ := below_step HB.out hb; clear HB; have HB := Lib.hid hb_; clear hb_ hb) | ((with_reducible go_at_call 13); (have q_ := HY2; clear q_); go_must (refine (app_z w.heap.size ([tape r newS] ++ [row (.slice A1 zs.length cA1) zs]) [tape r s1] 0 1 1 r _ _ newS s1 i 0 A1 cA1 zs _ HY2.out rfl rfl (by decide) rfl newS_good (by omega) (by omega) Hzb.out HB.out.size hx1.out rfl).mono ?_; rintro e w1 ⟨rfl, hy, hb⟩; have HY3 : Hid (Apt w.heap.size w1 ([tape r s1])) := Lib.hid hy; clear HY2 hy; have hb_ := HB.out.trans hb; clear HB; have HB := Lib.hid hb_; clear hb_ hb)) | ((with_reducible refine gate_dst (N := 42) rfl ?_); (have q_ := HY3; clear q_); refine Kd.R_make (Kd.int .u8) _ 5 rfl (N := 42) rfl 28 _ _ rfl ((m : Int)) rfl rfl Try.underlying28 (.int .u8 0) 1 info5 rfl (by decide) (by omega) 0 (ok := fun _ => True) (okp := fun _ => True) rfl (fun _ hk => hk) trivial (by omega) (by omega) (Below.refl _ _) (Nat.le_refl _) ?_; intro vL wL hl hb hg_ hn_; rw [← Hys.out] at hl; clear hg_ hn_; obtain ⟨A2, cA2, rfl⟩ := Kd.R_slice hl; have HY4 : Hid (Apt w.heap.size wL ([tape r s1] ++ [row (.slice A2 ys.length cA2) ys])) := Lib.hid (Apt.add HY3.out hb (Kd.R_lower (Kd.R_mono (Kd.R_bound hl) (fun k hk => hk.2.1)) HB.out.size)); clear HY3 hl; have hb_ := below_step HB.out hb; clear HB; have HB := Lib.hid hb_; clear hb_ hb) | ((with_reducible go_at_call 13); (have q_ := HY4; clear q_); go_must (refine (app_z w.heap.size ([tape r s1] ++ [row (.slice A2 ys.length cA2) ys]) [tape r s1] 0 1 1 r _ _ s1 s1 i 90 A2 cA2 ys _ HY4.out rfl rfl (by decide) rfl hf1.out (by omega) (by omega) Hyb.out HB.out.size hx2.out rfl).mono ?_; rintro e w1 ⟨rfl, hy, hb⟩; have HY5 : Hid (Apt w.heap.size w1 ([tape r s1])) := Lib.hid hy; clear HY4 hy; have hb_ := HB.out.trans hb; clear HB; have HB := Lib.hid hb_; clear hb_ hb)) | ((with_reducible go_at_call 14); (have q_ := HY5; clear q_); go_must (refine (read_z w.heap.size [tape r s1] 0 r _ s1 i 0 zs _ HY5.out rfl hf1.out HB.out.size hx3.out).mono ?_; rintro e w1 ⟨A3, c3, rfl, hy, hb⟩; clear HY5 hy; have hb_ := below_step HB.out hb; clear HB; have HB := Lib.hid hb_; clear hb_ hb)) | ((with_reducible go_at_call 11); go_must (refine (awake_ok _).mono ?_; rintro e w1 ⟨rfl, hb⟩; have hb_ := below_step HB.out hb; clear HB; have HB := Lib.hid hb_; clear hb_ hb)))
    go_ret
    exact ⟨rfl, HB.out⟩
  · have qI : (m : Int) ≤ l := by omega
    obtain ⟨s2, hs2⟩ : ∃ s, s = put_ s1 i (s1.now i ++ ys, s1.opn i ++ ys.map (fun c => (false, c)), -1, false) := ⟨_, rfl⟩
    obtain ⟨bs, hbs⟩ : ∃ b, b = zs ++ ys := ⟨_, rfl⟩
    have hx2 : Hid (appS s1 i ys = (0, s2)) := Lib.hid (by rw [hs2]; exact appS_free hff1 hd1 hi (by rw [hn1]; have := hzl.out; have := hyl.out; omega))
    have hf2 : Hid (Fine (0 + zs.length + ys.length) s2) := Lib.hid (by have h := appS_good hf1.out (i : Int) ys hyb; rw [hx2.out] at h; exact h)
    have hx3 : Hid (readS s2 i = (bs, 0)) := Lib.hid (by rw [readS_ok (by rw [hs2]; rfl) hi, hs2, hbs]; show (upd _ i _ i, _) = _; rw [upd_same, hn1])
    have he : ((bs.length : Int) == 1048576 - (l : Int) + m) = true := by have := hzl.out; have := hyl.out; rw [hbs]; simp; omega
    have Hzb := Lib.hid hzb
    have Hyb := Lib.hid hyb
    clear hn1 hd1 hff1 hzb hyb q hs2 hbs
    go_enter Try.func3, Try.ntmps3
    go_wp2_with (first | ((with_reducible go_at_call 10); go_must (refine (is_yes _ _ hi0 hi4).mono ?_; rintro e w' ⟨rfl, rfl⟩)) | ((with_reducible go_at_call 12); (have q_ := HY0; clear q_); go_must (refine (new_y w.heap.size _ _ HY0.out HB.out.size).mono ?_; rintro e w1 ⟨r, rfl, hy, hb⟩; have HY1 : Hid (Apt w.heap.size w1 ([] ++ [tape r newS])) := Lib.hid hy; clear HY0 hy; have hb_ := below_step HB.out hb; clear HB; have HB := Lib.hid hb_; clear hb_ hb)) | ((with_reducible refine gate_dst (N := 37) rfl ?_); (have q_ := HY1; clear q_); refine Kd.R_make (Kd.int .u8) _ 5 rfl (N := 37) rfl 28 _ _ rfl (1048576 - (l : Int)) rfl rfl Try.underlying28 (.int .u8 0) 1 info5 rfl (by decide) (by omega) 0 (ok := fun _ => True) (okp := fun _ => True) rfl (fun _ hk => hk) trivial (by omega) (by omega) (Below.refl _ _) (Nat.le_refl _) ?_; intro vL wL hl hb hg_ hn_; rw [← Hzs.out] at hl; clear hg_ hn_; obtain ⟨A1, cA1, rfl⟩ := Kd.R_slice hl; have HY2 : Hid (Apt w.heap.size wL ([tape r newS] ++ [row (.slice A1 zs.length cA1) zs])) := Lib.hid (Apt.add HY1.out hb (Kd.R_lower (Kd.R_mono (Kd.R_bound hl) (fun k hk => hk.2.1)) HB.out.size)); clear HY1 hl; have hb_ := below_step HB.out hb; clear HB; have HB := Lib.hid hb_; clear hb_ hb) | ((with_reducible go_at_call 13); (have q_ := HY2; clear q_); go_must (refine (app_z w.heap.size ([tape r newS] ++ [row (.slice A1 zs.length cA1) zs]) [tape r s1] 0 1 1 r _ _ newS s1 i 0 A1 cA1 zs _ HY2.out rfl rfl (by decide) rfl newS_good (by omega) (by omega) Hzb.out HB.out.size hx1.out rfl).mono ?_; rintro e w1 ⟨rfl, hy, hb⟩; have HY3 : Hid (Apt w.heap.size w1 ([tape r s1])) := Lib.hid hy; clear HY2 hy; have hb_ := HB.out.trans hb; clear HB; have HB := Lib.hid hb_; clear hb_ hb)) | ((with_reducible refine gate_dst (N := 42) rfl ?_); (have q_ := HY3; clear q_); refine Kd.R_make (Kd.int .u8) _ 5 rfl (N := 42) rfl 28 _ _ rfl ((m : Int)) rfl rfl Try.underlying28 (.int .u8 0) 1 info5 rfl (by decide) (by omega) 0 (ok := fun _ => True) (okp := fun _ => True) rfl (fun _ hk => hk) trivial (by omega) (by omega) (Below.refl _ _) (Nat.le_refl _) ?_; intro vL wL hl hb hg_ hn_; rw [← Hys.out] at hl; clear hg_ hn_; obtain ⟨A2, cA2, rfl⟩ := Kd.R_slice hl; have HY4 : Hid (Apt w.heap.size wL ([tape r s1] ++ [row (.slice A2 ys.length cA2) ys])) := Lib.hid (Apt.add HY3.out hb (Kd.R_lower (Kd.R_mono (Kd.R_bound hl) (fun k hk => hk.2.1)) HB.out.size)); clear HY3 hl; have hb_ := below_step HB.out hb; clear HB; have HB := Lib.hid hb_; clear hb_ hb) | ((with_reducible go_at_call 13); (have q_ := HY4; clear q_); go_must (refine (app_z w.heap.size ([tape r s1] ++ [row (.slice A2 ys.length cA2) ys]) [tape r s2] 0 1 1 r _ _ s1 s2 i 0 A2 cA2 ys _ HY4.out rfl rfl (by decide) rfl hf1.out (by omega) (by omega) Hyb.out HB.out.size hx2.out rfl).mono ?_; rintro e w1 ⟨rfl, hy, hb⟩; have HY5 : Hid (Apt w.heap.size w1 ([tape r s2])) := Lib.hid hy; clear HY4 hy; have hb_ := HB.out.trans hb; clear HB; have HB := Lib.hid hb_; clear hb_ hb)) | ((with_reducible go_at_call 14); (have q_ := HY5; clear q_); go_must (refine (read_z w.heap.size [tape r s2] 0 r _ s2 i 0 bs _ HY5.out rfl hf2.out HB.out.size hx3.out).mono ?_; rintro e w1 ⟨A3, c3, rfl, hy, hb⟩; clear HY5 hy; have hb_ := below_step HB.out hb; clear HB; have HB := Lib.hid hb_; clear hb_ hb)) | ((with_reducible go_at_call 11); go_must (refine (awake_ok _).mono ?_; rintro e w1 ⟨rfl, hb⟩; have hb_ := below_step HB.out hb; clear HB; have HB := Lib.hid hb_; clear hb_ hb)))
    go_ret
    exact ⟨rfl, HB.out⟩
end Go.Proofs.Ytbccjamcfodeiaa.TapeFull
