/- PROVED: the law NetFull: the walk. No condition. -/
import Derived.Test.YtglhojkchpbnkaaNetAwake
import Derived.WalkKit
import Derived.WalkSpells
import Derived.WalkLawsBesides
import Derived.Outline
import Derived.Lib.Hide
import Derived.Deep.LoopGhost
import Derived.Deep.RegionHeld3
import Derived.Deep.DeepCutAuto
import Derived.Deep.RegionLaw
import Derived.BigQuiet
import Derived.Deep.QuietTactic
namespace Go.Proofs.Ytglhojkchpbnkaa.NetFull
open Go.RowKit Go.Proofs.Ytglhojkchpbnkaa.PNetOwn Go.Proofs.Ytglhojkchpbnkaa.Net Go.Proofs.YtglhojkchpbnkaaW.PrintWords Go.Proofs.YtglhojkchpbnkaaW.PrintLast Go.Proofs.YtglhojkchpbnkaaW.PrintMore
set_option linter.unusedSimpArgs false
set_option linter.unusedVariables false
set_option maxHeartbeats 4000000 in
set_option maxRecDepth 100000 in
theorem full_walk (many long : Int) (w : World) : Calls Try.prog 3 #[.int .i64 many, .int .i64 long] w fun e w' => e = .returned (.bool true) ∧ Below w.heap.size w w' := by
  by_cases c1 : many < 0
  · go_enter Try.func3, Try.ntmps3
    go_wp2_with (first | ((with_reducible go_at_call 8); go_must (refine (NetAwake.awake_ok _).mono ?_; rintro e w' ⟨rfl, hb⟩; have HB := Lib.hid hb; clear hb)))
    go_ret
    exact ⟨rfl, HB.out⟩
  by_cases c2 : 600 < many
  · go_enter Try.func3, Try.ntmps3
    go_wp2_with (first | ((with_reducible go_at_call 8); go_must (refine (NetAwake.awake_ok _).mono ?_; rintro e w' ⟨rfl, hb⟩; have HB := Lib.hid hb; clear hb)))
    go_ret
    exact ⟨rfl, HB.out⟩
  by_cases c3 : long < 0
  · go_enter Try.func3, Try.ntmps3
    go_wp2_with (first | ((with_reducible go_at_call 8); go_must (refine (NetAwake.awake_ok _).mono ?_; rintro e w' ⟨rfl, hb⟩; have HB := Lib.hid hb; clear hb)))
    go_ret
    exact ⟨rfl, HB.out⟩
  by_cases c4 : 3 < long
  · go_enter Try.func3, Try.ntmps3
    go_wp2_with (first | ((with_reducible go_at_call 8); go_must (refine (NetAwake.awake_ok _).mono ?_; rintro e w' ⟨rfl, hb⟩; have HB := Lib.hid hb; clear hb)))
    go_ret
    exact ⟨rfl, HB.out⟩
  obtain ⟨m, rfl⟩ := Int.eq_ofNat_of_zero_le (show 0 ≤ many by omega)
  have c2' : (m : Int) ≤ 600 := by omega
  have c3' : 0 ≤ long := by omega
  have c4' : long ≤ 3 := by omega
  clear c1 c2 c3 c4
  go_enter Try.func3, Try.ntmps3
  go_wp2_with (first | ((with_reducible go_at_call 9); go_must (refine (NetAwake.new_is _).mono ?_; rintro e w1 ⟨r, rfl, hn, hb⟩; have HN := Lib.hid hn; have HB := Lib.hid hb; clear hn hb)))
  go_loopw [6] (fun u6 wr => ∃ (k : Nat) (ao : Option Addr) (cap : Nat) (ms : List S29), u6 = .int .i64 k ∧ k ≤ m ∧ Hid (NetIs w.heap.size wr r (.slice ao ms.length cap) ms) ∧ Hid (Below w.heap.size w wr) ∧ Hid (ms.length = min k 512) ∧ Hid (∀ p ∈ ms, p.f2.length ≤ 65536)) (fun u6 _ => m - (intOf u6).toNat)
  case atStart => exact ⟨0, _, _, _, rfl, Nat.zero_le _, HN, HB, Lib.hid (by simp), Lib.hid (by simp)⟩
  case round =>
    clear HN HB
    obtain ⟨k, ao, cap, ms, rfl, hk, HN, HB, hm, hB⟩ := hrel
    by_cases hlt : k < m
    · have hlt' : (k : Int) < m := by omega
      by_cases h5 : k < 512
      · have h5' : (k : Int) < 512 := by omega
        have hm5 : ms.length < 512 := by have := hm.out; omega
        go_wp2_with (first | ((with_reducible go_at_call 10); go_must (refine (send_ok _ _ _ _ _ _ _ none 0 ([] : List Int) _ HN.out hm5 (Nat.zero_le _) (Kd.C_nil _ _) (Nat.le_refl _)).mono ?_; rintro e w' ⟨rfl, v', hn, hb, hk_⟩; obtain ⟨ao, cp, rfl⟩ := Kd.R_slice hn.2.2; have hb_ := HB.out.trans hb; clear HN HB; have HN := Lib.hid hn; have HB := Lib.hid hb_; clear hn hb_ hb hk_)))
        exact ⟨⟨k + 1, _, _, _, by go_num, by omega, HN, HB, Lib.hid (by have := hm.out; simp; omega), Lib.hid (by intro p hp; rw [List.mem_append, List.mem_singleton] at hp; rcases hp with hp | rfl; exact hB.out p hp; simp)⟩, by simp [intOf]; omega⟩
      · have h5' : (512 : Int) ≤ k := by omega
        have hm6 : 512 ≤ ms.length := by have := hm.out; omega
        go_wp2_with (first | ((with_reducible go_at_call 10); go_must (refine (send_full _ _ _ _ _ _ _ none 0 0 _ HN.out hm6 (Nat.zero_le _)).mono ?_; rintro e w' ⟨rfl, hb⟩; have hb_ := below_step HB.out hb; have hn_ := HN.out.kept hb; clear HB HN; have HB := Lib.hid hb_; have HN := Lib.hid hn_; clear hb_ hn_ hb)))
        exact ⟨⟨k + 1, _, _, _, by go_num, by omega, HN, HB, Lib.hid (by have := hm.out; omega), hB⟩, by simp [intOf]; omega⟩
    · have hlt' : (m : Int) ≤ k := by omega
      by_cases h5 : m < 512
      · have h5' : (m : Int) < 512 := by omega
        have hm5 : ms.length < 512 := by have := hm.out; omega
        obtain ⟨zs, hzs, hzl⟩ : ∃ zs : List Int, Hid (zs = List.replicate (65535 + long).toNat 0) ∧ Hid (zs.length = (65535 + long).toNat) := ⟨_, Lib.hid rfl, Lib.hid (List.length_replicate ..)⟩
        by_cases h6 : long < 2
        · have hzm : zs.length ≤ 65536 := by have := hzl.out; omega
          go_wp2_with (first | ((with_reducible refine gate_dst (N := 42) rfl ?_); refine Kd.R_make (Kd.int .u8) _ 5 rfl (N := 42) rfl 27 _ _ rfl (65535 + long) rfl rfl Try.underlying27 (.int .u8 0) 1 info5 rfl (by decide) (by omega) 0 (ok := fun _ => True) (okp := fun _ => True) rfl (fun _ hk => hk) trivial (by omega) (by omega) (Below.refl _ _) (Nat.le_refl _) ?_; intro vL wL hl hb hg_ hn_; rw [← hzs.out] at hl; have hb_ := below_step HB.out hb; have hn_ := HN.out.kept hb; clear HB HN; have HB := Lib.hid hb_; have HN := Lib.hid hn_; clear hb_ hn_; obtain ⟨A4, c4, rfl⟩ := Kd.R_slice hl; have HLC := Lib.hid (Kd.R_reads' hl); clear hl hb hg_) | ((with_reducible go_at_call 10); go_must (refine (send_ok _ _ _ _ _ _ _ _ _ zs _ HN.out hm5 hzm HLC.out.2.2 HLC.out.2.1).mono ?_; rintro e w' ⟨rfl, v', hn, hb, hk_⟩; obtain ⟨ao, cp, rfl⟩ := Kd.R_slice hn.2.2; have hb_ := HB.out.trans hb; clear HN HB; have HN := Lib.hid hn; have HB := Lib.hid hb_; clear hn hb_ hb hk_)) | ((with_reducible go_at_call 8); go_must (refine (NetAwake.awake_ok _).mono ?_; rintro e w' ⟨rfl, hb⟩; have hb_ := below_step HB.out hb; clear HB; have HB := Lib.hid hb_; clear hb_ hb)))
          go_ret
          exact ⟨rfl, HB.out⟩
        · have h6' : 2 ≤ long := by omega
          have hzm : 65536 < zs.length := by have := hzl.out; omega
          go_wp2_with (first | ((with_reducible refine gate_dst (N := 42) rfl ?_); refine Kd.R_make (Kd.int .u8) _ 5 rfl (N := 42) rfl 27 _ _ rfl (65535 + long) rfl rfl Try.underlying27 (.int .u8 0) 1 info5 rfl (by decide) (by omega) 0 (ok := fun _ => True) (okp := fun _ => True) rfl (fun _ hk => hk) trivial (by omega) (by omega) (Below.refl _ _) (Nat.le_refl _) ?_; intro vL wL hl hb hg_ hn_; rw [← hzs.out] at hl; have hb_ := below_step HB.out hb; have hn_ := HN.out.kept hb; clear HB HN; have HB := Lib.hid hb_; have HN := Lib.hid hn_; clear hb_ hn_; obtain ⟨A4, c4, rfl⟩ := Kd.R_slice hl; have HLC := Lib.hid (Kd.R_reads' hl); clear hl hb hg_) | ((with_reducible go_at_call 10); go_must (refine (send_long _ _ _ _ _ _ _ hzm).mono ?_; rintro e w' ⟨rfl, hb⟩; have hb_ := below_step HB.out hb; have hn_ := HN.out.kept hb; clear HB HN; have HB := Lib.hid hb_; have HN := Lib.hid hn_; clear hb_ hn_ hb)) | ((with_reducible go_at_call 8); go_must (refine (NetAwake.awake_ok _).mono ?_; rintro e w' ⟨rfl, hb⟩; have hb_ := below_step HB.out hb; clear HB; have HB := Lib.hid hb_; clear hb_ hb)))
          go_ret
          exact ⟨by show Ending.returned (.bool (!decide (long < 2))) = _; simp [h6], HB.out⟩
      · have h5' : (512 : Int) ≤ m := by omega
        have hm6 : 512 ≤ ms.length := by have := hm.out; omega
        have hm7 : (ms.length : Int) = 512 := by have := hm.out; omega
        obtain ⟨p, hp0⟩ : ∃ p, ms[0]? = some p := ⟨_, List.getElem?_eq_getElem (by omega)⟩
        have hpl := hB.out p (List.mem_of_getElem? hp0)
        go_wp2_with (first | ((with_reducible go_at_call 11); go_must (refine (len_is _ _ _ _ _ HN.out.cell).mono ?_; rintro e w' ⟨rfl, rfl⟩)) | ((with_reducible go_at_call 12); go_must (refine (twice_full _ _ 0 _ _ _ _ _ HN.out hp0 hpl hm6).mono ?_; rintro e w' ⟨rfl, hb⟩; have hb_ := below_step HB.out hb; have hn_ := HN.out.kept hb; clear HB HN; have HB := Lib.hid hb_; have HN := Lib.hid hn_; clear hb_ hn_ hb)) | ((with_reducible go_at_call 8); go_must (refine (NetAwake.awake_ok _).mono ?_; rintro e w' ⟨rfl, hb⟩; have hb_ := below_step HB.out hb; clear HB; have HB := Lib.hid hb_; clear hb_ hb)))
        go_ret
        exact ⟨rfl, HB.out⟩
end Go.Proofs.Ytglhojkchpbnkaa.NetFull
