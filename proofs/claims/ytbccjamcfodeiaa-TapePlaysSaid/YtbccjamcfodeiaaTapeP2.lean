/- PROVED: played: a tape behind calls. No condition beyond what each line says. -/
import Derived.Test.YtbccjamcfodeiaaTapeP
import Derived.Test.YtbccjamcfodeiaaLRead
import Derived.Test.YtbccjamcfodeiaaWApart
import Derived.Test.YtbccjamcfodeiaaWKept
import Derived.WalkKit
import Derived.WalkSpells
import Derived.WalkLawsBesides
import Derived.WalkMore
import Derived.Outline
import Derived.Lib.Hide
import Derived.BigQuiet
import Derived.Deep.QuietTactic
import Derived.Deep.RegionHeld3
import Derived.Deep.RegionLaw
import Derived.Deep.LoopGhost
import Derived.Deep.DeepCutAuto
namespace Go.Proofs.Ytbccjamcfodeiaa.TapeP2
open Go.RowKit Go.Proofs.Ytbccjamcfodeiaa.PTapePlays Go.Proofs.YtbccjamcfodeiaaW.PrintWords Go.Proofs.YtbccjamcfodeiaaW.PrintLast Go.Proofs.YtbccjamcfodeiaaW.PrintMore
open Go.Proofs.Ytbccjamcfodeiaa.Tape Go.Proofs.Ytbccjamcfodeiaa.Tape2 Go.Proofs.Ytbccjamcfodeiaa.Tape3 Go.Proofs.Ytbccjamcfodeiaa.Tape4 Go.Proofs.Ytbccjamcfodeiaa.Tape5 Go.Proofs.Ytbccjamcfodeiaa.Tape6 Go.Proofs.Ytbccjamcfodeiaa.Tape7 Go.Proofs.Ytbccjamcfodeiaa.Tape8 Go.Proofs.Ytbccjamcfodeiaa.Tape9
open Go.Proofs.Ytbccjamcfodeiaa.TapeW Go.Proofs.Ytbccjamcfodeiaa.TapeF
open Go.Proofs.Ytbccjamcfodeiaa.TapeP
set_option linter.unusedSimpArgs false
set_option linter.unusedVariables false
theorem held {base : Nat} {ts : List Thing} {w : World} {g : Nat} {a b c d : Value} {e : Value} (h : Apt base w ts) (hi : ts[1]? = some (blk g #[a, b, c, d, e] 45) := by rfl) : w.cell? ⟨g, 1, none⟩ = some b ∧ w.cell? ⟨g, 3, none⟩ = some d :=
  ⟨(blk_cell (blk_at h hi) 1).trans rfl, (blk_cell (blk_at h hi) 3).trans rfl⟩
set_option maxHeartbeats 4000000 in
set_option maxRecDepth 100000 in
theorem played_y (A : Option Addr) (cap : Nat) (l : List S45) (w : World) (hC : Kd.C k45 w A l.length l) (hcap : l.length ≤ cap) (hok : ∀ x ∈ l, okC x) (hsh : Short l) :
    Calls Try.prog 16 #[.slice A l.length cap] w fun e w' => ∃ r, e = .returned (.pointer (some ⟨r, 0, none⟩)) ∧ Apt w.heap.size w' [tape r (playS l newS)] ∧ Below w.heap.size w w' := by
  have HB := Lib.hid (Below.refl w.heap.size w)
  have HY0 := Lib.hid (Apt.none_ w.heap.size w)
  have HC := Lib.hid hC
  have HOK := Lib.hid hok
  have HSH := Lib.hid hsh
  have hl60 := hsh.1
  clear hC hok hsh
  go_enter Try.func16, Try.ntmps16
  go_upto_region 3 with (first | ((with_reducible go_at_call 12); (have q_ := HY0; clear q_); go_must (refine (new_y w.heap.size _ _ HY0.out HB.out.size).mono ?_; rintro e w1 ⟨r, rfl, hy, hb⟩; have HY1 : Hid (Apt w.heap.size w1 ([] ++ [tape r newS])) := Lib.hid hy; clear HY0 hy; have hb_ := below_step HB.out hb; clear HB; have HB := Lib.hid hb_; clear hb_ hb)))
  go_loopw [4, 5] (fun u4 u5 wr => ∃ (k : Nat) (s : TS) (tv : Value), u4 = .int .i64 k ∧ k ≤ l.length ∧ u5 = tv ∧ Hid (Apt w.heap.size wr [tape r s]) ∧ Hid (Below w.heap.size w wr) ∧ Hid (Fine (501 * k) s) ∧ Hid (playS l newS = playS (l.drop k) s)) (fun u4 _ _ => l.length - (intOf u4).toNat)
  case atStart => exact ⟨0, newS, _, rfl, Nat.zero_le _, rfl, HY1, HB, Lib.hid newS_good, Lib.hid rfl⟩
  clear HY1 HB
  obtain ⟨k, s, tv, rfl, hk, rfl, HY1, HB, HF, HP⟩ := hrel
  by_cases hlt : k < l.length
  · have hlt' : (k : Int) < l.length := by omega
    obtain ⟨x, hx⟩ : ∃ x, l[k]? = some x := ⟨_, List.getElem?_eq_getElem hlt⟩
    obtain ⟨b, off, A3, c3, A4, c4, rfl, e0, e1, e2, e3, e4, hc3, hC3, hc4, hC4⟩ := call_in HC.out hx
    have e0 := cell_b HB.out e0
    have e1 := cell_b HB.out e1
    have e2 := cell_b HB.out e2
    have e3 := cell_b HB.out e3
    have e4 := cell_b HB.out e4
    have hxo := HOK.out x (List.mem_of_getElem? hx)
    have hx5 := HSH.out.2 x (List.mem_of_getElem? hx)
    have HBY := Lib.hid (okC_by hxo)
    have HF2 := Lib.hid (stepS_fine HF.out x hxo hx5.1)
    have hP := HP.out
    rw [show l.drop k = x :: l.drop (k + 1) by
      have := List.getElem?_eq_some_iff.1 hx
      rw [← this.2, List.drop_eq_getElem_cons]] at hP
    have HP2 : Hid (playS l newS = playS (l.drop (k + 1)) (stepS s x)) := Lib.hid hP
    have HC3 := Lib.hid (Kd.C_below hC3 HB.out)
    have h500 := hx5.1
    clear hx hxo hx5 hP HP hC3 hC4
    go_upto_region 6 with (fail)
    have hP : Apt w.heap.size (wr.alloc (.cells #[.int .i64 x.f0, .int .i64 x.f1, .int .i64 x.f2, .slice A3 x.f3.length c3, .slice A4 x.f4.length c4] 45)) ([tape r s] ++ [blk wr.heap.size #[.int .i64 x.f0, .int .i64 x.f1, .int .i64 x.f2, .slice A3 x.f3.length c3, .slice A4 x.f4.length c4] 45]) ∧ Below w.heap.size w (wr.alloc (.cells #[.int .i64 x.f0, .int .i64 x.f1, .int .i64 x.f2, .slice A3 x.f3.length c3, .slice A4 x.f4.length c4] 45)) ∧ Kd.C (Kd.int .u8) (wr.alloc (.cells #[.int .i64 x.f0, .int .i64 x.f1, .int .i64 x.f2, .slice A3 x.f3.length c3, .slice A4 x.f4.length c4] 45)) A3 x.f3.length x.f3 :=
      ⟨Apt.add HY1.out (below_alloc (Below.refl _ _) _) ⟨Nat.le_refl _, blk_new wr _⟩, below_step HB.out (below_alloc (Below.refl _ _) _), Kd.C_below HC3.out (below_alloc (Below.refl _ _) _)⟩
    obtain ⟨g, hg⟩ : ∃ g, wr.heap.size = g := ⟨_, rfl⟩
    rw [hg] at hP ⊢
    refine world_gen (P := fun w7 => Apt w.heap.size w7 ([tape r s] ++ [blk g #[.int .i64 x.f0, .int .i64 x.f1, .int .i64 x.f2, .slice A3 x.f3.length c3, .slice A4 x.f4.length c4] 45]) ∧ Below w.heap.size w w7 ∧ Kd.C (Kd.int .u8) w7 A3 x.f3.length x.f3) hP (fun w7 h7 => ?_)
    obtain ⟨hy7, hb7, hc7⟩ := h7
    have v0 : w7.cell? ⟨g, 0, none⟩ = some (.int .i64 x.f0) := (blk_cell (blk_at hy7 (i := 1) rfl) 0).trans rfl
    have v1 : w7.cell? ⟨g, 1, none⟩ = some (.int .i64 x.f1) := (blk_cell (blk_at hy7 (i := 1) rfl) 1).trans rfl
    have v2 : w7.cell? ⟨g, 2, none⟩ = some (.int .i64 x.f2) := (blk_cell (blk_at hy7 (i := 1) rfl) 2).trans rfl
    have v3 : w7.cell? ⟨g, 3, none⟩ = some (.slice A3 x.f3.length c3) := (blk_cell (blk_at hy7 (i := 1) rfl) 3).trans rfl
    have v4 : w7.cell? ⟨g, 4, none⟩ = some (.slice A4 x.f4.length c4) := (blk_cell (blk_at hy7 (i := 1) rfl) 4).trans rfl
    clear hP hg e0 e1 e2 e3 e4 HY1 HC3 HB
    have HY1 := Lib.hid hy7
    have HC3 := Lib.hid hc7
    have HB := Lib.hid hb7
    clear hy7 hc7 hb7
    by_cases k0 : x.f0 = 0
    · have hs : stepS s x = (appS s x.f1 x.f3).2 := by unfold stepS; rw [if_pos k0]
      obtain ⟨⟨ka, sa⟩, hx⟩ : ∃ y, appS s x.f1 x.f3 = y := ⟨_, rfl⟩
      have HX := Lib.hid hx
      rw [hx] at hs
      rw [hs] at HF2 HP2
      have hkk : 501 * k + 501 ≤ 100000000 := by omega
      clear hx hs
      go_upto_region 8 with (fail)
      have hy_ := Apt.below HY1.out (below_drew1 (Below.refl w7.heap.size w7))
      have hc_ := Kd.C_below HC3.out (below_drew1 (Below.refl w7.heap.size w7))
      have hb_ := below_drew1 HB.out
      have HSC := Lib.hid (held hy_)
      clear HY1 HC3 HB v0 v1 v2 v3 v4
      have HY1 := Lib.hid hy_
      have HC3 := Lib.hid hc_
      have HB := Lib.hid hb_
      clear hy_ hc_ hb_
      go_region_held3 (fun w2 => w2.cell? ⟨g, 1, none⟩ = some (.int .i64 x.f1) ∧ w2.cell? ⟨g, 3, none⟩ = some (.slice A3 x.f3.length c3)) (first | with_reducible exact HSC.out) (first | ((with_reducible go_at_call 18); (have q_ := HY1; clear q_); have q9 := (own_z w.heap.size ([tape r s] ++ [blk g #[.int .i64 x.f0, .int .i64 x.f1, .int .i64 x.f2, .slice A3 x.f3.length c3, .slice A4 x.f4.length c4] 45]) A3 c3 x.f3 _ HY1.out HC3.out hc3 (by omega) HB.out.size); (with_reducible refine q9.mono ?_); clear q9; rintro e w1 ⟨Ao, co, rfl, hy, hb⟩; clear HC3; have hs_ := held hy; clear HSC; have HSC := Lib.hid hs_; clear hs_; have HY2 : Hid (Apt w.heap.size w1 ([tape r s] ++ [blk g #[.int .i64 x.f0, .int .i64 x.f1, .int .i64 x.f2, .slice A3 x.f3.length c3, .slice A4 x.f4.length c4] 45] ++ [row (.slice Ao x.f3.length co) x.f3])) := Lib.hid hy; clear HY1 hy; have hb_ := below_step HB.out hb; clear HB; have HB := Lib.hid hb_; clear hb_ hb) | ((with_reducible go_at_call 13); (have q_ := HY2; clear q_); have q9 := (app_z w.heap.size ([tape r s] ++ [blk g #[.int .i64 x.f0, .int .i64 x.f1, .int .i64 x.f2, .slice A3 x.f3.length c3, .slice A4 x.f4.length c4] 45] ++ [row (.slice Ao x.f3.length co) x.f3]) ([tape r sa] ++ [blk g #[.int .i64 x.f0, .int .i64 x.f1, .int .i64 x.f2, .slice A3 x.f3.length c3, .slice A4 x.f4.length c4] 45]) 0 2 2 r (501 * k) x.f3.length s sa x.f1 ka Ao co x.f3 _ HY2.out rfl rfl (by decide) rfl HF.out (by omega) (by omega) HBY.out HB.out.size HX.out rfl); (with_reducible refine q9.mono ?_); clear q9; rintro e w1 ⟨rfl, hy, hb⟩; have hs_ := held hy; clear HSC; have HSC := Lib.hid hs_; clear hs_; have HY3 := Lib.hid (hy.take 1 : Apt w.heap.size w1 [tape r sa]); clear HY2 hy; have hb_ := HB.out.trans hb; clear HB; have HB := Lib.hid hb_; clear hb_ hb))
      all_goals
        go_wp2
        exact ⟨⟨k + 1, sa, _, by go_num, by omega, rfl, HY3, HB, Lib.hid (HF2.out.mono (by omega)), HP2⟩, by simp [intOf]; omega⟩
    · by_cases k1 : x.f0 = 1
      · have hs : stepS s x = (cutS s x.f1 x.f2).2 := by unfold stepS; rw [if_neg k0, if_pos k1]
        obtain ⟨⟨ka, sa⟩, hx⟩ : ∃ y, cutS s x.f1 x.f2 = y := ⟨_, rfl⟩
        have HX := Lib.hid hx
        rw [hx] at hs
        rw [hs] at HF2 HP2
        have hkk : 501 * k ≤ 100000000 := by omega
        have k0' : (x.f0 == 0) = false := by simpa using k0
        clear hx hs k0
        go_wp2_with (first | ((with_reducible go_at_call 22); (have q_ := HY1; clear q_); go_must (refine (cut_z w.heap.size ([tape r s] ++ [blk g #[.int .i64 x.f0, .int .i64 x.f1, .int .i64 x.f2, .slice A3 x.f3.length c3, .slice A4 x.f4.length c4] 45]) [tape r sa] 0 1 r (501 * k) s sa x.f1 x.f2 ka _ HY1.out rfl HF.out hkk HB.out.size HX.out rfl).mono ?_; rintro e w1 ⟨rfl, hy, hb⟩; have HY3 : Hid (Apt w.heap.size w1 [tape r sa]) := Lib.hid hy; clear HY1 hy; have hb_ := HB.out.trans hb; clear HB; have HB := Lib.hid hb_; clear hb_ hb)))
        exact ⟨⟨k + 1, sa, _, by go_num, by omega, rfl, HY3, HB, Lib.hid (HF2.out.mono (by omega)), HP2⟩, by simp [intOf]; omega⟩
      · by_cases k2 : x.f0 = 2
        · have hs : stepS s x = (syncS s x.f1).2 := by unfold stepS; rw [if_neg k0, if_neg k1, if_pos k2]
          obtain ⟨⟨ka, sa⟩, hx⟩ : ∃ y, syncS s x.f1 = y := ⟨_, rfl⟩
          have HX := Lib.hid hx
          rw [hx] at hs
          rw [hs] at HF2 HP2
          have hkk : 501 * k ≤ 100000000 := by omega
          have k0' : (x.f0 == 0) = false := by simpa using k0
          have k1' : (x.f0 == 1) = false := by simpa using k1
          clear hx hs k0 k1
          go_wp2_with (first | ((with_reducible go_at_call 17); (have q_ := HY1; clear q_); go_must (refine (sync_z w.heap.size ([tape r s] ++ [blk g #[.int .i64 x.f0, .int .i64 x.f1, .int .i64 x.f2, .slice A3 x.f3.length c3, .slice A4 x.f4.length c4] 45]) [tape r sa] 0 1 r (501 * k) s sa x.f1 ka _ HY1.out rfl HF.out hkk HB.out.size HX.out rfl).mono ?_; rintro e w1 ⟨rfl, hy, hb⟩; have HY3 : Hid (Apt w.heap.size w1 [tape r sa]) := Lib.hid hy; clear HY1 hy; have hb_ := HB.out.trans hb; clear HB; have HB := Lib.hid hb_; clear hb_ hb)))
          exact ⟨⟨k + 1, sa, _, by go_num, by omega, rfl, HY3, HB, Lib.hid (HF2.out.mono (by omega)), HP2⟩, by simp [intOf]; omega⟩
        · have hs : stepS s x = s := by unfold stepS; rw [if_neg k0, if_neg k1, if_neg k2]
          rw [hs] at HF2 HP2
          have k0' : (x.f0 == 0) = false := by simpa using k0
          have k1' : (x.f0 == 1) = false := by simpa using k1
          have k2' : (x.f0 == 2) = false := by simpa using k2
          clear hs k0 k1 k2
          go_wp2
          exact ⟨⟨k + 1, s, _, by go_num, by omega, rfl, Lib.hid (HY1.out.take 1 : Apt w.heap.size w7 [tape r s]), HB, Lib.hid (HF2.out.mono (by omega)), HP2⟩, by simp [intOf]; omega⟩
  · have hlt' : (l.length : Int) ≤ k := by omega
    have hP := HP.out
    rw [List.drop_of_length_le (by omega)] at hP
    have HP2 := Lib.hid hP
    clear hP HP
    go_wp2
    go_ret
    exact ⟨r, rfl, by rw [HP2.out]; exact HY1.out, HB.out⟩
end Go.Proofs.Ytbccjamcfodeiaa.TapeP2
