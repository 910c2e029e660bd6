/- PROVED: the law TapePower: the walk. No condition beyond what the row opens. -/
import Derived.Test.YtbccjamcfodeiaaTapeQ
import Derived.Test.YtbccjamcfodeiaaLRead
import Derived.Test.YtbccjamcfodeiaaWApart
import Derived.Test.YtbccjamcfodeiaaWKept
import Derived.WalkKit
import Derived.WalkSpells
import Derived.WalkLawsBesides
import Derived.WalkMore
import Derived.Outline
import Derived.Lib.Hide
import Derived.BigQuiet
import Derived.Deep.QuietTactic
import Derived.Deep.RegionHeld3
import Derived.Deep.RegionLaw
import Derived.Deep.LoopGhost
import Derived.Deep.DeepCutAuto
namespace Go.Proofs.Ytbccjamcfodeiaa.TapePower
open Go.RowKit Go.Proofs.Ytbccjamcfodeiaa.PTapePlays Go.Proofs.YtbccjamcfodeiaaW.PrintWords Go.Proofs.YtbccjamcfodeiaaW.PrintLast Go.Proofs.YtbccjamcfodeiaaW.PrintMore
open Go.Proofs.Ytbccjamcfodeiaa.Tape Go.Proofs.Ytbccjamcfodeiaa.Tape2 Go.Proofs.Ytbccjamcfodeiaa.Tape3 Go.Proofs.Ytbccjamcfodeiaa.Tape4 Go.Proofs.Ytbccjamcfodeiaa.Tape5 Go.Proofs.Ytbccjamcfodeiaa.Tape6 Go.Proofs.Ytbccjamcfodeiaa.Tape7 Go.Proofs.Ytbccjamcfodeiaa.Tape8 Go.Proofs.Ytbccjamcfodeiaa.Tape9
open Go.Proofs.Ytbccjamcfodeiaa.TapeW Go.Proofs.Ytbccjamcfodeiaa.TapeF Go.Proofs.Ytbccjamcfodeiaa.TapeP Go.Proofs.Ytbccjamcfodeiaa.TapeP2
open Go.Proofs.Ytbccjamcfodeiaa.TapeS
open Go.Proofs.Ytbccjamcfodeiaa.TapeE
open Go.Proofs.Ytbccjamcfodeiaa.TapeA
open Go.Proofs.Ytbccjamcfodeiaa.TapeQ
set_option linter.unusedSimpArgs false
set_option linter.unusedVariables false
theorem held2 {base : Nat} {ts : List Thing} {w : World} {g : Nat} {a b c d : Value} {e : Value} (h : Apt base w ts) (hi : ts[1]? = some (blk g #[a, b, c, d, e] 45) := by rfl) : w.cell? ⟨g, 0, none⟩ = some a ∧ w.cell? ⟨g, 1, none⟩ = some b ∧ w.cell? ⟨g, 2, none⟩ = some c ∧ w.cell? ⟨g, 3, none⟩ = some d :=
  ⟨(blk_cell (blk_at h hi) 0).trans rfl, (blk_cell (blk_at h hi) 1).trans rfl, (blk_cell (blk_at h hi) 2).trans rfl, (blk_cell (blk_at h hi) 3).trans rfl⟩
set_option maxHeartbeats 4000000 in
set_option maxRecDepth 100000 in
theorem power_walk (A : Option Addr) (cap : Nat) (l : List S45) (n : Int) (w : World) (hC : Kd.C k45 w A l.length l) (hcap : l.length ≤ cap) (hok : ∀ x ∈ l, okC x) (hnr : -9223372036854775808 ≤ n ∧ n ≤ 9223372036854775807) :
    Calls Try.prog 8 #[.slice A l.length cap, .int .i64 n] w fun e w' => e = .returned (.bool true) ∧ Below w.heap.size w w' := by
  have HB := Lib.hid (Below.refl w.heap.size w)
  have HC := Lib.hid hC
  have HOK := Lib.hid hok
  obtain ⟨lb, hlb, hsh⟩ := long_f l
  have HLB := Lib.hid hlb
  have HSH := Lib.hid hsh
  have n1 := hnr.2
  have HY0 := Lib.hid (Apt.none_ w.heap.size w)
  clear hC hok hlb hsh hnr
  rcases lb with _ | _
  rotate_left
  · go_enter Try.func8, Try.ntmps8
    go_wp2_with (first | ((with_reducible go_at_call 15); go_must (refine (long_t l _ A cap _ HLB.out (Kd.C_below HC.out HB.out) hcap).mono ?_; rintro e w1 ⟨rfl, hb⟩; have hy_ := Apt.below HY0.out hb; clear HY0; have HY0 := Lib.hid hy_; clear hy_; have hb_ := below_step HB.out hb; clear HB; have HB := Lib.hid hb_; clear hb_ hb)) | ((with_reducible go_at_call 11); go_must (refine (awake_ok _).mono ?_; rintro e w1 ⟨rfl, hb⟩; have hb_ := below_step HB.out hb; clear HB; have HB := Lib.hid hb_; clear hb_ hb)))
    go_ret
    exact ⟨rfl, HB.out⟩
  by_cases hn0 : n < 0
  · go_enter Try.func8, Try.ntmps8
    go_wp2_with (first | ((with_reducible go_at_call 15); go_must (refine (long_t l _ A cap _ HLB.out (Kd.C_below HC.out HB.out) hcap).mono ?_; rintro e w1 ⟨rfl, hb⟩; have hy_ := Apt.below HY0.out hb; clear HY0; have HY0 := Lib.hid hy_; clear hy_; have hb_ := below_step HB.out hb; clear HB; have HB := Lib.hid hb_; clear hb_ hb)) | ((with_reducible go_at_call 11); go_must (refine (awake_ok _).mono ?_; rintro e w1 ⟨rfl, hb⟩; have hb_ := below_step HB.out hb; clear HB; have HB := Lib.hid hb_; clear hb_ hb)))
    go_ret
    exact ⟨rfl, HB.out⟩
  have n0 : 0 ≤ n := by omega
  have hsh := HSH.out rfl
  clear HSH hn0
  have HSH := Lib.hid hsh
  have hl60 := hsh.1
  clear hsh
  have hfu : fuseOf n = n := by unfold fuseOf; rw [if_neg (by omega)]
  obtain ⟨sn, hsn⟩ : ∃ s, s = { newS with f := fuseOf n } := ⟨_, rfl⟩
  have HSN := Lib.hid hsn
  have HFN : Hid (Fine 0 sn) := Lib.hid (by rw [hsn]; exact setf_good newS_good _ _ (fuse_rng n n1).1 (fuse_rng n n1).2)
  have HPN : Hid (PInv n 0 sn) := Lib.hid (by rw [hsn, hfu]; exact ⟨Int.le_refl _, by show n = n - 0; omega, n0, fun h => by cases h⟩)
  clear hsn hfu
  go_enter Try.func8, Try.ntmps8
  go_upto_region 7 with (first | ((with_reducible go_at_call 15); go_must (refine (long_t l _ A cap _ HLB.out (Kd.C_below HC.out HB.out) hcap).mono ?_; rintro e w1 ⟨rfl, hb⟩; have hy_ := Apt.below HY0.out hb; clear HY0; have HY0 := Lib.hid hy_; clear hy_; have hb_ := below_step HB.out hb; clear HB; have HB := Lib.hid hb_; clear hb_ hb)) | ((with_reducible go_at_call 12); (have q_ := HY0; clear q_); go_must (refine (new_y w.heap.size _ _ HY0.out HB.out.size).mono ?_; rintro e w1 ⟨r, rfl, hy, hb⟩; have HY1 : Hid (Apt w.heap.size w1 ([] ++ [tape r newS])) := Lib.hid hy; clear HY0 hy; have hb_ := below_step HB.out hb; clear HB; have HB := Lib.hid hb_; clear hb_ hb)) | ((with_reducible go_at_call 28); (have q_ := HY1; clear q_); go_must (refine (fuse_y w.heap.size ([] ++ [tape r newS]) 0 r newS n _ HY1.out rfl HB.out.size).mono ?_; rintro e w1 ⟨rfl, hy, hb⟩; have HY2 : Hid (Apt w.heap.size w1 [tape r sn]) := Lib.hid (by rw [HSN.out]; exact hy); clear HY1 hy; have hb_ := HB.out.trans hb; clear HB; have HB := Lib.hid hb_; clear hb_ hb)))
  go_loopw [6, 7] (fun u6 u7 wr => ∃ (k : Nat) (st : Int) (s : TS), u7 = .int .i64 k ∧ k ≤ l.length ∧ u6 = .int .i64 st ∧ Hid (Apt w.heap.size wr [tape r s]) ∧ Hid (Below w.heap.size w wr) ∧ Hid (Fine (501 * k) s) ∧ Hid (PInv n st s)) (fun _ u7 _ => l.length - (intOf u7).toNat)
  case atStart => exact ⟨0, 0, sn, rfl, Nat.zero_le _, rfl, HY2, HB, HFN, HPN⟩
  clear HY2 HB HSN HFN HPN
  obtain ⟨k, st, s, rfl, hk, rfl, HY1, HB, HF, HPI⟩ := hrel
  by_cases hlt : k < l.length
  · have hlt' : (k : Int) < l.length := by omega
    obtain ⟨x, hx⟩ : ∃ x, l[k]? = some x := ⟨_, List.getElem?_eq_getElem hlt⟩
    obtain ⟨b, off, A3, c3, A4, c4, rfl, e0, e1, e2, e3, e4, hc3, hC3, hc4, hC4⟩ := call_in HC.out hx
    have e0 := cell_b HB.out e0
    have e1 := cell_b HB.out e1
    have e2 := cell_b HB.out e2
    have e3 := cell_b HB.out e3
    have e4 := cell_b HB.out e4
    have hxo := HOK.out x (List.mem_of_getElem? hx)
    have h500 := (HSH.out.2 x (List.mem_of_getElem? hx)).1
    have HBY := Lib.hid (okC_by hxo)
    have HC3 := Lib.hid (Kd.C_below hC3 HB.out)
    have hst0 := HPI.out.1
    have hst1 := pinv_le HPI.out
    have hkk : 501 * k ≤ 40000 := by omega
    clear hx hxo hC3 hC4
    go_upto_region 10 with (fail)
    have hP : Apt w.heap.size (wr.alloc (.cells #[.int .i64 x.f0, .int .i64 x.f1, .int .i64 x.f2, .slice A3 x.f3.length c3, .slice A4 x.f4.length c4] 45)) ([tape r s] ++ [blk wr.heap.size #[.int .i64 x.f0, .int .i64 x.f1, .int .i64 x.f2, .slice A3 x.f3.length c3, .slice A4 x.f4.length c4] 45]) ∧ Below w.heap.size w (wr.alloc (.cells #[.int .i64 x.f0, .int .i64 x.f1, .int .i64 x.f2, .slice A3 x.f3.length c3, .slice A4 x.f4.length c4] 45)) ∧ Kd.C (Kd.int .u8) (wr.alloc (.cells #[.int .i64 x.f0, .int .i64 x.f1, .int .i64 x.f2, .slice A3 x.f3.length c3, .slice A4 x.f4.length c4] 45)) A3 x.f3.length x.f3 :=
      ⟨Apt.add HY1.out (below_alloc (Below.refl _ _) _) ⟨Nat.le_refl _, blk_new wr _⟩, below_step HB.out (below_alloc (Below.refl _ _) _), Kd.C_below HC3.out (below_alloc (Below.refl _ _) _)⟩
    obtain ⟨g, hg⟩ : ∃ g, wr.heap.size = g := ⟨_, rfl⟩
    rw [hg] at hP ⊢
    refine world_gen (P := fun w7 => Apt w.heap.size w7 ([tape r s] ++ [blk g #[.int .i64 x.f0, .int .i64 x.f1, .int .i64 x.f2, .slice A3 x.f3.length c3, .slice A4 x.f4.length c4] 45]) ∧ Below w.heap.size w w7 ∧ Kd.C (Kd.int .u8) w7 A3 x.f3.length x.f3) hP (fun w7 h7 => ?_)
    obtain ⟨hy7, hb7, hc7⟩ := h7
    have v0 : w7.cell? ⟨g, 0, none⟩ = some (.int .i64 x.f0) := (blk_cell (blk_at hy7 (i := 1) rfl) 0).trans rfl
    have v1 : w7.cell? ⟨g, 1, none⟩ = some (.int .i64 x.f1) := (blk_cell (blk_at hy7 (i := 1) rfl) 1).trans rfl
    have v2 : w7.cell? ⟨g, 2, none⟩ = some (.int .i64 x.f2) := (blk_cell (blk_at hy7 (i := 1) rfl) 2).trans rfl
    have v3 : w7.cell? ⟨g, 3, none⟩ = some (.slice A3 x.f3.length c3) := (blk_cell (blk_at hy7 (i := 1) rfl) 3).trans rfl
    have v4 : w7.cell? ⟨g, 4, none⟩ = some (.slice A4 x.f4.length c4) := (blk_cell (blk_at hy7 (i := 1) rfl) 4).trans rfl
    clear hP hg e0 e1 e2 e3 e4 HY1 HC3 HB
    have HY1 := Lib.hid hy7
    have HC3 := Lib.hid hc7
    have HB := Lib.hid hb7
    clear hy7 hc7 hb7
    obtain ⟨o0, ho0⟩ : ∃ o, openS s x.f1 = o := ⟨_, rfl⟩
    have hor := open_rng HF.out x.f1
    rw [ho0] at hor
    have hor0 := hor.1
    have hor1 : o0 ≤ 40000 := by omega
    have HO0 := Lib.hid ho0
    clear hor ho0
    by_cases k0 : x.f0 = 0
    · obtain ⟨ka, sa, hx⟩ : ∃ k s2, appS s x.f1 x.f3 = (k, s2) := ⟨_, _, rfl⟩
      have hFa := appS_good HF.out x.f1 x.f3 HBY.out
      obtain ⟨hp1, hp2⟩ := power_app HPI.out x.f1 x.f3
      rw [hx] at hFa hp1 hp2
      obtain ⟨o1, ho1⟩ : ∃ o, openS sa x.f1 = o := ⟨_, rfl⟩
      have hor := open_rng hFa x.f1
      rw [ho1] at hor hp1
      have hp1 : PInv n (st + (o1 - o0)) sa := by rw [← HO0.out]; exact hp1
      have hor2 := hor.1
      have hor3 : o1 ≤ 41000 := by omega
      have HFa : Hid (Fine (501 * k + 501) sa) := Lib.hid (hFa.mono (by omega))
      have HXA := Lib.hid hx
      have HO1 := Lib.hid ho1
      have HPI2 := Lib.hid hp1
      have HQ := Lib.hid hp2
      have hle := pinv_le hp1
      have hst2 : st + (o1 - o0) ≤ 9223372036854775807 := by omega
      have hst3 : 0 ≤ st + (o1 - o0) := hp1.1
      clear hFa hx ho1 hp1 hp2 hor
      go_upto_region 15 with (first | ((with_reducible go_at_call 21); (have q_ := HY1; clear q_); (have q_ := v4; clear q_); go_must (refine (open_z w.heap.size ([tape r s] ++ [blk g #[.int .i64 x.f0, .int .i64 x.f1, .int .i64 x.f2, .slice A3 x.f3.length c3, .slice A4 x.f4.length c4] 45]) 0 r s x.f1 o0 _ HY1.out rfl HO0.out).mono ?_; rintro e w1 ⟨rfl, rfl⟩; clear v4; have v4 := True.intro)))
      have hy_ := Apt.below HY1.out (below_drew1 (Below.refl w7.heap.size w7))
      have hc_ := Kd.C_below HC3.out (below_drew1 (Below.refl w7.heap.size w7))
      have hb_ := below_drew1 HB.out
      have HSC := Lib.hid (held hy_)
      clear HY1 HC3 HB v0 v1 v2 v3 v4
      have HY1 := Lib.hid hy_
      have HC3 := Lib.hid hc_
      have HB := Lib.hid hb_
      clear hy_ hc_ hb_
      go_region_held3 (fun w2 => w2.cell? ⟨g, 1, none⟩ = some (.int .i64 x.f1) ∧ w2.cell? ⟨g, 3, none⟩ = some (.slice A3 x.f3.length c3)) (first | with_reducible exact HSC.out) (first | ((with_reducible go_at_call 18); (have q_ := HY1; clear q_); have q9 := (own_z w.heap.size ([tape r s] ++ [blk g #[.int .i64 x.f0, .int .i64 x.f1, .int .i64 x.f2, .slice A3 x.f3.length c3, .slice A4 x.f4.length c4] 45]) A3 c3 x.f3 _ HY1.out HC3.out hc3 (by omega) HB.out.size); (with_reducible refine q9.mono ?_); clear q9; rintro e w1 ⟨Ao, co, rfl, hy, hb⟩; clear HC3; have hs_ := held hy; clear HSC; have HSC := Lib.hid hs_; clear hs_; have HY2 : Hid (Apt w.heap.size w1 ([tape r s] ++ [blk g #[.int .i64 x.f0, .int .i64 x.f1, .int .i64 x.f2, .slice A3 x.f3.length c3, .slice A4 x.f4.length c4] 45] ++ [row (.slice Ao x.f3.length co) x.f3])) := Lib.hid hy; clear HY1 hy; have hb_ := below_step HB.out hb; clear HB; have HB := Lib.hid hb_; clear hb_ hb) | ((with_reducible go_at_call 13); (have q_ := HY2; clear q_); have q9 := (app_z w.heap.size ([tape r s] ++ [blk g #[.int .i64 x.f0, .int .i64 x.f1, .int .i64 x.f2, .slice A3 x.f3.length c3, .slice A4 x.f4.length c4] 45] ++ [row (.slice Ao x.f3.length co) x.f3]) ([tape r sa] ++ [blk g #[.int .i64 x.f0, .int .i64 x.f1, .int .i64 x.f2, .slice A3 x.f3.length c3, .slice A4 x.f4.length c4] 45]) 0 2 2 r (501 * k) x.f3.length s sa x.f1 ka Ao co x.f3 _ HY2.out rfl rfl (by decide) rfl HF.out (by omega) (by omega) HBY.out HB.out.size HXA.out rfl); (with_reducible refine q9.mono ?_); clear q9; rintro e w1 ⟨rfl, hy, hb⟩; have hs_ := held hy; clear HSC; have HSC := Lib.hid hs_; clear hs_; have HY4 : Hid (Apt w.heap.size w1 ([tape r sa] ++ [blk g #[.int .i64 x.f0, .int .i64 x.f1, .int .i64 x.f2, .slice A3 x.f3.length c3, .slice A4 x.f4.length c4] 45])) := Lib.hid hy; clear HY2 hy; have hb_ := HB.out.trans hb; clear HB; have HB := Lib.hid hb_; clear hb_ hb))
      all_goals
        obtain ⟨v0, v1, v2, v3⟩ := held2 HY4.out
        clear HSC
        rcases hd : sa.d with _ | _
        · have HD := Lib.hid hd
          have q1 : (ka == 100) = false := by rw [HQ.out, hd]; rfl
          clear hd
          go_wp2_with (first | ((with_reducible go_at_call 21); (have q_ := HY4; clear q_); go_must (refine (open_z w.heap.size ([tape r sa] ++ [blk g #[.int .i64 x.f0, .int .i64 x.f1, .int .i64 x.f2, .slice A3 x.f3.length c3, .slice A4 x.f4.length c4] 45]) 0 r sa x.f1 o1 _ HY4.out rfl HO1.out).mono ?_; rintro e w1 ⟨rfl, rfl⟩; have HY5 := HY4; clear HY4)) | ((with_reducible go_at_call 26); (have q_ := HY5; clear q_); go_must (refine (down_z w.heap.size ([tape r sa] ++ [blk g #[.int .i64 x.f0, .int .i64 x.f1, .int .i64 x.f2, .slice A3 x.f3.length c3, .slice A4 x.f4.length c4] 45]) 0 r sa _ _ HY5.out rfl HD.out).mono ?_; rintro e w1 ⟨rfl, rfl⟩)) | ((with_reducible go_at_call 10); (have q_ := hi0; clear q_); go_must (refine (is_yes _ _ hi0 hi4).mono ?_; rintro e w' ⟨rfl, rfl⟩)) | ((with_reducible go_at_call 10); (have q_ := hno; clear q_); go_must (refine (is_no _ _ hno).mono ?_; rintro e w' ⟨rfl, rfl⟩)))
          exact ⟨⟨k + 1, _, sa, by go_num, by omega, rfl, Lib.hid (HY5.out.take 1 : Apt w.heap.size _ [tape r sa]), HB, Lib.hid (HFa.out.mono (by omega)), HPI2⟩, by simp [intOf]; omega⟩
        · have HD := Lib.hid hd
          have hn : (st + (o1 - o0) != n) = false := by have := pinv_eq HPI2.out hd; simpa using this
          by_cases hq : 0 ≤ x.f1 ∧ x.f1 < 4
          · have hi0 := hq.1
            have hi4 := hq.2
            have q1 : (ka == 100) = true := by rw [HQ.out, hd, decide_eq_true hq]; rfl
            clear hd hq
            go_wp2_with (first | ((with_reducible go_at_call 21); (have q_ := HY4; clear q_); go_must (refine (open_z w.heap.size ([tape r sa] ++ [blk g #[.int .i64 x.f0, .int .i64 x.f1, .int .i64 x.f2, .slice A3 x.f3.length c3, .slice A4 x.f4.length c4] 45]) 0 r sa x.f1 o1 _ HY4.out rfl HO1.out).mono ?_; rintro e w1 ⟨rfl, rfl⟩; have HY5 := HY4; clear HY4)) | ((with_reducible go_at_call 26); (have q_ := HY5; clear q_); go_must (refine (down_z w.heap.size ([tape r sa] ++ [blk g #[.int .i64 x.f0, .int .i64 x.f1, .int .i64 x.f2, .slice A3 x.f3.length c3, .slice A4 x.f4.length c4] 45]) 0 r sa _ _ HY5.out rfl HD.out).mono ?_; rintro e w1 ⟨rfl, rfl⟩)) | ((with_reducible go_at_call 10); (have q_ := hi0; clear q_); go_must (refine (is_yes _ _ hi0 hi4).mono ?_; rintro e w' ⟨rfl, rfl⟩)) | ((with_reducible go_at_call 10); (have q_ := hno; clear q_); go_must (refine (is_no _ _ hno).mono ?_; rintro e w' ⟨rfl, rfl⟩)))
            exact ⟨⟨k + 1, _, sa, by go_num, by omega, rfl, Lib.hid (HY5.out.take 1 : Apt w.heap.size _ [tape r sa]), HB, Lib.hid (HFa.out.mono (by omega)), HPI2⟩, by simp [intOf]; omega⟩
          · have hno := hq
            have q1 : (ka == 100) = false := by rw [HQ.out, decide_eq_false hq, Bool.and_false]
            clear hd hq
            go_wp2_with (first | ((with_reducible go_at_call 21); (have q_ := HY4; clear q_); go_must (refine (open_z w.heap.size ([tape r sa] ++ [blk g #[.int .i64 x.f0, .int .i64 x.f1, .int .i64 x.f2, .slice A3 x.f3.length c3, .slice A4 x.f4.length c4] 45]) 0 r sa x.f1 o1 _ HY4.out rfl HO1.out).mono ?_; rintro e w1 ⟨rfl, rfl⟩; have HY5 := HY4; clear HY4)) | ((with_reducible go_at_call 26); (have q_ := HY5; clear q_); go_must (refine (down_z w.heap.size ([tape r sa] ++ [blk g #[.int .i64 x.f0, .int .i64 x.f1, .int .i64 x.f2, .slice A3 x.f3.length c3, .slice A4 x.f4.length c4] 45]) 0 r sa _ _ HY5.out rfl HD.out).mono ?_; rintro e w1 ⟨rfl, rfl⟩)) | ((with_reducible go_at_call 10); (have q_ := hi0; clear q_); go_must (refine (is_yes _ _ hi0 hi4).mono ?_; rintro e w' ⟨rfl, rfl⟩)) | ((with_reducible go_at_call 10); (have q_ := hno; clear q_); go_must (refine (is_no _ _ hno).mono ?_; rintro e w' ⟨rfl, rfl⟩)))
            exact ⟨⟨k + 1, _, sa, by go_num, by omega, rfl, Lib.hid (HY5.out.take 1 : Apt w.heap.size _ [tape r sa]), HB, Lib.hid (HFa.out.mono (by omega)), HPI2⟩, by simp [intOf]; omega⟩
    · have k0' : (x.f0 == 0) = false := by simpa using k0
      by_cases k1 : x.f0 = 1
      · obtain ⟨ka, sa, hx⟩ : ∃ k s2, cutS s x.f1 x.f2 = (k, s2) := ⟨_, _, rfl⟩
        have hFa := cutS_good HF.out x.f1 x.f2
        have hp1 := power_cut HPI.out x.f1 x.f2
        rw [hx] at hFa hp1
        have hp2 := True.intro
        obtain ⟨o1, ho1⟩ : ∃ o, openS sa x.f1 = o := ⟨_, rfl⟩
        have hor := open_rng hFa x.f1
        rw [ho1] at hor hp1
        have hp1 : PInv n (st + (o1 - o0)) sa := by rw [← HO0.out]; exact hp1
        have hor2 := hor.1
        have hor3 : o1 ≤ 41000 := by omega
        have HFa : Hid (Fine (501 * k + 501) sa) := Lib.hid (hFa.mono (by omega))
        have HXA := Lib.hid hx
        have HO1 := Lib.hid ho1
        have HPI2 := Lib.hid hp1
        have HQ := Lib.hid hp2
        have hle := pinv_le hp1
        have hst2 : st + (o1 - o0) ≤ 9223372036854775807 := by omega
        have hst3 : 0 ≤ st + (o1 - o0) := hp1.1
        clear hFa hx ho1 hp1 hp2 hor
        clear k0
        rcases hd : sa.d with _ | _
        · have HD := Lib.hid hd
          skip
          clear hd
          go_wp2_with (first | ((with_reducible go_at_call 21); (have q_ := HY1; clear q_); (have q_ := v4; clear q_); go_must (refine (open_z w.heap.size ([tape r s] ++ [blk g #[.int .i64 x.f0, .int .i64 x.f1, .int .i64 x.f2, .slice A3 x.f3.length c3, .slice A4 x.f4.length c4] 45]) 0 r s x.f1 o0 _ HY1.out rfl HO0.out).mono ?_; rintro e w1 ⟨rfl, rfl⟩; clear v4; have v4 := True.intro)) | ((with_reducible go_at_call 22); (have q_ := HY1; clear q_); go_must (refine (cut_z w.heap.size ([tape r s] ++ [blk g #[.int .i64 x.f0, .int .i64 x.f1, .int .i64 x.f2, .slice A3 x.f3.length c3, .slice A4 x.f4.length c4] 45]) ([tape r sa] ++ [blk g #[.int .i64 x.f0, .int .i64 x.f1, .int .i64 x.f2, .slice A3 x.f3.length c3, .slice A4 x.f4.length c4] 45]) 0 2 r (501 * k) s sa x.f1 x.f2 ka _ HY1.out rfl HF.out (by omega) HB.out.size HXA.out rfl).mono ?_; rintro e w1 ⟨rfl, hy, hb⟩; clear v0 v1 v2 v3 v4; obtain ⟨v0, v1, v2, v3⟩ := held2 hy; have HY4 : Hid (Apt w.heap.size w1 ([tape r sa] ++ [blk g #[.int .i64 x.f0, .int .i64 x.f1, .int .i64 x.f2, .slice A3 x.f3.length c3, .slice A4 x.f4.length c4] 45])) := Lib.hid hy; clear HY1 hy; have hb_ := HB.out.trans hb; clear HB; have HB := Lib.hid hb_; clear hb_ hb)) | ((with_reducible go_at_call 21); (have q_ := HY4; clear q_); go_must (refine (open_z w.heap.size ([tape r sa] ++ [blk g #[.int .i64 x.f0, .int .i64 x.f1, .int .i64 x.f2, .slice A3 x.f3.length c3, .slice A4 x.f4.length c4] 45]) 0 r sa x.f1 o1 _ HY4.out rfl HO1.out).mono ?_; rintro e w1 ⟨rfl, rfl⟩; have HY5 := HY4; clear HY4)) | ((with_reducible go_at_call 26); (have q_ := HY5; clear q_); go_must (refine (down_z w.heap.size ([tape r sa] ++ [blk g #[.int .i64 x.f0, .int .i64 x.f1, .int .i64 x.f2, .slice A3 x.f3.length c3, .slice A4 x.f4.length c4] 45]) 0 r sa _ _ HY5.out rfl HD.out).mono ?_; rintro e w1 ⟨rfl, rfl⟩)) | ((with_reducible go_at_call 10); (have q_ := hi0; clear q_); go_must (refine (is_yes _ _ hi0 hi4).mono ?_; rintro e w' ⟨rfl, rfl⟩)) | ((with_reducible go_at_call 10); (have q_ := hno; clear q_); go_must (refine (is_no _ _ hno).mono ?_; rintro e w' ⟨rfl, rfl⟩)))
          all_goals (exact ⟨⟨k + 1, _, sa, by go_num, by omega, rfl, Lib.hid (HY5.out.take 1 : Apt w.heap.size _ [tape r sa]), HB, Lib.hid (HFa.out.mono (by omega)), HPI2⟩, by simp [intOf]; omega⟩)
        · have HD := Lib.hid hd
          have hn : (st + (o1 - o0) != n) = false := by have := pinv_eq HPI2.out hd; simpa using this
          by_cases hq : 0 ≤ x.f1 ∧ x.f1 < 4
          · have hi0 := hq.1
            have hi4 := hq.2
            skip
            clear hd hq
            go_wp2_with (first | ((with_reducible go_at_call 21); (have q_ := HY1; clear q_); (have q_ := v4; clear q_); go_must (refine (open_z w.heap.size ([tape r s] ++ [blk g #[.int .i64 x.f0, .int .i64 x.f1, .int .i64 x.f2, .slice A3 x.f3.length c3, .slice A4 x.f4.length c4] 45]) 0 r s x.f1 o0 _ HY1.out rfl HO0.out).mono ?_; rintro e w1 ⟨rfl, rfl⟩; clear v4; have v4 := True.intro)) | ((with_reducible go_at_call 22); (have q_ := HY1; clear q_); go_must (refine (cut_z w.heap.size ([tape r s] ++ [blk g #[.int .i64 x.f0, .int .i64 x.f1, .int .i64 x.f2, .slice A3 x.f3.length c3, .slice A4 x.f4.length c4] 45]) ([tape r sa] ++ [blk g #[.int .i64 x.f0, .int .i64 x.f1, .int .i64 x.f2, .slice A3 x.f3.length c3, .slice A4 x.f4.length c4] 45]) 0 2 r (501 * k) s sa x.f1 x.f2 ka _ HY1.out rfl HF.out (by omega) HB.out.size HXA.out rfl).mono ?_; rintro e w1 ⟨rfl, hy, hb⟩; clear v0 v1 v2 v3 v4; obtain ⟨v0, v1, v2, v3⟩ := held2 hy; have HY4 : Hid (Apt w.heap.size w1 ([tape r sa] ++ [blk g #[.int .i64 x.f0, .int .i64 x.f1, .int .i64 x.f2, .slice A3 x.f3.length c3, .slice A4 x.f4.length c4] 45])) := Lib.hid hy; clear HY1 hy; have hb_ := HB.out.trans hb; clear HB; have HB := Lib.hid hb_; clear hb_ hb)) | ((with_reducible go_at_call 21); (have q_ := HY4; clear q_); go_must (refine (open_z w.heap.size ([tape r sa] ++ [blk g #[.int .i64 x.f0, .int .i64 x.f1, .int .i64 x.f2, .slice A3 x.f3.length c3, .slice A4 x.f4.length c4] 45]) 0 r sa x.f1 o1 _ HY4.out rfl HO1.out).mono ?_; rintro e w1 ⟨rfl, rfl⟩; have HY5 := HY4; clear HY4)) | ((with_reducible go_at_call 26); (have q_ := HY5; clear q_); go_must (refine (down_z w.heap.size ([tape r sa] ++ [blk g #[.int .i64 x.f0, .int .i64 x.f1, .int .i64 x.f2, .slice A3 x.f3.length c3, .slice A4 x.f4.length c4] 45]) 0 r sa _ _ HY5.out rfl HD.out).mono ?_; rintro e w1 ⟨rfl, rfl⟩)) | ((with_reducible go_at_call 10); (have q_ := hi0; clear q_); go_must (refine (is_yes _ _ hi0 hi4).mono ?_; rintro e w' ⟨rfl, rfl⟩)) | ((with_reducible go_at_call 10); (have q_ := hno; clear q_); go_must (refine (is_no _ _ hno).mono ?_; rintro e w' ⟨rfl, rfl⟩)))
            all_goals (exact ⟨⟨k + 1, _, sa, by go_num, by omega, rfl, Lib.hid (HY5.out.take 1 : Apt w.heap.size _ [tape r sa]), HB, Lib.hid (HFa.out.mono (by omega)), HPI2⟩, by simp [intOf]; omega⟩)
          · have hno := hq
            skip
            clear hd hq
            go_wp2_with (first | ((with_reducible go_at_call 21); (have q_ := HY1; clear q_); (have q_ := v4; clear q_); go_must (refine (open_z w.heap.size ([tape r s] ++ [blk g #[.int .i64 x.f0, .int .i64 x.f1, .int .i64 x.f2, .slice A3 x.f3.length c3, .slice A4 x.f4.length c4] 45]) 0 r s x.f1 o0 _ HY1.out rfl HO0.out).mono ?_; rintro e w1 ⟨rfl, rfl⟩; clear v4; have v4 := True.intro)) | ((with_reducible go_at_call 22); (have q_ := HY1; clear q_); go_must (refine (cut_z w.heap.size ([tape r s] ++ [blk g #[.int .i64 x.f0, .int .i64 x.f1, .int .i64 x.f2, .slice A3 x.f3.length c3, .slice A4 x.f4.length c4] 45]) ([tape r sa] ++ [blk g #[.int .i64 x.f0, .int .i64 x.f1, .int .i64 x.f2, .slice A3 x.f3.length c3, .slice A4 x.f4.length c4] 45]) 0 2 r (501 * k) s sa x.f1 x.f2 ka _ HY1.out rfl HF.out (by omega) HB.out.size HXA.out rfl).mono ?_; rintro e w1 ⟨rfl, hy, hb⟩; clear v0 v1 v2 v3 v4; obtain ⟨v0, v1, v2, v3⟩ := held2 hy; have HY4 : Hid (Apt w.heap.size w1 ([tape r sa] ++ [blk g #[.int .i64 x.f0, .int .i64 x.f1, .int .i64 x.f2, .slice A3 x.f3.length c3, .slice A4 x.f4.length c4] 45])) := Lib.hid hy; clear HY1 hy; have hb_ := HB.out.trans hb; clear HB; have HB := Lib.hid hb_; clear hb_ hb)) | ((with_reducible go_at_call 21); (have q_ := HY4; clear q_); go_must (refine (open_z w.heap.size ([tape r sa] ++ [blk g #[.int .i64 x.f0, .int .i64 x.f1, .int .i64 x.f2, .slice A3 x.f3.length c3, .slice A4 x.f4.length c4] 45]) 0 r sa x.f1 o1 _ HY4.out rfl HO1.out).mono ?_; rintro e w1 ⟨rfl, rfl⟩; have HY5 := HY4; clear HY4)) | ((with_reducible go_at_call 26); (have q_ := HY5; clear q_); go_must (refine (down_z w.heap.size ([tape r sa] ++ [blk g #[.int .i64 x.f0, .int .i64 x.f1, .int .i64 x.f2, .slice A3 x.f3.length c3, .slice A4 x.f4.length c4] 45]) 0 r sa _ _ HY5.out rfl HD.out).mono ?_; rintro e w1 ⟨rfl, rfl⟩)) | ((with_reducible go_at_call 10); (have q_ := hi0; clear q_); go_must (refine (is_yes _ _ hi0 hi4).mono ?_; rintro e w' ⟨rfl, rfl⟩)) | ((with_reducible go_at_call 10); (have q_ := hno; clear q_); go_must (refine (is_no _ _ hno).mono ?_; rintro e w' ⟨rfl, rfl⟩)))
            all_goals (exact ⟨⟨k + 1, _, sa, by go_num, by omega, rfl, Lib.hid (HY5.out.take 1 : Apt w.heap.size _ [tape r sa]), HB, Lib.hid (HFa.out.mono (by omega)), HPI2⟩, by simp [intOf]; omega⟩)
      · have k1' : (x.f0 == 1) = false := by simpa using k1
        by_cases k2 : x.f0 = 2
        · obtain ⟨ka, sa, hx⟩ : ∃ k s2, syncS s x.f1 = (k, s2) := ⟨_, _, rfl⟩
          have hFa := syncS_good HF.out x.f1
          obtain ⟨hp1, hp2⟩ := power_sync HPI.out x.f1
          rw [hx] at hFa hp1 hp2
          have HFa : Hid (Fine (501 * k + 501) sa) := Lib.hid (hFa.mono (by omega))
          have HXA := Lib.hid hx
          have HQ := Lib.hid hp2
          have hp1 : PInv n (st + (if ka = 0 then 1 else 0)) sa := hp1
          clear k0 k1 hFa hx hp2
          by_cases hka : ka = 0
          · rw [if_pos hka] at hp1
            subst hka
            have HPI2 := Lib.hid hp1
            have hle := pinv_le hp1
            have hst2 : st + 1 ≤ 9223372036854775807 := by omega
            clear hp1
            rcases hd : sa.d with _ | _
            · have HD := Lib.hid hd
              skip
              clear hd
              go_wp2_with (first | ((with_reducible go_at_call 21); (have q_ := HY1; clear q_); (have q_ := v4; clear q_); go_must (refine (open_z w.heap.size ([tape r s] ++ [blk g #[.int .i64 x.f0, .int .i64 x.f1, .int .i64 x.f2, .slice A3 x.f3.length c3, .slice A4 x.f4.length c4] 45]) 0 r s x.f1 o0 _ HY1.out rfl HO0.out).mono ?_; rintro e w1 ⟨rfl, rfl⟩; clear v4; have v4 := True.intro)) | ((with_reducible go_at_call 17); (have q_ := HY1; clear q_); go_must (refine (sync_z w.heap.size ([tape r s] ++ [blk g #[.int .i64 x.f0, .int .i64 x.f1, .int .i64 x.f2, .slice A3 x.f3.length c3, .slice A4 x.f4.length c4] 45]) ([tape r sa] ++ [blk g #[.int .i64 x.f0, .int .i64 x.f1, .int .i64 x.f2, .slice A3 x.f3.length c3, .slice A4 x.f4.length c4] 45]) 0 2 r (501 * k) s sa x.f1 0 _ HY1.out rfl HF.out (by omega) HB.out.size HXA.out rfl).mono ?_; rintro e w1 ⟨rfl, hy, hb⟩; clear v0 v1 v2 v3 v4; obtain ⟨v0, v1, v2, v3⟩ := held2 hy; have HY5 : Hid (Apt w.heap.size w1 ([tape r sa] ++ [blk g #[.int .i64 x.f0, .int .i64 x.f1, .int .i64 x.f2, .slice A3 x.f3.length c3, .slice A4 x.f4.length c4] 45])) := Lib.hid hy; clear HY1 hy; have hb_ := HB.out.trans hb; clear HB; have HB := Lib.hid hb_; clear hb_ hb)) | ((with_reducible go_at_call 26); (have q_ := HY5; clear q_); go_must (refine (down_z w.heap.size ([tape r sa] ++ [blk g #[.int .i64 x.f0, .int .i64 x.f1, .int .i64 x.f2, .slice A3 x.f3.length c3, .slice A4 x.f4.length c4] 45]) 0 r sa _ _ HY5.out rfl HD.out).mono ?_; rintro e w1 ⟨rfl, rfl⟩)) | ((with_reducible go_at_call 10); (have q_ := hi0; clear q_); go_must (refine (is_yes _ _ hi0 hi4).mono ?_; rintro e w' ⟨rfl, rfl⟩)) | ((with_reducible go_at_call 10); (have q_ := hno; clear q_); go_must (refine (is_no _ _ hno).mono ?_; rintro e w' ⟨rfl, rfl⟩)))
              exact ⟨⟨k + 1, _, sa, by go_num, by omega, rfl, Lib.hid (HY5.out.take 1 : Apt w.heap.size _ [tape r sa]), HB, Lib.hid (HFa.out.mono (by omega)), HPI2⟩, by simp [intOf]; omega⟩
            · have HD := Lib.hid hd
              have hn : (st + 1 != n) = false := by have := pinv_eq HPI2.out hd; simpa using this
              by_cases hq : 0 ≤ x.f1 ∧ x.f1 < 4
              · have hi0 := hq.1
                have hi4 := hq.2
                have h9 : ((0 : Int) == 100) = (sa.d && decide (0 ≤ x.f1 ∧ x.f1 < 4)) := HQ.out
                rw [hd, decide_eq_true hq] at h9
                exact absurd h9 (by decide)
              · have hno := hq
                skip
                clear hd hq
                go_wp2_with (first | ((with_reducible go_at_call 21); (have q_ := HY1; clear q_); (have q_ := v4; clear q_); go_must (refine (open_z w.heap.size ([tape r s] ++ [blk g #[.int .i64 x.f0, .int .i64 x.f1, .int .i64 x.f2, .slice A3 x.f3.length c3, .slice A4 x.f4.length c4] 45]) 0 r s x.f1 o0 _ HY1.out rfl HO0.out).mono ?_; rintro e w1 ⟨rfl, rfl⟩; clear v4; have v4 := True.intro)) | ((with_reducible go_at_call 17); (have q_ := HY1; clear q_); go_must (refine (sync_z w.heap.size ([tape r s] ++ [blk g #[.int .i64 x.f0, .int .i64 x.f1, .int .i64 x.f2, .slice A3 x.f3.length c3, .slice A4 x.f4.length c4] 45]) ([tape r sa] ++ [blk g #[.int .i64 x.f0, .int .i64 x.f1, .int .i64 x.f2, .slice A3 x.f3.length c3, .slice A4 x.f4.length c4] 45]) 0 2 r (501 * k) s sa x.f1 0 _ HY1.out rfl HF.out (by omega) HB.out.size HXA.out rfl).mono ?_; rintro e w1 ⟨rfl, hy, hb⟩; clear v0 v1 v2 v3 v4; obtain ⟨v0, v1, v2, v3⟩ := held2 hy; have HY5 : Hid (Apt w.heap.size w1 ([tape r sa] ++ [blk g #[.int .i64 x.f0, .int .i64 x.f1, .int .i64 x.f2, .slice A3 x.f3.length c3, .slice A4 x.f4.length c4] 45])) := Lib.hid hy; clear HY1 hy; have hb_ := HB.out.trans hb; clear HB; have HB := Lib.hid hb_; clear hb_ hb)) | ((with_reducible go_at_call 26); (have q_ := HY5; clear q_); go_must (refine (down_z w.heap.size ([tape r sa] ++ [blk g #[.int .i64 x.f0, .int .i64 x.f1, .int .i64 x.f2, .slice A3 x.f3.length c3, .slice A4 x.f4.length c4] 45]) 0 r sa _ _ HY5.out rfl HD.out).mono ?_; rintro e w1 ⟨rfl, rfl⟩)) | ((with_reducible go_at_call 10); (have q_ := hi0; clear q_); go_must (refine (is_yes _ _ hi0 hi4).mono ?_; rintro e w' ⟨rfl, rfl⟩)) | ((with_reducible go_at_call 10); (have q_ := hno; clear q_); go_must (refine (is_no _ _ hno).mono ?_; rintro e w' ⟨rfl, rfl⟩)))
                exact ⟨⟨k + 1, _, sa, by go_num, by omega, rfl, Lib.hid (HY5.out.take 1 : Apt w.heap.size _ [tape r sa]), HB, Lib.hid (HFa.out.mono (by omega)), HPI2⟩, by simp [intOf]; omega⟩
          · have hka' : (ka == 0) = false := by simpa using hka
            rw [if_neg hka, Int.add_zero] at hp1
            have HPI2 := Lib.hid hp1
            have hle := pinv_le hp1
            clear hp1 hka
            rcases hd : sa.d with _ | _
            · have HD := Lib.hid hd
              have q1 : (ka == 100) = false := by rw [HQ.out, hd]; rfl
              clear hd
              go_wp2_with (first | ((with_reducible go_at_call 21); (have q_ := HY1; clear q_); (have q_ := v4; clear q_); go_must (refine (open_z w.heap.size ([tape r s] ++ [blk g #[.int .i64 x.f0, .int .i64 x.f1, .int .i64 x.f2, .slice A3 x.f3.length c3, .slice A4 x.f4.length c4] 45]) 0 r s x.f1 o0 _ HY1.out rfl HO0.out).mono ?_; rintro e w1 ⟨rfl, rfl⟩; clear v4; have v4 := True.intro)) | ((with_reducible go_at_call 17); (have q_ := HY1; clear q_); go_must (refine (sync_z w.heap.size ([tape r s] ++ [blk g #[.int .i64 x.f0, .int .i64 x.f1, .int .i64 x.f2, .slice A3 x.f3.length c3, .slice A4 x.f4.length c4] 45]) ([tape r sa] ++ [blk g #[.int .i64 x.f0, .int .i64 x.f1, .int .i64 x.f2, .slice A3 x.f3.length c3, .slice A4 x.f4.length c4] 45]) 0 2 r (501 * k) s sa x.f1 ka _ HY1.out rfl HF.out (by omega) HB.out.size HXA.out rfl).mono ?_; rintro e w1 ⟨rfl, hy, hb⟩; clear v0 v1 v2 v3 v4; obtain ⟨v0, v1, v2, v3⟩ := held2 hy; have HY5 : Hid (Apt w.heap.size w1 ([tape r sa] ++ [blk g #[.int .i64 x.f0, .int .i64 x.f1, .int .i64 x.f2, .slice A3 x.f3.length c3, .slice A4 x.f4.length c4] 45])) := Lib.hid hy; clear HY1 hy; have hb_ := HB.out.trans hb; clear HB; have HB := Lib.hid hb_; clear hb_ hb)) | ((with_reducible go_at_call 26); (have q_ := HY5; clear q_); go_must (refine (down_z w.heap.size ([tape r sa] ++ [blk g #[.int .i64 x.f0, .int .i64 x.f1, .int .i64 x.f2, .slice A3 x.f3.length c3, .slice A4 x.f4.length c4] 45]) 0 r sa _ _ HY5.out rfl HD.out).mono ?_; rintro e w1 ⟨rfl, rfl⟩)) | ((with_reducible go_at_call 10); (have q_ := hi0; clear q_); go_must (refine (is_yes _ _ hi0 hi4).mono ?_; rintro e w' ⟨rfl, rfl⟩)) | ((with_reducible go_at_call 10); (have q_ := hno; clear q_); go_must (refine (is_no _ _ hno).mono ?_; rintro e w' ⟨rfl, rfl⟩)))
              exact ⟨⟨k + 1, _, sa, by go_num, by omega, rfl, Lib.hid (HY5.out.take 1 : Apt w.heap.size _ [tape r sa]), HB, Lib.hid (HFa.out.mono (by omega)), HPI2⟩, by simp [intOf]; omega⟩
            · have HD := Lib.hid hd
              have hn : (st != n) = false := by have := pinv_eq HPI2.out hd; simpa using this
              by_cases hq : 0 ≤ x.f1 ∧ x.f1 < 4
              · have hi0 := hq.1
                have hi4 := hq.2
                have q1 : (ka == 100) = true := by rw [HQ.out, hd, decide_eq_true hq]; rfl
                clear hd hq
                go_wp2_with (first | ((with_reducible go_at_call 21); (have q_ := HY1; clear q_); (have q_ := v4; clear q_); go_must (refine (open_z w.heap.size ([tape r s] ++ [blk g #[.int .i64 x.f0, .int .i64 x.f1, .int .i64 x.f2, .slice A3 x.f3.length c3, .slice A4 x.f4.length c4] 45]) 0 r s x.f1 o0 _ HY1.out rfl HO0.out).mono ?_; rintro e w1 ⟨rfl, rfl⟩; clear v4; have v4 := True.intro)) | ((with_reducible go_at_call 17); (have q_ := HY1; clear q_); go_must (refine (sync_z w.heap.size ([tape r s] ++ [blk g #[.int .i64 x.f0, .int .i64 x.f1, .int .i64 x.f2, .slice A3 x.f3.length c3, .slice A4 x.f4.length c4] 45]) ([tape r sa] ++ [blk g #[.int .i64 x.f0, .int .i64 x.f1, .int .i64 x.f2, .slice A3 x.f3.length c3, .slice A4 x.f4.length c4] 45]) 0 2 r (501 * k) s sa x.f1 ka _ HY1.out rfl HF.out (by omega) HB.out.size HXA.out rfl).mono ?_; rintro e w1 ⟨rfl, hy, hb⟩; clear v0 v1 v2 v3 v4; obtain ⟨v0, v1, v2, v3⟩ := held2 hy; have HY5 : Hid (Apt w.heap.size w1 ([tape r sa] ++ [blk g #[.int .i64 x.f0, .int .i64 x.f1, .int .i64 x.f2, .slice A3 x.f3.length c3, .slice A4 x.f4.length c4] 45])) := Lib.hid hy; clear HY1 hy; have hb_ := HB.out.trans hb; clear HB; have HB := Lib.hid hb_; clear hb_ hb)) | ((with_reducible go_at_call 26); (have q_ := HY5; clear q_); go_must (refine (down_z w.heap.size ([tape r sa] ++ [blk g #[.int .i64 x.f0, .int .i64 x.f1, .int .i64 x.f2, .slice A3 x.f3.length c3, .slice A4 x.f4.length c4] 45]) 0 r sa _ _ HY5.out rfl HD.out).mono ?_; rintro e w1 ⟨rfl, rfl⟩)) | ((with_reducible go_at_call 10); (have q_ := hi0; clear q_); go_must (refine (is_yes _ _ hi0 hi4).mono ?_; rintro e w' ⟨rfl, rfl⟩)) | ((with_reducible go_at_call 10); (have q_ := hno; clear q_); go_must (refine (is_no _ _ hno).mono ?_; rintro e w' ⟨rfl, rfl⟩)))
                exact ⟨⟨k + 1, _, sa, by go_num, by omega, rfl, Lib.hid (HY5.out.take 1 : Apt w.heap.size _ [tape r sa]), HB, Lib.hid (HFa.out.mono (by omega)), HPI2⟩, by simp [intOf]; omega⟩
              · have hno := hq
                have q1 : (ka == 100) = false := by rw [HQ.out, decide_eq_false hq, Bool.and_false]
                clear hd hq
                go_wp2_with (first | ((with_reducible go_at_call 21); (have q_ := HY1; clear q_); (have q_ := v4; clear q_); go_must (refine (open_z w.heap.size ([tape r s] ++ [blk g #[.int .i64 x.f0, .int .i64 x.f1, .int .i64 x.f2, .slice A3 x.f3.length c3, .slice A4 x.f4.length c4] 45]) 0 r s x.f1 o0 _ HY1.out rfl HO0.out).mono ?_; rintro e w1 ⟨rfl, rfl⟩; clear v4; have v4 := True.intro)) | ((with_reducible go_at_call 17); (have q_ := HY1; clear q_); go_must (refine (sync_z w.heap.size ([tape r s] ++ [blk g #[.int .i64 x.f0, .int .i64 x.f1, .int .i64 x.f2, .slice A3 x.f3.length c3, .slice A4 x.f4.length c4] 45]) ([tape r sa] ++ [blk g #[.int .i64 x.f0, .int .i64 x.f1, .int .i64 x.f2, .slice A3 x.f3.length c3, .slice A4 x.f4.length c4] 45]) 0 2 r (501 * k) s sa x.f1 ka _ HY1.out rfl HF.out (by omega) HB.out.size HXA.out rfl).mono ?_; rintro e w1 ⟨rfl, hy, hb⟩; clear v0 v1 v2 v3 v4; obtain ⟨v0, v1, v2, v3⟩ := held2 hy; have HY5 : Hid (Apt w.heap.size w1 ([tape r sa] ++ [blk g #[.int .i64 x.f0, .int .i64 x.f1, .int .i64 x.f2, .slice A3 x.f3.length c3, .slice A4 x.f4.length c4] 45])) := Lib.hid hy; clear HY1 hy; have hb_ := HB.out.trans hb; clear HB; have HB := Lib.hid hb_; clear hb_ hb)) | ((with_reducible go_at_call 26); (have q_ := HY5; clear q_); go_must (refine (down_z w.heap.size ([tape r sa] ++ [blk g #[.int .i64 x.f0, .int .i64 x.f1, .int .i64 x.f2, .slice A3 x.f3.length c3, .slice A4 x.f4.length c4] 45]) 0 r sa _ _ HY5.out rfl HD.out).mono ?_; rintro e w1 ⟨rfl, rfl⟩)) | ((with_reducible go_at_call 10); (have q_ := hi0; clear q_); go_must (refine (is_yes _ _ hi0 hi4).mono ?_; rintro e w' ⟨rfl, rfl⟩)) | ((with_reducible go_at_call 10); (have q_ := hno; clear q_); go_must (refine (is_no _ _ hno).mono ?_; rintro e w' ⟨rfl, rfl⟩)))
                exact ⟨⟨k + 1, _, sa, by go_num, by omega, rfl, Lib.hid (HY5.out.take 1 : Apt w.heap.size _ [tape r sa]), HB, Lib.hid (HFa.out.mono (by omega)), HPI2⟩, by simp [intOf]; omega⟩
        · have k2' : (x.f0 == 2) = false := by simpa using k2
          have HPI2 := HPI
          have hle := pinv_le HPI.out
          have HFa : Hid (Fine (501 * k + 501) s) := Lib.hid (HF.out.mono (by omega))
          by_cases k3 : x.f0 < 0
          · have k3' : decide (0 ≤ x.f0) = false := decide_eq_false (by omega)
            clear k0 k1 k2 k3
            rcases hd : s.d with _ | _
            · have HD := Lib.hid hd
              skip
              clear hd
              go_wp2_with (first | ((with_reducible go_at_call 21); (have q_ := HY1; clear q_); (have q_ := v4; clear q_); go_must (refine (open_z w.heap.size ([tape r s] ++ [blk g #[.int .i64 x.f0, .int .i64 x.f1, .int .i64 x.f2, .slice A3 x.f3.length c3, .slice A4 x.f4.length c4] 45]) 0 r s x.f1 o0 _ HY1.out rfl HO0.out).mono ?_; rintro e w1 ⟨rfl, rfl⟩; clear v4; have v4 := True.intro)) | ((with_reducible go_at_call 26); go_must (refine (down_z w.heap.size ([tape r s] ++ [blk g #[.int .i64 x.f0, .int .i64 x.f1, .int .i64 x.f2, .slice A3 x.f3.length c3, .slice A4 x.f4.length c4] 45]) 0 r s _ _ HY1.out rfl HD.out).mono ?_; rintro e w1 ⟨rfl, rfl⟩)) | ((with_reducible go_at_call 10); (have q_ := hi0; clear q_); go_must (refine (is_yes _ _ hi0 hi4).mono ?_; rintro e w' ⟨rfl, rfl⟩)) | ((with_reducible go_at_call 10); (have q_ := hno; clear q_); go_must (refine (is_no _ _ hno).mono ?_; rintro e w' ⟨rfl, rfl⟩)))
              exact ⟨⟨k + 1, st, s, by go_num, by omega, by simp, Lib.hid (HY1.out.take 1 : Apt w.heap.size _ [tape r s]), HB, Lib.hid (HFa.out.mono (by omega)), HPI2⟩, by simp [intOf]; omega⟩
            · have HD := Lib.hid hd
              have hn : (st != n) = false := by have := pinv_eq HPI2.out hd; simpa using this
              by_cases hq : 0 ≤ x.f1 ∧ x.f1 < 4
              · have hi0 := hq.1
                have hi4 := hq.2
                skip
                clear hd hq
                go_wp2_with (first | ((with_reducible go_at_call 21); (have q_ := HY1; clear q_); (have q_ := v4; clear q_); go_must (refine (open_z w.heap.size ([tape r s] ++ [blk g #[.int .i64 x.f0, .int .i64 x.f1, .int .i64 x.f2, .slice A3 x.f3.length c3, .slice A4 x.f4.length c4] 45]) 0 r s x.f1 o0 _ HY1.out rfl HO0.out).mono ?_; rintro e w1 ⟨rfl, rfl⟩; clear v4; have v4 := True.intro)) | ((with_reducible go_at_call 26); go_must (refine (down_z w.heap.size ([tape r s] ++ [blk g #[.int .i64 x.f0, .int .i64 x.f1, .int .i64 x.f2, .slice A3 x.f3.length c3, .slice A4 x.f4.length c4] 45]) 0 r s _ _ HY1.out rfl HD.out).mono ?_; rintro e w1 ⟨rfl, rfl⟩)) | ((with_reducible go_at_call 10); (have q_ := hi0; clear q_); go_must (refine (is_yes _ _ hi0 hi4).mono ?_; rintro e w' ⟨rfl, rfl⟩)) | ((with_reducible go_at_call 10); (have q_ := hno; clear q_); go_must (refine (is_no _ _ hno).mono ?_; rintro e w' ⟨rfl, rfl⟩)))
                exact ⟨⟨k + 1, st, s, by go_num, by omega, by simp, Lib.hid (HY1.out.take 1 : Apt w.heap.size _ [tape r s]), HB, Lib.hid (HFa.out.mono (by omega)), HPI2⟩, by simp [intOf]; omega⟩
              · have hno := hq
                skip
                clear hd hq
                go_wp2_with (first | ((with_reducible go_at_call 21); (have q_ := HY1; clear q_); (have q_ := v4; clear q_); go_must (refine (open_z w.heap.size ([tape r s] ++ [blk g #[.int .i64 x.f0, .int .i64 x.f1, .int .i64 x.f2, .slice A3 x.f3.length c3, .slice A4 x.f4.length c4] 45]) 0 r s x.f1 o0 _ HY1.out rfl HO0.out).mono ?_; rintro e w1 ⟨rfl, rfl⟩; clear v4; have v4 := True.intro)) | ((with_reducible go_at_call 26); go_must (refine (down_z w.heap.size ([tape r s] ++ [blk g #[.int .i64 x.f0, .int .i64 x.f1, .int .i64 x.f2, .slice A3 x.f3.length c3, .slice A4 x.f4.length c4] 45]) 0 r s _ _ HY1.out rfl HD.out).mono ?_; rintro e w1 ⟨rfl, rfl⟩)) | ((with_reducible go_at_call 10); (have q_ := hi0; clear q_); go_must (refine (is_yes _ _ hi0 hi4).mono ?_; rintro e w' ⟨rfl, rfl⟩)) | ((with_reducible go_at_call 10); (have q_ := hno; clear q_); go_must (refine (is_no _ _ hno).mono ?_; rintro e w' ⟨rfl, rfl⟩)))
                exact ⟨⟨k + 1, st, s, by go_num, by omega, by simp, Lib.hid (HY1.out.take 1 : Apt w.heap.size _ [tape r s]), HB, Lib.hid (HFa.out.mono (by omega)), HPI2⟩, by simp [intOf]; omega⟩
          · have k3' : 0 ≤ x.f0 := by omega
            have k4' : decide (x.f0 ≤ 2) = false := decide_eq_false (by omega)
            clear k0 k1 k2 k3
            rcases hd : s.d with _ | _
            · have HD := Lib.hid hd
              skip
              clear hd
              go_wp2_with (first | ((with_reducible go_at_call 21); (have q_ := HY1; clear q_); (have q_ := v4; clear q_); go_must (refine (open_z w.heap.size ([tape r s] ++ [blk g #[.int .i64 x.f0, .int .i64 x.f1, .int .i64 x.f2, .slice A3 x.f3.length c3, .slice A4 x.f4.length c4] 45]) 0 r s x.f1 o0 _ HY1.out rfl HO0.out).mono ?_; rintro e w1 ⟨rfl, rfl⟩; clear v4; have v4 := True.intro)) | ((with_reducible go_at_call 26); go_must (refine (down_z w.heap.size ([tape r s] ++ [blk g #[.int .i64 x.f0, .int .i64 x.f1, .int .i64 x.f2, .slice A3 x.f3.length c3, .slice A4 x.f4.length c4] 45]) 0 r s _ _ HY1.out rfl HD.out).mono ?_; rintro e w1 ⟨rfl, rfl⟩)) | ((with_reducible go_at_call 10); (have q_ := hi0; clear q_); go_must (refine (is_yes _ _ hi0 hi4).mono ?_; rintro e w' ⟨rfl, rfl⟩)) | ((with_reducible go_at_call 10); (have q_ := hno; clear q_); go_must (refine (is_no _ _ hno).mono ?_; rintro e w' ⟨rfl, rfl⟩)))
              exact ⟨⟨k + 1, st, s, by go_num, by omega, by simp, Lib.hid (HY1.out.take 1 : Apt w.heap.size _ [tape r s]), HB, Lib.hid (HFa.out.mono (by omega)), HPI2⟩, by simp [intOf]; omega⟩
            · have HD := Lib.hid hd
              have hn : (st != n) = false := by have := pinv_eq HPI2.out hd; simpa using this
              by_cases hq : 0 ≤ x.f1 ∧ x.f1 < 4
              · have hi0 := hq.1
                have hi4 := hq.2
                skip
                clear hd hq
                go_wp2_with (first | ((with_reducible go_at_call 21); (have q_ := HY1; clear q_); (have q_ := v4; clear q_); go_must (refine (open_z w.heap.size ([tape r s] ++ [blk g #[.int .i64 x.f0, .int .i64 x.f1, .int .i64 x.f2, .slice A3 x.f3.length c3, .slice A4 x.f4.length c4] 45]) 0 r s x.f1 o0 _ HY1.out rfl HO0.out).mono ?_; rintro e w1 ⟨rfl, rfl⟩; clear v4; have v4 := True.intro)) | ((with_reducible go_at_call 26); go_must (refine (down_z w.heap.size ([tape r s] ++ [blk g #[.int .i64 x.f0, .int .i64 x.f1, .int .i64 x.f2, .slice A3 x.f3.length c3, .slice A4 x.f4.length c4] 45]) 0 r s _ _ HY1.out rfl HD.out).mono ?_; rintro e w1 ⟨rfl, rfl⟩)) | ((with_reducible go_at_call 10); (have q_ := hi0; clear q_); go_must (refine (is_yes _ _ hi0 hi4).mono ?_; rintro e w' ⟨rfl, rfl⟩)) | ((with_reducible go_at_call 10); (have q_ := hno; clear q_); go_must (refine (is_no _ _ hno).mono ?_; rintro e w' ⟨rfl, rfl⟩)))
                exact ⟨⟨k + 1, st, s, by go_num, by omega, by simp, Lib.hid (HY1.out.take 1 : Apt w.heap.size _ [tape r s]), HB, Lib.hid (HFa.out.mono (by omega)), HPI2⟩, by simp [intOf]; omega⟩
              · have hno := hq
                skip
                clear hd hq
                go_wp2_with (first | ((with_reducible go_at_call 21); (have q_ := HY1; clear q_); (have q_ := v4; clear q_); go_must (refine (open_z w.heap.size ([tape r s] ++ [blk g #[.int .i64 x.f0, .int .i64 x.f1, .int .i64 x.f2, .slice A3 x.f3.length c3, .slice A4 x.f4.length c4] 45]) 0 r s x.f1 o0 _ HY1.out rfl HO0.out).mono ?_; rintro e w1 ⟨rfl, rfl⟩; clear v4; have v4 := True.intro)) | ((with_reducible go_at_call 26); go_must (refine (down_z w.heap.size ([tape r s] ++ [blk g #[.int .i64 x.f0, .int .i64 x.f1, .int .i64 x.f2, .slice A3 x.f3.length c3, .slice A4 x.f4.length c4] 45]) 0 r s _ _ HY1.out rfl HD.out).mono ?_; rintro e w1 ⟨rfl, rfl⟩)) | ((with_reducible go_at_call 10); (have q_ := hi0; clear q_); go_must (refine (is_yes _ _ hi0 hi4).mono ?_; rintro e w' ⟨rfl, rfl⟩)) | ((with_reducible go_at_call 10); (have q_ := hno; clear q_); go_must (refine (is_no _ _ hno).mono ?_; rintro e w' ⟨rfl, rfl⟩)))
                exact ⟨⟨k + 1, st, s, by go_num, by omega, by simp, Lib.hid (HY1.out.take 1 : Apt w.heap.size _ [tape r s]), HB, Lib.hid (HFa.out.mono (by omega)), HPI2⟩, by simp [intOf]; omega⟩
  · have hlt' : (l.length : Int) ≤ k := by omega
    go_wp2_with (first | ((with_reducible go_at_call 11); go_must (refine (awake_ok _).mono ?_; rintro e w1 ⟨rfl, hb⟩; have hb_ := below_step HB.out hb; clear HB; have HB := Lib.hid hb_; clear hb_ hb)))
    go_ret
    exact ⟨rfl, HB.out⟩
end Go.Proofs.Ytbccjamcfodeiaa.TapePower
