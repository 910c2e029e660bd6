/- PROVED: the law TapePlays: the walk. No condition beyond what the row opens. -/
import Derived.Test.YtbccjamcfodeiaaTapeH
import Derived.Test.YtbccjamcfodeiaaLRead
import Derived.Test.YtbccjamcfodeiaaWApart
import Derived.Test.YtbccjamcfodeiaaWKept
import Derived.WalkKit
import Derived.WalkSpells
import Derived.WalkLawsBesides
import Derived.WalkMore
import Derived.Outline
import Derived.Lib.Hide
import Derived.BigQuiet
import Derived.Deep.QuietTactic
import Derived.Deep.RegionHeld3
import Derived.Deep.RegionLaw
import Derived.Deep.LoopGhost
import Derived.Deep.DeepCutAuto
namespace Go.Proofs.Ytbccjamcfodeiaa.TapePlays
open Go.RowKit Go.Proofs.Ytbccjamcfodeiaa.PTapePlays Go.Proofs.YtbccjamcfodeiaaW.PrintWords Go.Proofs.YtbccjamcfodeiaaW.PrintLast Go.Proofs.YtbccjamcfodeiaaW.PrintMore
open Go.Proofs.Ytbccjamcfodeiaa.Tape Go.Proofs.Ytbccjamcfodeiaa.Tape2 Go.Proofs.Ytbccjamcfodeiaa.Tape3 Go.Proofs.Ytbccjamcfodeiaa.Tape4 Go.Proofs.Ytbccjamcfodeiaa.Tape5 Go.Proofs.Ytbccjamcfodeiaa.Tape6 Go.Proofs.Ytbccjamcfodeiaa.Tape7 Go.Proofs.Ytbccjamcfodeiaa.Tape8 Go.Proofs.Ytbccjamcfodeiaa.Tape9
open Go.Proofs.Ytbccjamcfodeiaa.TapeW Go.Proofs.Ytbccjamcfodeiaa.TapeF Go.Proofs.Ytbccjamcfodeiaa.TapeP Go.Proofs.Ytbccjamcfodeiaa.TapeP2 Go.Proofs.Ytbccjamcfodeiaa.RTape
open Go.Proofs.Ytbccjamcfodeiaa.RTape2 Go.Proofs.Ytbccjamcfodeiaa.RTape3 Go.Proofs.Ytbccjamcfodeiaa.RTape4 Go.Proofs.Ytbccjamcfodeiaa.RTape5 Go.Proofs.Ytbccjamcfodeiaa.TapeG Go.Proofs.Ytbccjamcfodeiaa.TapeH
set_option linter.unusedSimpArgs false
set_option linter.unusedVariables false
theorem down_z (base : Nat) (ts : List Thing) (i r : Nat) (s : TS) (d : Bool) (w : World) (h : Apt base w ts) (hi : ts[i]? = some (tape r s)) (hd : s.d = d) : Calls Try.prog 26 #[.pointer (some ⟨r, 0, none⟩)] w fun e w' => e = .returned (.bool d) ∧ w = w' := by
  subst hd
  exact down_y base ts i r s w h hi
set_option maxHeartbeats 4000000 in
set_option maxRecDepth 100000 in
theorem plays_walk (A : Option Addr) (cap : Nat) (l : List S45) (w : World) (hC : Kd.C k45 w A l.length l) (hcap : l.length ≤ cap) (hok : ∀ x ∈ l, okC x) :
    Calls Try.prog 7 #[.slice A l.length cap] w fun e w' => e = .returned (.bool true) ∧ Below w.heap.size w w' := by
  have HB := Lib.hid (Below.refl w.heap.size w)
  have HC := Lib.hid hC
  have HOK := Lib.hid hok
  obtain ⟨lb, hlb, hsh⟩ := long_f l
  have HLB := Lib.hid hlb
  have HSH := Lib.hid hsh
  have HY0 := Lib.hid (Apt.none_ w.heap.size w)
  clear hC hok hlb hsh
  rcases lb with _ | _
  rotate_left
  · go_enter Try.func7, Try.ntmps7
    go_wp2_with (first | ((with_reducible go_at_call 15); go_must (refine (long_t l _ A cap _ HLB.out (Kd.C_below HC.out HB.out) hcap).mono ?_; rintro e w1 ⟨rfl, hb⟩; have hy_ := Apt.below HY0.out hb; clear HY0; have HY0 := Lib.hid hy_; clear hy_; have hb_ := below_step HB.out hb; clear HB; have HB := Lib.hid hb_; clear hb_ hb)) | ((with_reducible go_at_call 11); go_must (refine (awake_ok _).mono ?_; rintro e w1 ⟨rfl, hb⟩; have hb_ := below_step HB.out hb; clear HB; have HB := Lib.hid hb_; clear hb_ hb)))
    go_ret
    exact ⟨rfl, HB.out⟩
  have hsh := HSH.out rfl
  clear HSH
  have HSH := Lib.hid hsh
  have hl60 := hsh.1
  clear hsh
  go_enter Try.func7, Try.ntmps7
  go_upto_region 5 with (first | ((with_reducible go_at_call 15); go_must (refine (long_t l _ A cap _ HLB.out (Kd.C_below HC.out HB.out) hcap).mono ?_; rintro e w1 ⟨rfl, hb⟩; have hy_ := Apt.below HY0.out hb; clear HY0; have HY0 := Lib.hid hy_; clear hy_; have hb_ := below_step HB.out hb; clear HB; have HB := Lib.hid hb_; clear hb_ hb)) | ((with_reducible go_at_call 12); (have q_ := HY0; clear q_); go_must (refine (new_y w.heap.size _ _ HY0.out HB.out.size).mono ?_; rintro e w1 ⟨r, rfl, hy, hb⟩; have HY1 : Hid (Apt w.heap.size w1 ([] ++ [tape r newS])) := Lib.hid hy; clear HY0 hy; have hb_ := below_step HB.out hb; clear HB; have HB := Lib.hid hb_; clear hb_ hb)) | ((with_reducible go_at_call 23); (have q_ := HY1; clear q_); go_must (refine (rnew_y w.heap.size ([] ++ [tape r newS]) _ HY1.out HB.out.size).mono ?_; rintro e w1 ⟨r2, rfl, hy, hb⟩; have HY2 : Hid (Apt w.heap.size w1 [tape r newS, rtape r2 newS]) := Lib.hid hy; clear HY1 hy; have hb_ := below_step HB.out hb; clear HB; have HB := Lib.hid hb_; clear hb_ hb)))
  go_loopw [3, 4, 5] (fun u3 u4 u5 wr => ∃ (k r r2 : Nat) (s : TS), u5 = .int .i64 k ∧ k ≤ l.length ∧ u3 = .pointer (some ⟨r, 0, none⟩) ∧ u4 = .pointer (some ⟨r2, 0, none⟩) ∧ Hid (Apt w.heap.size wr [tape r s, rtape r2 s]) ∧ Hid (Below w.heap.size w wr) ∧ Hid (Fine (501 * k) s)) (fun _ _ u5 _ => l.length - (intOf u5).toNat)
  case atStart => exact ⟨0, _, _, newS, rfl, Nat.zero_le _, rfl, rfl, HY2, HB, Lib.hid newS_good⟩
  clear HY2 HB
  obtain ⟨k, r, r2, s, rfl, hk, rfl, rfl, HY1, HB, HF⟩ := hrel
  by_cases hlt : k < l.length
  · have hlt' : (k : Int) < l.length := by omega
    obtain ⟨x, hx⟩ : ∃ x, l[k]? = some x := ⟨_, List.getElem?_eq_getElem hlt⟩
    obtain ⟨b, off, A3, c3, A4, c4, rfl, e0, e1, e2, e3, e4, hc3, hC3, hc4, hC4⟩ := call_in HC.out hx
    have e0 := cell_b HB.out e0
    have e1 := cell_b HB.out e1
    have e2 := cell_b HB.out e2
    have e3 := cell_b HB.out e3
    have e4 := cell_b HB.out e4
    have HXO := Lib.hid (HOK.out x (List.mem_of_getElem? hx))
    have h500 := (HSH.out.2 x (List.mem_of_getElem? hx)).1
    have h10 := (HSH.out.2 x (List.mem_of_getElem? hx)).2
    have HA3 : Hid (∀ a, A3 = some a → 0 < x.f3.length → a.block < w.heap.size) := Lib.hid (by
      intro a ha h0
      obtain ⟨b, off, e, hb, _⟩ := LRead.C_addr hC3 (by decide) h0
      rw [ha] at e
      injection e with e
      rw [e]
      exact hb)
    have HC3 := Lib.hid hC3
    have HC4 := Lib.hid hC4
    have hkk : 501 * k ≤ 40000 := by omega
    clear hx hC3 hC4
    go_upto_region 8 with (fail)
    have hP : Apt w.heap.size (wr.alloc (.cells #[.int .i64 x.f0, .int .i64 x.f1, .int .i64 x.f2, .slice A3 x.f3.length c3, .slice A4 x.f4.length c4] 45)) ([tape r s, rtape r2 s] ++ [blk wr.heap.size #[.int .i64 x.f0, .int .i64 x.f1, .int .i64 x.f2, .slice A3 x.f3.length c3, .slice A4 x.f4.length c4] 45]) ∧ Below w.heap.size w (wr.alloc (.cells #[.int .i64 x.f0, .int .i64 x.f1, .int .i64 x.f2, .slice A3 x.f3.length c3, .slice A4 x.f4.length c4] 45)) :=
      ⟨Apt.add HY1.out (below_alloc (Below.refl _ _) _) ⟨Nat.le_refl _, blk_new wr _⟩, below_step HB.out (below_alloc (Below.refl _ _) _)⟩
    obtain ⟨g, hg⟩ : ∃ g, wr.heap.size = g := ⟨_, rfl⟩
    rw [hg] at hP ⊢
    refine world_gen (P := fun w7 => Apt w.heap.size w7 ([tape r s, rtape r2 s] ++ [blk g #[.int .i64 x.f0, .int .i64 x.f1, .int .i64 x.f2, .slice A3 x.f3.length c3, .slice A4 x.f4.length c4] 45]) ∧ Below w.heap.size w w7) hP (fun w7 h7 => ?_)
    obtain ⟨hy7, hb7⟩ := h7
    obtain ⟨v0, v1, v2, v3, v4⟩ := held5 (l := [tape r s, rtape r2 s]) hy7
    clear hP hg e0 e1 e2 e3 e4 HY1 HB
    have HY1 := Lib.hid hy7
    have HB := Lib.hid hb7
    clear hy7 hb7
    by_cases q0 : x.f0 < 0
    · go_upto_region 11 with (first | ((with_reducible refine gate_dst (N := 32) rfl ?_); (have q_ := HY1; clear q_); refine Kd.R_lit (Kd.int .i64) _ 3 ?hg (N := 32) ?hd (xs := ([] : List (Int))) (inner := []) (ok := fun _ => True) (okp := fun _ => True) ?hr ?hp (fun _ hk => hk) trivial (Below.refl _ _) (Nat.le_refl _) (by simp) ?_; (case hd => rfl); (case hg => rfl); (case hr => first | (go_simp; done) | (go_simp; rfl)); (case hp => exact (Reps.none _ _)); intro vL wL hl hb hg_ hn_; clear hg_ hn_; have HL := Lib.hid hl; have HBL := Lib.hid hb; have v4_ := cell_b hb v4; clear v0 v1 v2 v3 v4; have v4 := v4_; clear v4_ hl hb) | ((with_reducible refine gate_builtin (b := .append) (xs := #[.tmp 32, .tmp 34]) rfl ?_); at_builtin; go_must (refine Kd.R_append_rows (Kd.int .i64) (w0 := _) (_) rfl (.tmp 32) (.tmp 34) 34 3 (.int .i64 0) 8 rfl Try.underlying34 info3 rfl (by decide) (by omega) (vL) ([]) (x.f4) _ _ _ (fun _ => True) (fun _ => False) rfl rfl (HL.out) (Kd.C_below HC4.out (below_step HB.out HBL.out)) (fun x cs h => h) (fun _ h => h.elim) (fun _ _ => trivial) HBL.out HBL.out.size ?aL ?_; (case aL => (simp; omega)); intro vA wA ho hb hg hat; rw [List.nil_append] at ho; obtain ⟨AK, cK, rfl⟩ := Kd.R_slice ho; have HK := Lib.hid (Kd.R_reads' ho); clear v4; have v4 : wA.cell? ⟨g, 4, none⟩ = some (.slice A4 x.f4.length c4) := (blk_cell (blk_at (Apt.below HY1.out hb) (i := 2) rfl) 4).trans rfl; have HY2 : Hid (Apt w.heap.size wA ([tape r s, rtape r2 s] ++ [blk g #[.int .i64 x.f0, .int .i64 x.f1, .int .i64 x.f2, .slice A3 x.f3.length c3, .slice A4 x.f4.length c4] 45])) := Lib.hid (Apt.below HY1.out hb); clear HY1 HL HBL ho hg hat; have hb_ := below_step HB.out hb; clear HB; have HB := Lib.hid hb_; clear hb_ hb)) | ((with_reducible go_at_call 19); (have q_ := HY2; clear q_); go_must (refine (crash_z w.heap.size ([tape r s, rtape r2 s] ++ [blk g #[.int .i64 x.f0, .int .i64 x.f1, .int .i64 x.f2, .slice A3 x.f3.length c3, .slice A4 x.f4.length c4] 45]) 0 r (501 * k) x.f4.length s (crashS s x.f4) AK cK x.f4 _ HY2.out rfl HF.out (by omega) rfl HK.out.2.2 HK.out.2.1 (by omega) HB.out.size rfl).mono ?_; rintro e w1 ⟨r5, rfl, hy, hb⟩; clear v4; have v4 := (blk_cell (blk_at hy (i := 2) rfl) 4).trans rfl; have v4 : w1.cell? ⟨g, 4, none⟩ = some (.slice A4 x.f4.length c4) := v4; have HY3 : Hid (Apt w.heap.size w1 ([tape r s, rtape r2 s] ++ [blk g #[.int .i64 x.f0, .int .i64 x.f1, .int .i64 x.f2, .slice A3 x.f3.length c3, .slice A4 x.f4.length c4] 45] ++ [tape r5 (crashS s x.f4)])) := Lib.hid hy; clear HY2 hy HK; have hb_ := below_step HB.out hb; clear HB; have HB := Lib.hid hb_; clear hb_ hb)) | ((with_reducible go_at_call 24); (have q_ := HY3; clear q_); go_must (refine (rcrash_z w.heap.size ([tape r s, rtape r2 s] ++ [blk g #[.int .i64 x.f0, .int .i64 x.f1, .int .i64 x.f2, .slice A3 x.f3.length c3, .slice A4 x.f4.length c4] 45] ++ [tape r5 (crashS s x.f4)]) 1 r2 (501 * k) x.f4.length s (crashS s x.f4) A4 c4 x.f4 _ HY3.out rfl HF.out (by omega) rfl (Kd.C_below HC4.out HB.out) hc4 (by omega) HB.out.size rfl).mono ?_; rintro e w1 ⟨r6, rfl, hy, hb⟩; clear v4; have HY4 : Hid (Apt w.heap.size w1 ([tape r5 (crashS s x.f4), rtape r6 (crashS s x.f4)] ++ [blk g #[.int .i64 x.f0, .int .i64 x.f1, .int .i64 x.f2, .slice A3 x.f3.length c3, .slice A4 x.f4.length c4] 45])) := Lib.hid (Apt.three hy 3 4 2 _ _ _ rfl rfl rfl (by decide) (by decide) (by decide)); have HFC : Hid (Fine (501 * k) (crashS s x.f4)) := Lib.hid ((crashS_good HF.out x.f4).mono (by omega)); clear HY3 hy; have hb_ := below_step HB.out hb; clear HB; have HB := Lib.hid hb_; clear hb_ hb)))
      obtain ⟨s2, hs2⟩ : ∃ y, doS (crashS s x.f4) x = y := ⟨_, rfl⟩
      have HFT := Lib.hid (doS_fine HFC.out x HXO.out h500)
      rw [hs2] at HFT
      have HS2 := Lib.hid hs2
      obtain ⟨dd, hdd⟩ : ∃ y, s2.d = y := ⟨_, rfl⟩
      have HDD := Lib.hid hdd
      clear hs2 hdd; (try clear v0 v1 v2 v3 v4); (try clear v4)
      obtain ⟨v0, v1, v2, v3, v4⟩ := held5 (l := [tape r5 (crashS s x.f4), rtape r6 (crashS s x.f4)]) HY4.out
      go_region_law (first | (go_simp; (with_reducible go_at_call 25); (have q_ := HY4; clear q_); go_must (have q9 := does_y w.heap.size r5 r6 (501 * k) (crashS s x.f4) [blk g #[.int .i64 x.f0, .int .i64 x.f1, .int .i64 x.f2, .slice A3 x.f3.length c3, .slice A4 x.f4.length c4] 45] x A3 A4 c3 c4 _ (Apt.below HY4.out (below_drew1 (Below.refl _ _))) HFC.out (by omega) HB.out.size HXO.out h500 (Kd.C_below HC3.out (below_drew1 HB.out)) hc3 HA3.out; rw [HS2.out] at q9; refine q9.mono ?_; clear q9; rintro e w1 ⟨rfl, hy, hb⟩; have x9 := gone_at hy (i := 1) rfl; rw [HDD.out] at x9; have HYz := Lib.hid hy; have hb_ := (below_drew1 HB.out).trans hb; clear HY4 hy HB; (try clear v0 v1 v2 v3 v4); have HB := Lib.hid hb_; clear hb_ hb)) | (go_simp; (with_reducible go_at_call 26); (have q_ := HYz; clear q_); go_must (refine (down_z w.heap.size (tape r5 s2 :: rtape r6 s2 :: [blk g #[.int .i64 x.f0, .int .i64 x.f1, .int .i64 x.f2, .slice A3 x.f3.length c3, .slice A4 x.f4.length c4] 45]) 0 r5 s2 dd _ HYz.out rfl HDD.out).mono ?_; rintro e w1 ⟨rfl, rfl⟩)))
      all_goals
        go_wp2
        exact ⟨⟨k + 1, r5, r6, s2, by go_num, by omega, rfl, rfl, Lib.hid (HYz.out.take 2 : Apt w.heap.size _ [tape r5 s2, rtape r6 s2]), HB, Lib.hid (HFT.out.mono (by omega))⟩, by simp [intOf]; omega⟩
    by_cases q4 : 4 < x.f0
    · have q0' : 0 ≤ x.f0 := by omega
      go_upto_region 11 with (first | ((with_reducible refine gate_dst (N := 32) rfl ?_); (have q_ := HY1; clear q_); refine Kd.R_lit (Kd.int .i64) _ 3 ?hg (N := 32) ?hd (xs := ([] : List (Int))) (inner := []) (ok := fun _ => True) (okp := fun _ => True) ?hr ?hp (fun _ hk => hk) trivial (Below.refl _ _) (Nat.le_refl _) (by simp) ?_; (case hd => rfl); (case hg => rfl); (case hr => first | (go_simp; done) | (go_simp; rfl)); (case hp => exact (Reps.none _ _)); intro vL wL hl hb hg_ hn_; clear hg_ hn_; have HL := Lib.hid hl; have HBL := Lib.hid hb; have v4_ := cell_b hb v4; clear v0 v1 v2 v3 v4; have v4 := v4_; clear v4_ hl hb) | ((with_reducible refine gate_builtin (b := .append) (xs := #[.tmp 32, .tmp 34]) rfl ?_); at_builtin; go_must (refine Kd.R_append_rows (Kd.int .i64) (w0 := _) (_) rfl (.tmp 32) (.tmp 34) 34 3 (.int .i64 0) 8 rfl Try.underlying34 info3 rfl (by decide) (by omega) (vL) ([]) (x.f4) _ _ _ (fun _ => True) (fun _ => False) rfl rfl (HL.out) (Kd.C_below HC4.out (below_step HB.out HBL.out)) (fun x cs h => h) (fun _ h => h.elim) (fun _ _ => trivial) HBL.out HBL.out.size ?aL ?_; (case aL => (simp; omega)); intro vA wA ho hb hg hat; rw [List.nil_append] at ho; obtain ⟨AK, cK, rfl⟩ := Kd.R_slice ho; have HK := Lib.hid (Kd.R_reads' ho); clear v4; have v4 : wA.cell? ⟨g, 4, none⟩ = some (.slice A4 x.f4.length c4) := (blk_cell (blk_at (Apt.below HY1.out hb) (i := 2) rfl) 4).trans rfl; have HY2 : Hid (Apt w.heap.size wA ([tape r s, rtape r2 s] ++ [blk g #[.int .i64 x.f0, .int .i64 x.f1, .int .i64 x.f2, .slice A3 x.f3.length c3, .slice A4 x.f4.length c4] 45])) := Lib.hid (Apt.below HY1.out hb); clear HY1 HL HBL ho hg hat; have hb_ := below_step HB.out hb; clear HB; have HB := Lib.hid hb_; clear hb_ hb)) | ((with_reducible go_at_call 19); (have q_ := HY2; clear q_); go_must (refine (crash_z w.heap.size ([tape r s, rtape r2 s] ++ [blk g #[.int .i64 x.f0, .int .i64 x.f1, .int .i64 x.f2, .slice A3 x.f3.length c3, .slice A4 x.f4.length c4] 45]) 0 r (501 * k) x.f4.length s (crashS s x.f4) AK cK x.f4 _ HY2.out rfl HF.out (by omega) rfl HK.out.2.2 HK.out.2.1 (by omega) HB.out.size rfl).mono ?_; rintro e w1 ⟨r5, rfl, hy, hb⟩; clear v4; have v4 := (blk_cell (blk_at hy (i := 2) rfl) 4).trans rfl; have v4 : w1.cell? ⟨g, 4, none⟩ = some (.slice A4 x.f4.length c4) := v4; have HY3 : Hid (Apt w.heap.size w1 ([tape r s, rtape r2 s] ++ [blk g #[.int .i64 x.f0, .int .i64 x.f1, .int .i64 x.f2, .slice A3 x.f3.length c3, .slice A4 x.f4.length c4] 45] ++ [tape r5 (crashS s x.f4)])) := Lib.hid hy; clear HY2 hy HK; have hb_ := below_step HB.out hb; clear HB; have HB := Lib.hid hb_; clear hb_ hb)) | ((with_reducible go_at_call 24); (have q_ := HY3; clear q_); go_must (refine (rcrash_z w.heap.size ([tape r s, rtape r2 s] ++ [blk g #[.int .i64 x.f0, .int .i64 x.f1, .int .i64 x.f2, .slice A3 x.f3.length c3, .slice A4 x.f4.length c4] 45] ++ [tape r5 (crashS s x.f4)]) 1 r2 (501 * k) x.f4.length s (crashS s x.f4) A4 c4 x.f4 _ HY3.out rfl HF.out (by omega) rfl (Kd.C_below HC4.out HB.out) hc4 (by omega) HB.out.size rfl).mono ?_; rintro e w1 ⟨r6, rfl, hy, hb⟩; clear v4; have HY4 : Hid (Apt w.heap.size w1 ([tape r5 (crashS s x.f4), rtape r6 (crashS s x.f4)] ++ [blk g #[.int .i64 x.f0, .int .i64 x.f1, .int .i64 x.f2, .slice A3 x.f3.length c3, .slice A4 x.f4.length c4] 45])) := Lib.hid (Apt.three hy 3 4 2 _ _ _ rfl rfl rfl (by decide) (by decide) (by decide)); have HFC : Hid (Fine (501 * k) (crashS s x.f4)) := Lib.hid ((crashS_good HF.out x.f4).mono (by omega)); clear HY3 hy; have hb_ := below_step HB.out hb; clear HB; have HB := Lib.hid hb_; clear hb_ hb)))
      obtain ⟨s2, hs2⟩ : ∃ y, doS (crashS s x.f4) x = y := ⟨_, rfl⟩
      have HFT := Lib.hid (doS_fine HFC.out x HXO.out h500)
      rw [hs2] at HFT
      have HS2 := Lib.hid hs2
      obtain ⟨dd, hdd⟩ : ∃ y, s2.d = y := ⟨_, rfl⟩
      have HDD := Lib.hid hdd
      clear hs2 hdd; (try clear v0 v1 v2 v3 v4); (try clear v4)
      obtain ⟨v0, v1, v2, v3, v4⟩ := held5 (l := [tape r5 (crashS s x.f4), rtape r6 (crashS s x.f4)]) HY4.out
      go_region_law (first | (go_simp; (with_reducible go_at_call 25); (have q_ := HY4; clear q_); go_must (have q9 := does_y w.heap.size r5 r6 (501 * k) (crashS s x.f4) [blk g #[.int .i64 x.f0, .int .i64 x.f1, .int .i64 x.f2, .slice A3 x.f3.length c3, .slice A4 x.f4.length c4] 45] x A3 A4 c3 c4 _ (Apt.below HY4.out (below_drew1 (Below.refl _ _))) HFC.out (by omega) HB.out.size HXO.out h500 (Kd.C_below HC3.out (below_drew1 HB.out)) hc3 HA3.out; rw [HS2.out] at q9; refine q9.mono ?_; clear q9; rintro e w1 ⟨rfl, hy, hb⟩; have x9 := gone_at hy (i := 1) rfl; rw [HDD.out] at x9; have HYz := Lib.hid hy; have hb_ := (below_drew1 HB.out).trans hb; clear HY4 hy HB; (try clear v0 v1 v2 v3 v4); have HB := Lib.hid hb_; clear hb_ hb)) | (go_simp; (with_reducible go_at_call 26); (have q_ := HYz; clear q_); go_must (refine (down_z w.heap.size (tape r5 s2 :: rtape r6 s2 :: [blk g #[.int .i64 x.f0, .int .i64 x.f1, .int .i64 x.f2, .slice A3 x.f3.length c3, .slice A4 x.f4.length c4] 45]) 0 r5 s2 dd _ HYz.out rfl HDD.out).mono ?_; rintro e w1 ⟨rfl, rfl⟩)))
      all_goals
        go_wp2
        exact ⟨⟨k + 1, r5, r6, s2, by go_num, by omega, rfl, rfl, Lib.hid (HYz.out.take 2 : Apt w.heap.size _ [tape r5 s2, rtape r6 s2]), HB, Lib.hid (HFT.out.mono (by omega))⟩, by simp [intOf]; omega⟩
    · have q0' : 0 ≤ x.f0 := by omega
      have q4' : x.f0 ≤ 4 := by omega
      go_upto_region 11 with (fail)
      obtain ⟨s2, hs2⟩ : ∃ y, doS s x = y := ⟨_, rfl⟩
      have HFT := Lib.hid (doS_fine HF.out x HXO.out h500)
      rw [hs2] at HFT
      have HS2 := Lib.hid hs2
      obtain ⟨dd, hdd⟩ : ∃ y, s2.d = y := ⟨_, rfl⟩
      have HDD := Lib.hid hdd
      clear hs2 hdd; (try clear v0 v1 v2 v3 v4); (try clear v4)
      obtain ⟨v0, v1, v2, v3, v4⟩ := held5 (l := [tape r s, rtape r2 s]) HY1.out
      go_region_law (first | (go_simp; (with_reducible go_at_call 25); (have q_ := HY1; clear q_); go_must (have q9 := does_y w.heap.size r r2 (501 * k) s [blk g #[.int .i64 x.f0, .int .i64 x.f1, .int .i64 x.f2, .slice A3 x.f3.length c3, .slice A4 x.f4.length c4] 45] x A3 A4 c3 c4 _ (Apt.below HY1.out (below_drew1 (Below.refl _ _))) HF.out (by omega) HB.out.size HXO.out h500 (Kd.C_below HC3.out (below_drew1 HB.out)) hc3 HA3.out; rw [HS2.out] at q9; refine q9.mono ?_; clear q9; rintro e w1 ⟨rfl, hy, hb⟩; have x9 := gone_at hy (i := 1) rfl; rw [HDD.out] at x9; have HYz := Lib.hid hy; have hb_ := (below_drew1 HB.out).trans hb; clear HY1 hy HB; (try clear v0 v1 v2 v3 v4); have HB := Lib.hid hb_; clear hb_ hb)) | (go_simp; (with_reducible go_at_call 26); (have q_ := HYz; clear q_); go_must (refine (down_z w.heap.size (tape r s2 :: rtape r2 s2 :: [blk g #[.int .i64 x.f0, .int .i64 x.f1, .int .i64 x.f2, .slice A3 x.f3.length c3, .slice A4 x.f4.length c4] 45]) 0 r s2 dd _ HYz.out rfl HDD.out).mono ?_; rintro e w1 ⟨rfl, rfl⟩)))
      all_goals
        go_wp2
        exact ⟨⟨k + 1, r, r2, s2, by go_num, by omega, rfl, rfl, Lib.hid (HYz.out.take 2 : Apt w.heap.size _ [tape r s2, rtape r2 s2]), HB, Lib.hid (HFT.out.mono (by omega))⟩, by simp [intOf]; omega⟩
  · have hlt' : (l.length : Int) ≤ k := by omega
    go_upto_region 14 with (fail)
    go_loopw [7] (fun u7 wr => ∃ (i : Nat), u7 = .int .i64 i ∧ i ≤ 4 ∧ Hid (Apt w.heap.size wr [tape r s, rtape r2 s]) ∧ Hid (Below w.heap.size w wr)) (fun u7 _ => 4 - (intOf u7).toNat)
    case atStart => exact ⟨0, rfl, by omega, HY1, HB⟩
    clear HY1 HB
    obtain ⟨i, rfl, hi4, HY1, HB⟩ := hrel
    by_cases hi : i < 4
    · have hiI : (i : Int) < 4 := by omega
      go_wp2_with (first | ((with_reducible go_at_call 27); go_must (refine (same_t w.heap.size r r2 (501 * k) s [] i _ HY1.out HF.out (by omega) HB.out.size).mono ?_; rintro e w1 ⟨rfl, hy, hb⟩; clear HY1; have HY1 : Hid (Apt w.heap.size w1 [tape r s, rtape r2 s]) := Lib.hid hy; clear hy; have hb_ := below_step HB.out hb; clear HB; have HB := Lib.hid hb_; clear hb_ hb)))
      exact ⟨⟨i + 1, by go_num, by omega, HY1, HB⟩, by simp [intOf]; omega⟩
    · have hiI : (4 : Int) ≤ i := by omega
      go_wp2_with (first | ((with_reducible go_at_call 11); go_must (refine (awake_ok _).mono ?_; rintro e w1 ⟨rfl, hb⟩; have hb_ := below_step HB.out hb; clear HB; have HB := Lib.hid hb_; clear hb_ hb)))
      go_ret
      exact ⟨rfl, HB.out⟩
end Go.Proofs.Ytbccjamcfodeiaa.TapePlays
