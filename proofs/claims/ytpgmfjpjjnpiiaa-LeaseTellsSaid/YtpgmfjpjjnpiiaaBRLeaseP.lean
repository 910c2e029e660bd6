/- PROVED: lemmas that the row uses (cut copies of my texts and of the printed ones). No condition beyond what each line says. -/
import Derived.Test.YtpgmfjpjjnpiiaaBRLeaseC
import Derived.Test.YtpgmfjpjjnpiiaaBRLeaseD
import Derived.Test.YtpgmfjpjjnpiiaaBRLeaseE
import Derived.Test.YtpgmfjpjjnpiiaaBRLeaseG
import Derived.Test.YtpgmfjpjjnpiiaaBLeaseQ
import Derived.Test.YtpgmfjpjjnpiiaaBRLeaseH
import Derived.Test.YtpgmfjpjjnpiiaaBRLeaseF
import Derived.Test.YtpgmfjpjjnpiiaaBRLeaseB
import Derived.Test.YtpgmfjpjjnpiiaaBRLeaseA
import Derived.Test.YtpgmfjpjjnpiiaaBLeaseO
import Derived.Test.YtpgmfjpjjnpiiaaBLeaseM
import Derived.Test.YtpgmfjpjjnpiiaaBLeaseN
import Derived.Test.YtpgmfjpjjnpiiaaBXA
import Derived.Test.YtpgmfjpjjnpiiaaBLeaseE
import Derived.Test.YtpgmfjpjjnpiiaaBLeaseK
import Derived.Test.YtpgmfjpjjnpiiaaBWAll
import Derived.WalkKit
import Derived.WalkSpells
import Derived.WalkLawsBesides
import Derived.Outline
import Derived.Lib.Hide
import Derived.Deep.LoopGhost
import Derived.Deep.RegionHeld3
import Derived.Deep.DeepCutAuto
import Derived.Deep.RegionLaw
import Derived.BigQuiet
import Derived.Deep.QuietTactic
namespace Go.Proofs.Ytpgmfjpjjnpiiaa.RLeaseP
open Go.RowKit Go.Proofs.Ytpgmfjpjjnpiiaa.PLeaseWakes Go.Proofs.YtpgmfjpjjnpiiaaW.PrintWords Go.Proofs.YtpgmfjpjjnpiiaaW.PrintLast Go.Proofs.YtpgmfjpjjnpiiaaW.PrintMore
attribute [local go_sem] max2_int min2_int max_two min_two max_three min_three max_four min_four
set_option linter.unusedSimpArgs false
set_option linter.unusedVariables false
open Go.Proofs.Ytpgmfjpjjnpiiaa.LeaseA
open Go.Proofs.Ytpgmfjpjjnpiiaa.LeaseB Go.Proofs.Ytpgmfjpjjnpiiaa.LeaseC Go.Proofs.Ytpgmfjpjjnpiiaa.LeaseD Go.Proofs.Ytpgmfjpjjnpiiaa.LeaseH Go.Proofs.Ytpgmfjpjjnpiiaa.LeaseJ Go.Proofs.Ytpgmfjpjjnpiiaa.LeaseK
open Go.Proofs.Ytpgmfjpjjnpiiaa.LeaseL Go.Proofs.Ytpgmfjpjjnpiiaa.LeaseM Go.Proofs.Ytpgmfjpjjnpiiaa.LeaseN Go.Proofs.Ytpgmfjpjjnpiiaa.LeaseG Go.Proofs.Ytpgmfjpjjnpiiaa.LeaseF Go.Proofs.Ytpgmfjpjjnpiiaa.LeaseI
open Go.Proofs.Ytpgmfjpjjnpiiaa.LeaseO
open Go.Proofs.Ytpgmfjpjjnpiiaa.RLeaseA
open Go.Proofs.Ytpgmfjpjjnpiiaa.RLeaseB
open Go.Proofs.Ytpgmfjpjjnpiiaa.RLeaseF
open Go.Proofs.Ytpgmfjpjjnpiiaa.RLeaseC Go.Proofs.Ytpgmfjpjjnpiiaa.RLeaseD Go.Proofs.Ytpgmfjpjjnpiiaa.RLeaseE Go.Proofs.Ytpgmfjpjjnpiiaa.RLeaseG Go.Proofs.Ytpgmfjpjjnpiiaa.LeaseQ
open Go.Proofs.Ytpgmfjpjjnpiiaa.RLeaseH
theorem held9 {base : Nat} {l : List Thing} {w : World} {g t : Nat} {a b c d e f h m n : Value} {i : Nat} (hA : Apt base w l) (hi : l[i]? = some (blk g #[a, b, c, d, e, f, h, m, n] t)) : w.cell? ⟨g, 0, none⟩ = some a ∧ w.cell? ⟨g, 1, none⟩ = some b ∧ w.cell? ⟨g, 2, none⟩ = some c ∧ w.cell? ⟨g, 3, none⟩ = some d ∧ w.cell? ⟨g, 4, none⟩ = some e ∧ w.cell? ⟨g, 5, none⟩ = some f ∧ w.cell? ⟨g, 6, none⟩ = some h ∧ w.cell? ⟨g, 7, none⟩ = some m ∧ w.cell? ⟨g, 8, none⟩ = some n :=
  ⟨(blk_cell (blk_at hA hi) 0).trans rfl, (blk_cell (blk_at hA hi) 1).trans rfl, (blk_cell (blk_at hA hi) 2).trans rfl, (blk_cell (blk_at hA hi) 3).trans rfl, (blk_cell (blk_at hA hi) 4).trans rfl, (blk_cell (blk_at hA hi) 5).trans rfl, (blk_cell (blk_at hA hi) 6).trans rfl, (blk_cell (blk_at hA hi) 7).trans rfl, (blk_cell (blk_at hA hi) 8).trans rfl⟩
theorem cell_up {w w1 : World} (hb : Below w.heap.size w w1) {a : Addr} {v : Value} (hc : w.cell? a = some v) : w1.cell? a = some v := (World.cell?_of_block (hb.block _ (World.block_lt_of_cell? w a hc))).trans hc
set_option maxHeartbeats 4000000 in
set_option maxRecDepth 100000 in
theorem plays_ok (A : Option Addr) (cap : Nat) (l : List S38) (w : World) (hC : Kd.C k38 w A l.length l) (hcap : l.length ≤ cap) (hl : l.length ≤ 100) (r r2 : Nat) (s0 : ES) (hf : Fine 0 s0) (w' : World) (hB : Below w.heap.size w w') (hA : Apt w.heap.size w' [elT r s0, reT r2 s0]) :
    Calls Try.prog 9 #[.pointer (some ⟨r, 0, none⟩), .pointer (some ⟨r2, 0, none⟩), .slice A l.length cap] w' fun e w'' => e = .returned (.bool true) ∧ Below w.heap.size w w'' := by
  have HC := Lib.hid hC
  have HB := Lib.hid hB
  have HY1 := Lib.hid hA
  have HF := Lib.hid hf
  clear hC hB hA hf
  go_enter Try.func9, Try.ntmps9
  go_upto_region 2 with (fail)
  go_loopw [7] (fun u7 wr => ∃ (k : Nat) (s : ES), u7 = .int .i64 k ∧ k ≤ l.length ∧ Hid (Apt w.heap.size wr [elT r s, reT r2 s]) ∧ Hid (Below w.heap.size w wr) ∧ Hid (Fine k s)) (fun u7 _ => l.length - (intOf u7).toNat)
  case atStart => exact ⟨0, s0, rfl, Nat.zero_le _, HY1, HB, HF⟩
  clear HY1 HB HF
  obtain ⟨k, s, rfl, hk, HY1, HB, HF⟩ := hrel
  by_cases hlt : k < l.length
  · have hlt' : (k : Int) < l.length := by omega
    obtain ⟨nn, hn, hn5⟩ : ∃ nn : Nat, s.n = nn ∧ nn ≤ 5 := by
      rcases HF.out.hn with h | h | h
      · exact ⟨1, h, by decide⟩
      · exact ⟨3, h, by decide⟩
      · exact ⟨5, h, by decide⟩
    have HN := Lib.hid hn
    have HN5 := Lib.hid hn5
    have HK9 : Hid (k ≤ 900) := Lib.hid (by omega)
    clear hn hn5
    obtain ⟨x, hx⟩ : ∃ x, l[k]? = some x := ⟨_, List.getElem?_eq_getElem hlt⟩
    obtain ⟨b, off, hA, e0, e1, e2, e3, e4, e5, e6, e7, e8⟩ := post_cells HC.out hx
    subst hA
    have e0 := cell_up HB.out e0
    have e1 := cell_up HB.out e1
    have e2 := cell_up HB.out e2
    have e3 := cell_up HB.out e3
    have e4 := cell_up HB.out e4
    have e5 := cell_up HB.out e5
    have e6 := cell_up HB.out e6
    have e7 := cell_up HB.out e7
    have e8 := cell_up HB.out e8
    clear hx
    go_upto_region 6 with (fail)
    have hP : Apt w.heap.size (wr.alloc (.cells #[.int .i64 x.f0, .int .i64 x.f1, .int .i64 x.f2.f0, .int .i64 x.f2.f1, .int .i64 x.f2.f2, .int .i64 x.f3.f0, .bool x.f3.f1, .int .i64 x.f3.f2, .int .i64 x.f3.f3] 65)) ([elT r s, reT r2 s] ++ [blk wr.heap.size #[.int .i64 x.f0, .int .i64 x.f1, .int .i64 x.f2.f0, .int .i64 x.f2.f1, .int .i64 x.f2.f2, .int .i64 x.f3.f0, .bool x.f3.f1, .int .i64 x.f3.f2, .int .i64 x.f3.f3] 65]) ∧ Below w.heap.size w (wr.alloc (.cells #[.int .i64 x.f0, .int .i64 x.f1, .int .i64 x.f2.f0, .int .i64 x.f2.f1, .int .i64 x.f2.f2, .int .i64 x.f3.f0, .bool x.f3.f1, .int .i64 x.f3.f2, .int .i64 x.f3.f3] 65)) :=
      ⟨Apt.add HY1.out (below_alloc (Below.refl _ _) _) ⟨blk_new wr _, Nat.le_refl _⟩, HB.out.alloc HB.out.size _⟩
    obtain ⟨g, hg⟩ : ∃ g, wr.heap.size = g := ⟨_, rfl⟩
    rw [hg] at hP ⊢
    refine world_gen (P := fun w7 => Apt w.heap.size w7 [elT r s, reT r2 s, blk g #[.int .i64 x.f0, .int .i64 x.f1, .int .i64 x.f2.f0, .int .i64 x.f2.f1, .int .i64 x.f2.f2, .int .i64 x.f3.f0, .bool x.f3.f1, .int .i64 x.f3.f2, .int .i64 x.f3.f3] 65] ∧ Below w.heap.size w w7) hP (fun w7 h7 => ?_)
    obtain ⟨hy7, hb7⟩ := h7
    obtain ⟨v0, v1, v2, v3, v4, v5, v6, v7, v8⟩ := held9 hy7 (i := 2) rfl
    clear hP hg e0 e1 e2 e3 e4 e5 e6 e7 e8 HY1 HB
    have HY1 := Lib.hid hy7
    have HB := Lib.hid hb7
    clear hy7 hb7
    by_cases k0 : x.f0 = 0
    · skip
      obtain ⟨⟨s1, l1⟩, hx⟩ : ∃ y, tickS s x.f1 nn = y := ⟨_, rfl⟩
      have HF1 : Hid (Fine (k + 1) s1) := Lib.hid (by have := tick_fine HF.out x.f1 nn; rw [hx] at this; exact this.mono (Nat.le_add_right _ _))
      have HL1 : Hid (l1.length ≤ 100) := Lib.hid (by have := tick_len s x.f1 nn; rw [hx] at this; have := HN5.out; have h9 : l1.length ≤ 2 * nn := by assumption
                                                      omega)
      have HX := Lib.hid hx
      clear hx
      go_upto_region 11 with (fail)
      have hy_ := Apt.below HY1.out (below_drew1 (Below.refl _ _))
      have hb_ := below_drew1 HB.out
      have HSC := Lib.hid ((held9 hy_ (i := 2) rfl).2.1)
      clear HY1 HB v0 v1 v2 v3 v4 v5 v6 v7 v8
      have HY1 : Hid (Apt w.heap.size _ [elT r s, reT r2 s, blk g #[.int .i64 x.f0, .int .i64 x.f1, .int .i64 x.f2.f0, .int .i64 x.f2.f1, .int .i64 x.f2.f2, .int .i64 x.f3.f0, .bool x.f3.f1, .int .i64 x.f3.f2, .int .i64 x.f3.f3] 65]) := Lib.hid hy_
      have HB := Lib.hid hb_
      clear hy_ hb_
      go_region_held3 (fun w2 => World.cell? w2 ⟨g, 1, none⟩ = some (.int .i64 x.f1)) (first | with_reducible exact HSC.out) (first | ((with_reducible go_at_call 14); (have q_ := HY1; clear q_); have q9 := (tick_z w.heap.size _ _ 0 r k nn s s1 x.f1 l1 _ HY1.out rfl HF.out HN.out HX.out rfl); (with_reducible refine q9.mono ?_); clear q9; rintro e w1 ⟨A1, c1, rfl, hy, hb⟩; have hy : Apt w.heap.size w1 [elT r s1, reT r2 s, blk g #[.int .i64 x.f0, .int .i64 x.f1, .int .i64 x.f2.f0, .int .i64 x.f2.f1, .int .i64 x.f2.f2, .int .i64 x.f3.f0, .bool x.f3.f1, .int .i64 x.f3.f2, .int .i64 x.f3.f3] 65, posts (.slice A1 l1.length c1) l1] := hy; have hs_ := (held9 hy (i := 2) rfl).2.1; clear HSC; have HSC := Lib.hid hs_; clear hs_; have HY2 := Lib.hid hy; clear HY1 hy; have hb_ := HB.out.trans hb; clear HB; have HB := Lib.hid hb_; clear hb_ hb) | ((with_reducible go_at_call 24); (have q_ := HY2; clear q_); have q9 := (rtick_z w.heap.size _ _ 1 r2 k nn s s1 x.f1 l1 _ HY2.out rfl HF.out HN.out HX.out rfl); (with_reducible refine q9.mono ?_); clear q9; rintro e w1 ⟨A2, c2, rfl, hy, hb⟩; have hy : Apt w.heap.size w1 [elT r s1, reT r2 s1, blk g #[.int .i64 x.f0, .int .i64 x.f1, .int .i64 x.f2.f0, .int .i64 x.f2.f1, .int .i64 x.f2.f2, .int .i64 x.f3.f0, .bool x.f3.f1, .int .i64 x.f3.f2, .int .i64 x.f3.f3] 65, posts (.slice A1 l1.length c1) l1, posts (.slice A2 l1.length c2) l1] := hy; have hs_ := (held9 hy (i := 2) rfl).2.1; clear HSC; have HSC := Lib.hid hs_; clear hs_; have HY3 := Lib.hid hy; clear HY2 hy; have hb_ := HB.out.trans hb; clear HB; have HB := Lib.hid hb_; clear hb_ hb) | ((with_reducible go_at_call 23); (have q_ := HY3; clear q_); have q9 := (same_z w.heap.size _ 3 4 A1 A2 _ _ c1 c2 l1 _ HY3.out HL1.out rfl rfl); (with_reducible refine q9.mono ?_); clear q9; rintro e w1 ⟨rfl, hy, hb⟩; have hy : Apt w.heap.size w1 [elT r s1, reT r2 s1, blk g #[.int .i64 x.f0, .int .i64 x.f1, .int .i64 x.f2.f0, .int .i64 x.f2.f1, .int .i64 x.f2.f2, .int .i64 x.f3.f0, .bool x.f3.f1, .int .i64 x.f3.f2, .int .i64 x.f3.f3] 65, posts (.slice A1 l1.length c1) l1, posts (.slice A2 l1.length c2) l1] := hy; have hs_ := (held9 hy (i := 2) rfl).2.1; clear HSC; have HSC := Lib.hid hs_; clear hs_; have HY4 := Lib.hid hy; clear HY3 hy; have hb_ := HB.out.trans (hb.mono HB.out.size); clear HB; have HB := Lib.hid hb_; clear hb_ hb))
      all_goals
        have HY9 : Hid (Apt w.heap.size _ [elT r s1, reT r2 s1]) := Lib.hid (HY4.out.take 2)
        clear HY4 HSC
        go_upto_region 22 with (fail)
        have hy_ := Apt.below HY9.out (below_drew1 (Below.refl _ _))
        have hb_ := below_drew1 HB.out
        have HSC := Lib.hid (rvote_at hy_ (i := 1) rfl)
        clear HY9 HB
        have HY9 := Lib.hid hy_
        have HB := Lib.hid hb_
        clear hy_ hb_
        go_region_held3 (fun w2 => World.cell? w2 ⟨r2, 5, none⟩ = some (.int .i64 s1.ve) ∧ World.cell? w2 ⟨r2, 6, none⟩ = some (.int .i64 s1.vh) ∧ World.cell? w2 ⟨r2, 7, none⟩ = some (.int .i64 s1.vu) ∧ World.cell? w2 ⟨r2, 8, none⟩ = some (.int .i64 s1.vs)) (first | with_reducible exact HSC.out) (first | ((with_reducible go_at_call 15); (have q_ := HY9; clear q_); have q9 := vote_z w.heap.size _ 0 r s1 _ HY9.out rfl; (with_reducible refine q9.mono ?_); clear q9; rintro e w1 ⟨rfl, hy, hb⟩; have hs_ := (show _ ∧ _ ∧ _ ∧ _ from rvote_at hy (i := 1) rfl); clear HSC; have HSC := Lib.hid hs_; clear hs_; clear HY9; have HY9 := Lib.hid hy; clear hy; have hb_ := HB.out.trans (hb.mono HB.out.size); clear HB; have HB := Lib.hid hb_; clear hb_ hb))
        all_goals
          go_wp2
          exact ⟨⟨k + 1, s1, by go_num, by omega, HY9, HB, HF1⟩, by simp [intOf]; omega⟩
    by_cases k1 : x.f0 = 1
    · have k0' : (x.f0 == 0) = false := by simpa using k0
      clear k0
      obtain ⟨⟨s1, q, pr⟩, hx⟩ : ∃ y, askS s x.f1 x.f2.f0 x.f2.f1 x.f2.f2 = y := ⟨_, rfl⟩
      have HF1 : Hid (Fine (k + 1) s1) := Lib.hid (by have := ask_fine HF.out x.f1 x.f2.f0 x.f2.f1 x.f2.f2; rw [hx] at this; exact this.mono (Nat.le_add_right _ _))
      have HX := Lib.hid hx
      clear hx
      go_upto_region 14 with (first | ((with_reducible go_at_call 10); (have q_ := HY1; clear q_); go_must (refine (ask_z w.heap.size _ _ 0 r k s s1 x.f1 x.f2.f0 x.f2.f1 x.f2.f2 q pr _ HY1.out rfl HF.out HX.out rfl).mono ?_; rintro e w1 ⟨rfl, hy, hb⟩; have hy : Apt w.heap.size w1 [elT r s1, reT r2 s, blk g #[.int .i64 x.f0, .int .i64 x.f1, .int .i64 x.f2.f0, .int .i64 x.f2.f1, .int .i64 x.f2.f2, .int .i64 x.f3.f0, .bool x.f3.f1, .int .i64 x.f3.f2, .int .i64 x.f3.f3] 65] := hy; (try clear v0); (try clear v1); (try clear v2); (try clear v3); (try clear v4); (try clear v5); (try clear v6); (try clear v7); (try clear v8); obtain ⟨v0, v1, v2, v3, v4, v5, v6, v7, v8⟩ := held9 hy (i := 2) rfl; clear v0 v5 v6 v7 v8; have HY2 := Lib.hid hy; clear HY1 hy; have hb_ := HB.out.trans hb; clear HB; have HB := Lib.hid hb_; clear hb_ hb)))
      have hP : Apt w.heap.size (w1.alloc (.cells #[.int .i64 q.f0, .int .i64 q.f1, .int .i64 q.f2.f0, .int .i64 q.f2.f1, .int .i64 q.f2.f2, .int .i64 q.f3.f0, .bool q.f3.f1, .int .i64 q.f3.f2, .int .i64 q.f3.f3] 38)) ([elT r s1, reT r2 s, blk g #[.int .i64 x.f0, .int .i64 x.f1, .int .i64 x.f2.f0, .int .i64 x.f2.f1, .int .i64 x.f2.f2, .int .i64 x.f3.f0, .bool x.f3.f1, .int .i64 x.f3.f2, .int .i64 x.f3.f3] 65] ++ [blk w1.heap.size #[.int .i64 q.f0, .int .i64 q.f1, .int .i64 q.f2.f0, .int .i64 q.f2.f1, .int .i64 q.f2.f2, .int .i64 q.f3.f0, .bool q.f3.f1, .int .i64 q.f3.f2, .int .i64 q.f3.f3] 38]) ∧ Below w.heap.size w (w1.alloc (.cells #[.int .i64 q.f0, .int .i64 q.f1, .int .i64 q.f2.f0, .int .i64 q.f2.f1, .int .i64 q.f2.f2, .int .i64 q.f3.f0, .bool q.f3.f1, .int .i64 q.f3.f2, .int .i64 q.f3.f3] 38)) :=
        ⟨Apt.add HY2.out (below_alloc (Below.refl _ _) _) ⟨blk_new w1 _, Nat.le_refl _⟩, HB.out.alloc HB.out.size _⟩
      obtain ⟨g1, hg⟩ : ∃ g, w1.heap.size = g := ⟨_, rfl⟩
      rw [hg] at hP ⊢
      refine world_gen (P := fun w7 => Apt w.heap.size w7 ([elT r s1, reT r2 s, blk g #[.int .i64 x.f0, .int .i64 x.f1, .int .i64 x.f2.f0, .int .i64 x.f2.f1, .int .i64 x.f2.f2, .int .i64 x.f3.f0, .bool x.f3.f1, .int .i64 x.f3.f2, .int .i64 x.f3.f3] 65] ++ [blk g1 #[.int .i64 q.f0, .int .i64 q.f1, .int .i64 q.f2.f0, .int .i64 q.f2.f1, .int .i64 q.f2.f2, .int .i64 q.f3.f0, .bool q.f3.f1, .int .i64 q.f3.f2, .int .i64 q.f3.f3] 38]) ∧ Below w.heap.size w w7) hP (fun w7 h7 => ?_)
      clear hP hg HY2 HB v1 v2 v3 v4
      have hy : Apt w.heap.size w7 ([elT r s1, reT r2 s, blk g #[.int .i64 x.f0, .int .i64 x.f1, .int .i64 x.f2.f0, .int .i64 x.f2.f1, .int .i64 x.f2.f2, .int .i64 x.f3.f0, .bool x.f3.f1, .int .i64 x.f3.f2, .int .i64 x.f3.f3] 65] ++ [blk g1 #[.int .i64 q.f0, .int .i64 q.f1, .int .i64 q.f2.f0, .int .i64 q.f2.f1, .int .i64 q.f2.f2, .int .i64 q.f3.f0, .bool q.f3.f1, .int .i64 q.f3.f2, .int .i64 q.f3.f3] 38]) := h7.1
      have HY3 : Hid (Apt w.heap.size w7 [elT r s1, reT r2 s, blk g #[.int .i64 x.f0, .int .i64 x.f1, .int .i64 x.f2.f0, .int .i64 x.f2.f1, .int .i64 x.f2.f2, .int .i64 x.f3.f0, .bool x.f3.f1, .int .i64 x.f3.f2, .int .i64 x.f3.f3] 65, blk g1 #[.int .i64 q.f0, .int .i64 q.f1, .int .i64 q.f2.f0, .int .i64 q.f2.f1, .int .i64 q.f2.f2, .int .i64 q.f3.f0, .bool q.f3.f1, .int .i64 q.f3.f2, .int .i64 q.f3.f3] 38]) := Lib.hid hy
      obtain ⟨v0, v1, v2, v3, v4, v5, v6, v7, v8⟩ := held9 hy (i := 2) rfl
      clear v0 v5 v6 v7 v8
      have HB := Lib.hid h7.2
      clear h7 hy
      go_upto_region 15 with (first | ((with_reducible go_at_call 25); (have q_ := HY3; clear q_); go_must (refine (rask_z w.heap.size _ _ 1 r2 k s s1 x.f1 x.f2.f0 x.f2.f1 x.f2.f2 q pr _ HY3.out rfl HF.out HX.out rfl).mono ?_; rintro e w1 ⟨rfl, hy, hb⟩; have hy : Apt w.heap.size w1 [elT r s1, reT r2 s1, blk g #[.int .i64 x.f0, .int .i64 x.f1, .int .i64 x.f2.f0, .int .i64 x.f2.f1, .int .i64 x.f2.f2, .int .i64 x.f3.f0, .bool x.f3.f1, .int .i64 x.f3.f2, .int .i64 x.f3.f3] 65, blk g1 #[.int .i64 q.f0, .int .i64 q.f1, .int .i64 q.f2.f0, .int .i64 q.f2.f1, .int .i64 q.f2.f2, .int .i64 q.f3.f0, .bool q.f3.f1, .int .i64 q.f3.f2, .int .i64 q.f3.f3] 38] := hy; (try clear v0); (try clear v1); (try clear v2); (try clear v3); (try clear v4); (try clear v5); (try clear v6); (try clear v7); (try clear v8); have HY4 := Lib.hid hy; clear HY3 hy; have hb_ := HB.out.trans hb; clear HB; have HB := Lib.hid hb_; clear hb_ hb)))
      have hP : Apt w.heap.size (w1.alloc (.cells #[.int .i64 q.f0, .int .i64 q.f1, .int .i64 q.f2.f0, .int .i64 q.f2.f1, .int .i64 q.f2.f2, .int .i64 q.f3.f0, .bool q.f3.f1, .int .i64 q.f3.f2, .int .i64 q.f3.f3] 38)) ([elT r s1, reT r2 s1, blk g #[.int .i64 x.f0, .int .i64 x.f1, .int .i64 x.f2.f0, .int .i64 x.f2.f1, .int .i64 x.f2.f2, .int .i64 x.f3.f0, .bool x.f3.f1, .int .i64 x.f3.f2, .int .i64 x.f3.f3] 65, blk g1 #[.int .i64 q.f0, .int .i64 q.f1, .int .i64 q.f2.f0, .int .i64 q.f2.f1, .int .i64 q.f2.f2, .int .i64 q.f3.f0, .bool q.f3.f1, .int .i64 q.f3.f2, .int .i64 q.f3.f3] 38] ++ [blk w1.heap.size #[.int .i64 q.f0, .int .i64 q.f1, .int .i64 q.f2.f0, .int .i64 q.f2.f1, .int .i64 q.f2.f2, .int .i64 q.f3.f0, .bool q.f3.f1, .int .i64 q.f3.f2, .int .i64 q.f3.f3] 38]) ∧ Below w.heap.size w (w1.alloc (.cells #[.int .i64 q.f0, .int .i64 q.f1, .int .i64 q.f2.f0, .int .i64 q.f2.f1, .int .i64 q.f2.f2, .int .i64 q.f3.f0, .bool q.f3.f1, .int .i64 q.f3.f2, .int .i64 q.f3.f3] 38)) :=
        ⟨Apt.add HY4.out (below_alloc (Below.refl _ _) _) ⟨blk_new w1 _, Nat.le_refl _⟩, HB.out.alloc HB.out.size _⟩
      obtain ⟨g2, hg⟩ : ∃ g, w1.heap.size = g := ⟨_, rfl⟩
      rw [hg] at hP ⊢
      refine world_gen (P := fun w7 => Apt w.heap.size w7 ([elT r s1, reT r2 s1, blk g #[.int .i64 x.f0, .int .i64 x.f1, .int .i64 x.f2.f0, .int .i64 x.f2.f1, .int .i64 x.f2.f2, .int .i64 x.f3.f0, .bool x.f3.f1, .int .i64 x.f3.f2, .int .i64 x.f3.f3] 65, blk g1 #[.int .i64 q.f0, .int .i64 q.f1, .int .i64 q.f2.f0, .int .i64 q.f2.f1, .int .i64 q.f2.f2, .int .i64 q.f3.f0, .bool q.f3.f1, .int .i64 q.f3.f2, .int .i64 q.f3.f3] 38] ++ [blk g2 #[.int .i64 q.f0, .int .i64 q.f1, .int .i64 q.f2.f0, .int .i64 q.f2.f1, .int .i64 q.f2.f2, .int .i64 q.f3.f0, .bool q.f3.f1, .int .i64 q.f3.f2, .int .i64 q.f3.f3] 38]) ∧ Below w.heap.size w w7) hP (fun w7 h7 => ?_)
      clear hP hg HY4 HB
      have hy : Apt w.heap.size w7 ([elT r s1, reT r2 s1, blk g #[.int .i64 x.f0, .int .i64 x.f1, .int .i64 x.f2.f0, .int .i64 x.f2.f1, .int .i64 x.f2.f2, .int .i64 x.f3.f0, .bool x.f3.f1, .int .i64 x.f3.f2, .int .i64 x.f3.f3] 65, blk g1 #[.int .i64 q.f0, .int .i64 q.f1, .int .i64 q.f2.f0, .int .i64 q.f2.f1, .int .i64 q.f2.f2, .int .i64 q.f3.f0, .bool q.f3.f1, .int .i64 q.f3.f2, .int .i64 q.f3.f3] 38] ++ [blk g2 #[.int .i64 q.f0, .int .i64 q.f1, .int .i64 q.f2.f0, .int .i64 q.f2.f1, .int .i64 q.f2.f2, .int .i64 q.f3.f0, .bool q.f3.f1, .int .i64 q.f3.f2, .int .i64 q.f3.f3] 38]) := h7.1
      have HY5 : Hid (Apt w.heap.size w7 [elT r s1, reT r2 s1, blk g #[.int .i64 x.f0, .int .i64 x.f1, .int .i64 x.f2.f0, .int .i64 x.f2.f1, .int .i64 x.f2.f2, .int .i64 x.f3.f0, .bool x.f3.f1, .int .i64 x.f3.f2, .int .i64 x.f3.f3] 65, blk g1 #[.int .i64 q.f0, .int .i64 q.f1, .int .i64 q.f2.f0, .int .i64 q.f2.f1, .int .i64 q.f2.f2, .int .i64 q.f3.f0, .bool q.f3.f1, .int .i64 q.f3.f2, .int .i64 q.f3.f3] 38, blk g2 #[.int .i64 q.f0, .int .i64 q.f1, .int .i64 q.f2.f0, .int .i64 q.f2.f1, .int .i64 q.f2.f2, .int .i64 q.f3.f0, .bool q.f3.f1, .int .i64 q.f3.f2, .int .i64 q.f3.f3] 38]) := Lib.hid hy
      obtain ⟨y0, y1, y2, y3, y4, y5, y6, y7, y8⟩ := held9 hy (i := 3) rfl
      obtain ⟨z0, z1, z2, z3, z4, z5, z6, z7, z8⟩ := held9 hy (i := 4) rfl
      have HB := Lib.hid h7.2
      clear h7 hy
      have HY9 : Hid (Apt w.heap.size _ [elT r s1, reT r2 s1]) := Lib.hid (HY5.out.take 2)
      go_upto_region 22 with (fail)
      clear HY5 y0 y1 y2 y3 y4 y5 y6 y7 y8 z0 z1 z2 z3 z4 z5 z6 z7 z8
      have hy_ := Apt.below HY9.out (below_drew1 (Below.refl _ _))
      have hb_ := below_drew1 HB.out
      have HSC := Lib.hid (rvote_at hy_ (i := 1) rfl)
      clear HY9 HB
      have HY9 := Lib.hid hy_
      have HB := Lib.hid hb_
      clear hy_ hb_
      go_region_held3 (fun w2 => World.cell? w2 ⟨r2, 5, none⟩ = some (.int .i64 s1.ve) ∧ World.cell? w2 ⟨r2, 6, none⟩ = some (.int .i64 s1.vh) ∧ World.cell? w2 ⟨r2, 7, none⟩ = some (.int .i64 s1.vu) ∧ World.cell? w2 ⟨r2, 8, none⟩ = some (.int .i64 s1.vs)) (first | with_reducible exact HSC.out) (first | ((with_reducible go_at_call 15); (have q_ := HY9; clear q_); have q9 := vote_z w.heap.size _ 0 r s1 _ HY9.out rfl; (with_reducible refine q9.mono ?_); clear q9; rintro e w1 ⟨rfl, hy, hb⟩; have hs_ := (show _ ∧ _ ∧ _ ∧ _ from rvote_at hy (i := 1) rfl); clear HSC; have HSC := Lib.hid hs_; clear hs_; clear HY9; have HY9 := Lib.hid hy; clear hy; have hb_ := HB.out.trans (hb.mono HB.out.size); clear HB; have HB := Lib.hid hb_; clear hb_ hb))
      all_goals
        go_wp2
        exact ⟨⟨k + 1, s1, by go_num, by omega, HY9, HB, HF1⟩, by simp [intOf]; omega⟩
    by_cases k2 : x.f0 = 2
    · have k0' : (x.f0 == 0) = false := by simpa using k0
      have k1' : (x.f0 == 1) = false := by simpa using k1
      clear k0 k1
      obtain ⟨s1, hx⟩ : ∃ y, replyS s x.f1 x.f3 = y := ⟨_, rfl⟩
      have HF1 : Hid (Fine (k + 1) s1) := Lib.hid (by have := reply_fine HF.out x.f1 x.f3; rw [hx] at this; exact this)
      have HX := Lib.hid hx
      clear hx
      go_upto_region 22 with (first | ((with_reducible go_at_call 11); (have q_ := HY1; clear q_); go_must (refine (reply_z w.heap.size _ _ 0 r k s s1 x.f1 x.f3 _ HY1.out rfl HF.out HK9.out HX.out rfl).mono ?_; rintro e w1 ⟨rfl, hy, hb⟩; have hy : Apt w.heap.size w1 [elT r s1, reT r2 s, blk g #[.int .i64 x.f0, .int .i64 x.f1, .int .i64 x.f2.f0, .int .i64 x.f2.f1, .int .i64 x.f2.f2, .int .i64 x.f3.f0, .bool x.f3.f1, .int .i64 x.f3.f2, .int .i64 x.f3.f3] 65] := hy; (try clear v0); (try clear v1); (try clear v2); (try clear v3); (try clear v4); (try clear v5); (try clear v6); (try clear v7); (try clear v8); obtain ⟨v0, v1, v2, v3, v4, v5, v6, v7, v8⟩ := held9 hy (i := 2) rfl; clear v0 v2 v3 v4; have HY2 := Lib.hid hy; clear HY1 hy; have hb_ := HB.out.trans hb; clear HB; have HB := Lib.hid hb_; clear hb_ hb)) | ((with_reducible go_at_call 26); (have q_ := HY2; clear q_); go_must (refine (rreply_z w.heap.size _ _ 1 r2 k s s1 x.f1 x.f3 _ HY2.out rfl HF.out HK9.out HX.out rfl).mono ?_; rintro e w1 ⟨rfl, hy, hb⟩; have hy : Apt w.heap.size w1 [elT r s1, reT r2 s1, blk g #[.int .i64 x.f0, .int .i64 x.f1, .int .i64 x.f2.f0, .int .i64 x.f2.f1, .int .i64 x.f2.f2, .int .i64 x.f3.f0, .bool x.f3.f1, .int .i64 x.f3.f2, .int .i64 x.f3.f3] 65] := hy; (try clear v0); (try clear v1); (try clear v2); (try clear v3); (try clear v4); (try clear v5); (try clear v6); (try clear v7); (try clear v8); have HY3 := Lib.hid hy; clear HY2 hy; have hb_ := HB.out.trans hb; clear HB; have HB := Lib.hid hb_; clear hb_ hb)))
      have HY9 : Hid (Apt w.heap.size _ [elT r s1, reT r2 s1]) := Lib.hid (HY3.out.take 2)
      clear HY3
      have hy_ := Apt.below HY9.out (below_drew1 (Below.refl _ _))
      have hb_ := below_drew1 HB.out
      have HSC := Lib.hid (rvote_at hy_ (i := 1) rfl)
      clear HY9 HB
      have HY9 := Lib.hid hy_
      have HB := Lib.hid hb_
      clear hy_ hb_
      go_region_held3 (fun w2 => World.cell? w2 ⟨r2, 5, none⟩ = some (.int .i64 s1.ve) ∧ World.cell? w2 ⟨r2, 6, none⟩ = some (.int .i64 s1.vh) ∧ World.cell? w2 ⟨r2, 7, none⟩ = some (.int .i64 s1.vu) ∧ World.cell? w2 ⟨r2, 8, none⟩ = some (.int .i64 s1.vs)) (first | with_reducible exact HSC.out) (first | ((with_reducible go_at_call 15); (have q_ := HY9; clear q_); have q9 := vote_z w.heap.size _ 0 r s1 _ HY9.out rfl; (with_reducible refine q9.mono ?_); clear q9; rintro e w1 ⟨rfl, hy, hb⟩; have hs_ := (show _ ∧ _ ∧ _ ∧ _ from rvote_at hy (i := 1) rfl); clear HSC; have HSC := Lib.hid hs_; clear hs_; clear HY9; have HY9 := Lib.hid hy; clear hy; have hb_ := HB.out.trans (hb.mono HB.out.size); clear HB; have HB := Lib.hid hb_; clear hb_ hb))
      all_goals
        go_wp2
        exact ⟨⟨k + 1, s1, by go_num, by omega, HY9, HB, HF1⟩, by simp [intOf]; omega⟩
    by_cases k3 : x.f0 = 3
    · have k0' : (x.f0 == 0) = false := by simpa using k0
      have k1' : (x.f0 == 1) = false := by simpa using k1
      have k2' : (x.f0 == 2) = false := by simpa using k2
      clear k0 k1 k2
      obtain ⟨s1, hx⟩ : ∃ y, freeE s x.f1 x.f2.f0 x.f2.f1 x.f2.f2 = y := ⟨_, rfl⟩
      have HF1 : Hid (Fine (k + 1) s1) := Lib.hid (by have := free_fine HF.out x.f1 x.f2.f0 x.f2.f1 x.f2.f2; rw [hx] at this; exact this.mono (Nat.le_add_right _ _))
      have HX := Lib.hid hx
      clear hx
      go_upto_region 22 with (first | ((with_reducible go_at_call 12); (have q_ := HY1; clear q_); go_must (refine (free_z w.heap.size _ _ 0 r s s1 x.f1 x.f2.f0 x.f2.f1 x.f2.f2 _ HY1.out rfl HX.out rfl).mono ?_; rintro e w1 ⟨rfl, hy, hb⟩; have hy : Apt w.heap.size w1 [elT r s1, reT r2 s, blk g #[.int .i64 x.f0, .int .i64 x.f1, .int .i64 x.f2.f0, .int .i64 x.f2.f1, .int .i64 x.f2.f2, .int .i64 x.f3.f0, .bool x.f3.f1, .int .i64 x.f3.f2, .int .i64 x.f3.f3] 65] := hy; (try clear v0); (try clear v1); (try clear v2); (try clear v3); (try clear v4); (try clear v5); (try clear v6); (try clear v7); (try clear v8); obtain ⟨v0, v1, v2, v3, v4, v5, v6, v7, v8⟩ := held9 hy (i := 2) rfl; clear v0 v5 v6 v7 v8; have HY2 := Lib.hid hy; clear HY1 hy; have hb_ := HB.out.trans hb; clear HB; have HB := Lib.hid hb_; clear hb_ hb)) | ((with_reducible go_at_call 27); (have q_ := HY2; clear q_); go_must (refine (rfree_z w.heap.size _ _ 1 r2 s s1 x.f1 x.f2.f0 x.f2.f1 x.f2.f2 _ HY2.out rfl HX.out rfl).mono ?_; rintro e w1 ⟨rfl, hy, hb⟩; have hy : Apt w.heap.size w1 [elT r s1, reT r2 s1, blk g #[.int .i64 x.f0, .int .i64 x.f1, .int .i64 x.f2.f0, .int .i64 x.f2.f1, .int .i64 x.f2.f2, .int .i64 x.f3.f0, .bool x.f3.f1, .int .i64 x.f3.f2, .int .i64 x.f3.f3] 65] := hy; (try clear v0); (try clear v1); (try clear v2); (try clear v3); (try clear v4); (try clear v5); (try clear v6); (try clear v7); (try clear v8); have HY3 := Lib.hid hy; clear HY2 hy; have hb_ := HB.out.trans hb; clear HB; have HB := Lib.hid hb_; clear hb_ hb)))
      have HY9 : Hid (Apt w.heap.size _ [elT r s1, reT r2 s1]) := Lib.hid (HY3.out.take 2)
      clear HY3
      have hy_ := Apt.below HY9.out (below_drew1 (Below.refl _ _))
      have hb_ := below_drew1 HB.out
      have HSC := Lib.hid (rvote_at hy_ (i := 1) rfl)
      clear HY9 HB
      have HY9 := Lib.hid hy_
      have HB := Lib.hid hb_
      clear hy_ hb_
      go_region_held3 (fun w2 => World.cell? w2 ⟨r2, 5, none⟩ = some (.int .i64 s1.ve) ∧ World.cell? w2 ⟨r2, 6, none⟩ = some (.int .i64 s1.vh) ∧ World.cell? w2 ⟨r2, 7, none⟩ = some (.int .i64 s1.vu) ∧ World.cell? w2 ⟨r2, 8, none⟩ = some (.int .i64 s1.vs)) (first | with_reducible exact HSC.out) (first | ((with_reducible go_at_call 15); (have q_ := HY9; clear q_); have q9 := vote_z w.heap.size _ 0 r s1 _ HY9.out rfl; (with_reducible refine q9.mono ?_); clear q9; rintro e w1 ⟨rfl, hy, hb⟩; have hs_ := (show _ ∧ _ ∧ _ ∧ _ from rvote_at hy (i := 1) rfl); clear HSC; have HSC := Lib.hid hs_; clear hs_; clear HY9; have HY9 := Lib.hid hy; clear hy; have hb_ := HB.out.trans (hb.mono HB.out.size); clear HB; have HB := Lib.hid hb_; clear hb_ hb))
      all_goals
        go_wp2
        exact ⟨⟨k + 1, s1, by go_num, by omega, HY9, HB, HF1⟩, by simp [intOf]; omega⟩
    · have k0' : (x.f0 == 0) = false := by simpa using k0
      have k1' : (x.f0 == 1) = false := by simpa using k1
      have k2' : (x.f0 == 2) = false := by simpa using k2
      have k3' : (x.f0 == 3) = false := by simpa using k3
      clear k0 k1 k2 k3
      obtain ⟨s1, hx⟩ : ∃ y, toldS s x.f1 = y := ⟨_, rfl⟩
      obtain ⟨a, hxa⟩ : ∃ y, (if leadsB s1 = true then s1.led else 0) = y := ⟨_, rfl⟩
      obtain ⟨b, hxb⟩ : ∃ y, leadsB s1 = y := ⟨_, rfl⟩
      have HF1 : Hid (Fine (k + 1) s1) := Lib.hid (by have := told_fine HF.out x.f1; rw [hx] at this; exact this.mono (Nat.le_add_right _ _))
      have HX := Lib.hid hx
      have HXA := Lib.hid hxa
      have HXB := Lib.hid hxb
      clear hx hxa hxb
      go_upto_region 22 with (first | ((with_reducible go_at_call 13); (have q_ := HY1; clear q_); go_must (refine (lead_z w.heap.size _ _ 0 r s s1 x.f1 a b _ HY1.out rfl HX.out HXA.out HXB.out rfl).mono ?_; rintro e w1 ⟨rfl, hy, hb⟩; have hy : Apt w.heap.size w1 [elT r s1, reT r2 s, blk g #[.int .i64 x.f0, .int .i64 x.f1, .int .i64 x.f2.f0, .int .i64 x.f2.f1, .int .i64 x.f2.f2, .int .i64 x.f3.f0, .bool x.f3.f1, .int .i64 x.f3.f2, .int .i64 x.f3.f3] 65] := hy; (try clear v0); (try clear v1); (try clear v2); (try clear v3); (try clear v4); (try clear v5); (try clear v6); (try clear v7); (try clear v8); obtain ⟨v0, v1, v2, v3, v4, v5, v6, v7, v8⟩ := held9 hy (i := 2) rfl; clear v0 v2 v3 v4 v5 v6 v7 v8; have HY2 := Lib.hid hy; clear HY1 hy; have hb_ := HB.out.trans hb; clear HB; have HB := Lib.hid hb_; clear hb_ hb)) | ((with_reducible go_at_call 28); (have q_ := HY2; clear q_); go_must (refine (rlead_z w.heap.size _ _ 1 r2 s s1 x.f1 a b _ HY2.out rfl HX.out HXA.out HXB.out rfl).mono ?_; rintro e w1 ⟨rfl, hy, hb⟩; have hy : Apt w.heap.size w1 [elT r s1, reT r2 s1, blk g #[.int .i64 x.f0, .int .i64 x.f1, .int .i64 x.f2.f0, .int .i64 x.f2.f1, .int .i64 x.f2.f2, .int .i64 x.f3.f0, .bool x.f3.f1, .int .i64 x.f3.f2, .int .i64 x.f3.f3] 65] := hy; (try clear v0); (try clear v1); (try clear v2); (try clear v3); (try clear v4); (try clear v5); (try clear v6); (try clear v7); (try clear v8); have HY3 := Lib.hid hy; clear HY2 hy; have hb_ := HB.out.trans hb; clear HB; have HB := Lib.hid hb_; clear hb_ hb)))
      have HY9 : Hid (Apt w.heap.size _ [elT r s1, reT r2 s1]) := Lib.hid (HY3.out.take 2)
      clear HY3
      have hy_ := Apt.below HY9.out (below_drew1 (Below.refl _ _))
      have hb_ := below_drew1 HB.out
      have HSC := Lib.hid (rvote_at hy_ (i := 1) rfl)
      clear HY9 HB
      have HY9 := Lib.hid hy_
      have HB := Lib.hid hb_
      clear hy_ hb_
      go_region_held3 (fun w2 => World.cell? w2 ⟨r2, 5, none⟩ = some (.int .i64 s1.ve) ∧ World.cell? w2 ⟨r2, 6, none⟩ = some (.int .i64 s1.vh) ∧ World.cell? w2 ⟨r2, 7, none⟩ = some (.int .i64 s1.vu) ∧ World.cell? w2 ⟨r2, 8, none⟩ = some (.int .i64 s1.vs)) (first | with_reducible exact HSC.out) (first | ((with_reducible go_at_call 15); (have q_ := HY9; clear q_); have q9 := vote_z w.heap.size _ 0 r s1 _ HY9.out rfl; (with_reducible refine q9.mono ?_); clear q9; rintro e w1 ⟨rfl, hy, hb⟩; have hs_ := (show _ ∧ _ ∧ _ ∧ _ from rvote_at hy (i := 1) rfl); clear HSC; have HSC := Lib.hid hs_; clear hs_; clear HY9; have HY9 := Lib.hid hy; clear hy; have hb_ := HB.out.trans (hb.mono HB.out.size); clear HB; have HB := Lib.hid hb_; clear hb_ hb))
      all_goals
        go_wp2
        exact ⟨⟨k + 1, s1, by go_num, by omega, HY9, HB, HF1⟩, by simp [intOf]; omega⟩
  · have hlt' : (l.length : Int) ≤ k := by omega
    go_wp2
    go_ret
    exact ⟨rfl, HB.out⟩
end Go.Proofs.Ytpgmfjpjjnpiiaa.RLeaseP
