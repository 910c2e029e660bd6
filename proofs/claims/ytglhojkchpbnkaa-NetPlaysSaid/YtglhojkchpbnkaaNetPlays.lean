/- PROVED: the law NetPlays: the walk. No condition beyond what the row opens. -/
import Derived.Test.YtglhojkchpbnkaaNetD
import Derived.WalkKit
import Derived.WalkSpells
import Derived.WalkLawsBesides
import Derived.Outline
import Derived.Lib.Hide
import Derived.Deep.LoopGhost
import Derived.Deep.RegionHeld3
import Derived.Deep.DeepCutAuto
import Derived.Deep.RegionLaw
import Derived.BigQuiet
import Derived.Deep.QuietTactic
namespace Go.Proofs.Ytglhojkchpbnkaa.NetPlays
open Go.RowKit Go.Proofs.Ytglhojkchpbnkaa.PNetPlays Go.Proofs.Ytglhojkchpbnkaa.Net2 Go.Proofs.Ytglhojkchpbnkaa.NetTake Go.Proofs.YtglhojkchpbnkaaW.PrintWords Go.Proofs.YtglhojkchpbnkaaW.PrintLast Go.Proofs.YtglhojkchpbnkaaW.PrintMore
open Go.Proofs.Ytglhojkchpbnkaa.NetAwake (world_gen)
open Go.Proofs.Ytglhojkchpbnkaa.Net (own_is info29 k29_types at_in len_is look_fin)
set_option linter.unusedSimpArgs false
set_option linter.unusedVariables false
open Go.Proofs.Ytglhojkchpbnkaa.NetA Go.Proofs.Ytglhojkchpbnkaa.NetB Go.Proofs.Ytglhojkchpbnkaa.NetR Go.Proofs.Ytglhojkchpbnkaa.NetS Go.Proofs.Ytglhojkchpbnkaa.NetC
open Go.Proofs.Ytglhojkchpbnkaa.NetD
set_option maxHeartbeats 4000000 in
set_option maxRecDepth 100000 in
theorem plays_walk (A : Option Addr) (cap : Nat) (l : List S50) (w : World) (hC : Kd.C k50 w A l.length l) (hcap : l.length ≤ cap) :
    Calls Try.prog 6 #[.slice A l.length cap] w fun e w' => e = .returned (.bool true) ∧ Below w.heap.size w w' := by
  have HB := Lib.hid (Below.refl w.heap.size w)
  have HC := Lib.hid hC
  obtain ⟨lb, hlb, hsh⟩ := long_f l
  have HLB := Lib.hid hlb
  have HSH := Lib.hid hsh
  have HY0 := Lib.hid (Apt.none_ w.heap.size w)
  clear hC hlb hsh
  rcases lb with _ | _
  rotate_left
  · go_enter Try.func6, Try.ntmps6
    go_wp2_with (first | ((with_reducible go_at_call 20); go_must (refine (long_t l _ A cap _ HLB.out (Kd.C_below HC.out HB.out) hcap).mono ?_; rintro e w1 ⟨rfl, hb⟩; have hy_ := Apt.below HY0.out hb; clear HY0; have HY0 := Lib.hid hy_; clear hy_; have hb_ := below_step HB.out hb; clear HB; have HB := Lib.hid hb_; clear hb_ hb)) | ((with_reducible go_at_call 8); go_must (refine (awake_a _).mono ?_; rintro e w1 ⟨rfl, hb⟩; have hb_ := below_step HB.out hb; clear HB; have HB := Lib.hid hb_; clear hb_ hb)))
    go_ret
    exact ⟨rfl, HB.out⟩
  have hsh := HSH.out rfl
  clear HSH
  have HSH := Lib.hid hsh
  have hl80 := hsh.1
  clear hsh
  go_enter Try.func6, Try.ntmps6
  go_upto_region 5 with (first | ((with_reducible go_at_call 20); go_must (refine (long_t l _ A cap _ HLB.out (Kd.C_below HC.out HB.out) hcap).mono ?_; rintro e w1 ⟨rfl, hb⟩; have hy_ := Apt.below HY0.out hb; clear HY0; have HY0 := Lib.hid hy_; clear hy_; have hb_ := below_step HB.out hb; clear HB; have HB := Lib.hid hb_; clear hb_ hb)) | ((with_reducible go_at_call 9); (have q_ := HY0; clear q_); go_must (refine (new_a HB.out.size HY0.out).mono ?_; rintro e w1 ⟨r, rfl, hy, hb⟩; have HY1 : Hid (Apt w.heap.size w1 [netT r []]) := Lib.hid hy; clear HY0 hy; have hb_ := below_step HB.out hb; clear HB; have HB := Lib.hid hb_; clear hb_ hb)) | ((with_reducible refine gate_dst (N := 21) rfl ?_); (have q_ := HY1; clear q_); refine box_event ?hg (N := 21) ?hd (cs := #[.slice none 0 0]) (t := 48) ?hr ?_; (case hd => rfl); (case hg => rfl); (case hr => first | (go_simp; done) | (go_simp; rfl)); intro r2 hg w1 hbox hb; have hy : Apt w.heap.size w1 [netT r [], refT r2 []] := Apt.add HY1.out hb (ref_new (Nat.le_of_eq hg.symm) HB.out.size hbox); have HY2 := Lib.hid hy; clear HY1 hy hbox hg; have hb_ := below_step HB.out hb; clear HB; have HB := Lib.hid hb_; clear hb_ hb))
  go_loopw [5] (fun u5 wr => ∃ (k : Nat) (ms : List S29), u5 = .int .i64 k ∧ k ≤ l.length ∧ Hid (Apt w.heap.size wr [netT r ms, refT r2 ms]) ∧ Hid (Below w.heap.size w wr) ∧ Hid (okN k ms)) (fun u5 _ => l.length - (intOf u5).toNat)
  case atStart => exact ⟨0, [], rfl, Nat.zero_le _, HY2, HB, Lib.hid okN.nil⟩
  clear HY2 HB
  obtain ⟨k, ms, rfl, hk, HY1, HB, HF⟩ := hrel
  by_cases hlt : k < l.length
  · have hlt' : (k : Int) < l.length := by omega
    obtain ⟨x, hx⟩ : ∃ x, l[k]? = some x := ⟨_, List.getElem?_eq_getElem hlt⟩
    obtain ⟨b, off, A6, c6, rfl, hbw, e0, e1, e2, e3, e4, e5, e6, hc6, hC6⟩ := call_in HC.out hx
    have e0 := cell_b HB.out hbw e0
    have e1 := cell_b HB.out hbw e1
    have e2 := cell_b HB.out hbw e2
    have e3 := cell_b HB.out hbw e3
    have e4 := cell_b HB.out hbw e4
    have e5 := cell_b HB.out hbw e5
    have e6 := cell_b HB.out hbw e6
    have h500 := HSH.out.2 x (List.mem_of_getElem? hx)
    have HA6 : Hid (∀ a, A6 = some a → 0 < x.f4.f2.length → a.block < w.heap.size) := Lib.hid (by
      intro a ha h0
      obtain ⟨b, off, e, hb, _⟩ := LRead.C_addr hC6 (by decide) h0
      rw [ha] at e
      injection e with e
      rw [e]
      exact hb)
    have HC6 := Lib.hid hC6
    clear hx hC6
    go_upto_region 8 with (fail)
    have hP : Apt w.heap.size (wr.alloc (.cells #[.int .i64 x.f0, .int .i64 x.f1, .int .i64 x.f2, .int .u8 x.f3, .int .i64 x.f4.f0, .int .i64 x.f4.f1, .slice A6 x.f4.f2.length c6] 50)) ([netT r ms, refT r2 ms] ++ [blk wr.heap.size #[.int .i64 x.f0, .int .i64 x.f1, .int .i64 x.f2, .int .u8 x.f3, .int .i64 x.f4.f0, .int .i64 x.f4.f1, .slice A6 x.f4.f2.length c6] 50]) ∧ Below w.heap.size w (wr.alloc (.cells #[.int .i64 x.f0, .int .i64 x.f1, .int .i64 x.f2, .int .u8 x.f3, .int .i64 x.f4.f0, .int .i64 x.f4.f1, .slice A6 x.f4.f2.length c6] 50)) :=
      ⟨Apt.add HY1.out (below_alloc (Below.refl _ _) _) ⟨Nat.le_refl _, blk_new wr _⟩, below_step HB.out (below_alloc (Below.refl _ _) _)⟩
    obtain ⟨g, hg⟩ : ∃ g, wr.heap.size = g := ⟨_, rfl⟩
    rw [hg] at hP ⊢
    refine world_gen (P := fun w7 => Apt w.heap.size w7 [netT r ms, refT r2 ms, blk g #[.int .i64 x.f0, .int .i64 x.f1, .int .i64 x.f2, .int .u8 x.f3, .int .i64 x.f4.f0, .int .i64 x.f4.f1, .slice A6 x.f4.f2.length c6] 50] ∧ Below w.heap.size w w7) hP (fun w7 h7 => ?_)
    obtain ⟨hy7, hb7⟩ := h7
    obtain ⟨v0, v1, v2, v3, v4, v5, v6⟩ := held7 hy7 (i := 2) rfl
    clear hP hg e0 e1 e2 e3 e4 e5 e6 HY1 HB
    have HY1 := Lib.hid hy7
    have HB := Lib.hid hb7
    clear hy7 hb7
    by_cases k0 : x.f0 = 0
    · skip
      obtain ⟨m1, hm1⟩ : ∃ y, ms ++ [x.f4] = y := ⟨_, rfl⟩
      have HF1 : Hid (okN (k + 1) m1) := Lib.hid (by rw [← hm1]; exact HF.out.send x.f4 h500)
      have HM := Lib.hid hm1
      clear hm1
      go_upto_region 12 with (fail)
      have hy_ := Apt.below HY1.out (below_drew1 (Below.refl w7.heap.size w7))
      have hb_ := below_drew1 HB.out
      have HSC := Lib.hid (show World.cell? (World.drew w7) ⟨g, 4, none⟩ = some (.int .i64 x.f4.f0) ∧ World.cell? (World.drew w7) ⟨g, 5, none⟩ = some (.int .i64 x.f4.f1) ∧ World.cell? (World.drew w7) ⟨g, 6, none⟩ = some (.slice A6 x.f4.f2.length c6) from ⟨(held7 hy_ (i := 2) rfl).2.2.2.2.1, (held7 hy_ (i := 2) rfl).2.2.2.2.2.1, (held7 hy_ (i := 2) rfl).2.2.2.2.2.2⟩)
      clear HY1 HB v0 v1 v2 v3 v4 v5 v6
      have HY1 := Lib.hid hy_
      have HB := Lib.hid hb_
      clear hy_ hb_
      go_region_held3 (fun w2 => World.cell? w2 ⟨g, 4, none⟩ = some (.int .i64 x.f4.f0) ∧ World.cell? w2 ⟨g, 5, none⟩ = some (.int .i64 x.f4.f1) ∧ World.cell? w2 ⟨g, 6, none⟩ = some (.slice A6 x.f4.f2.length c6)) (first | with_reducible exact HSC.out) (first | ((with_reducible go_at_call 13); (have q_ := HY1; clear q_); have q9 := (copy_z x.f4.f0 x.f4.f1 A6 _ c6 x.f4.f2 _ rfl h500 ⟨hc6, C_low HC6.out HA6.out HB.out⟩); (with_reducible refine q9.mono ?_); clear q9; rintro e w1 ⟨Ao, co, rfl, hcp, hb⟩; have hy := Apt.below HY1.out hb; have hy : Apt w.heap.size w1 [netT r ms, refT r2 ms, blk g #[.int .i64 x.f0, .int .i64 x.f1, .int .i64 x.f2, .int .u8 x.f3, .int .i64 x.f4.f0, .int .i64 x.f4.f1, .slice A6 x.f4.f2.length c6] 50] := hy; have HCP := Lib.hid hcp; clear hcp; have hs_ := (show _ ∧ _ ∧ _ from ⟨(held7 hy (i := 2) rfl).2.2.2.2.1, (held7 hy (i := 2) rfl).2.2.2.2.2.1, (held7 hy (i := 2) rfl).2.2.2.2.2.2⟩); clear HSC; have HSC := Lib.hid hs_; clear hs_; have HY2 := Lib.hid hy; clear HY1 hy; have hb_ := below_step HB.out hb; clear HB; have HB := Lib.hid hb_; clear hb_ hb) | ((with_reducible go_at_call 10); (have q_ := HY2; clear q_); have q9 := (send_a HY2.out (i := 0) rfl x.f4.f0 x.f4.f1 Ao _ co x.f4.f2 rfl (by have := HF.out.len; omega) (by omega) HCP.out.2 HCP.out.1 HM.out rfl); (with_reducible refine q9.mono ?_); clear q9; rintro e w1 ⟨rfl, hy, hb⟩; have hy : Apt w.heap.size w1 [netT r m1, refT r2 ms, blk g #[.int .i64 x.f0, .int .i64 x.f1, .int .i64 x.f2, .int .u8 x.f3, .int .i64 x.f4.f0, .int .i64 x.f4.f1, .slice A6 x.f4.f2.length c6] 50] := hy; clear HCP; have hs_ := (show _ ∧ _ ∧ _ from ⟨(held7 hy (i := 2) rfl).2.2.2.2.1, (held7 hy (i := 2) rfl).2.2.2.2.2.1, (held7 hy (i := 2) rfl).2.2.2.2.2.2⟩); clear HSC; have HSC := Lib.hid hs_; clear hs_; have HY3 := Lib.hid hy; clear HY2 hy; have hb_ := HB.out.trans hb; clear HB; have HB := Lib.hid hb_; clear hb_ hb) | ((with_reducible go_at_call 21); (have q_ := HY3; clear q_); have q9 := (send_r HY3.out (i := 1) rfl x.f4.f0 x.f4.f1 A6 _ c6 x.f4.f2 rfl (by have := HF.out.len; omega) (by omega) (C_low HC6.out HA6.out HB.out) hc6 HM.out rfl); (with_reducible refine q9.mono ?_); clear q9; rintro e w1 ⟨rfl, hy, hb⟩; have hy : Apt w.heap.size w1 [netT r m1, refT r2 m1, blk g #[.int .i64 x.f0, .int .i64 x.f1, .int .i64 x.f2, .int .u8 x.f3, .int .i64 x.f4.f0, .int .i64 x.f4.f1, .slice A6 x.f4.f2.length c6] 50] := hy; have hs_ := (show _ ∧ _ ∧ _ from ⟨(held7 hy (i := 2) rfl).2.2.2.2.1, (held7 hy (i := 2) rfl).2.2.2.2.2.1, (held7 hy (i := 2) rfl).2.2.2.2.2.2⟩); clear HSC; have HSC := Lib.hid hs_; clear hs_; have HY9 := Lib.hid hy; clear HY3 hy; have hb_ := HB.out.trans hb; clear HB; have HB := Lib.hid hb_; clear hb_ hb))
      all_goals
        obtain ⟨A5, c5, h5, _, _⟩ := ref_cell HY9.out (i := 1) rfl
        have H5 := Lib.hid h5
        clear h5
        go_upto_region 25 with (fail)
        have hy_ := Apt.below HY9.out (below_drew1 (Below.refl _ _))
        have hb_ := below_drew1 HB.out
        have HSC := Lib.hid ((World.cell?_drew _ _).trans H5.out)
        clear HY9 HB H5
        have HY9 := Lib.hid hy_
        have HB := Lib.hid hb_
        clear hy_ hb_
        go_region_held3 (fun w2 => w2.cell? ⟨r2, 0, none⟩ = some (.slice A5 m1.length c5)) (first | with_reducible exact HSC.out) (first | ((with_reducible go_at_call 11); (have q_ := HY9; clear q_); have q9 := len_a HY9.out (i := 0) rfl; (with_reducible refine q9.mono ?_); clear q9; rintro e w1 ⟨rfl, rfl⟩))
        all_goals
          go_wp2
          exact ⟨⟨k + 1, m1, by go_num, by omega, Lib.hid (HY9.out.take 2 : Apt w.heap.size _ [netT r m1, refT r2 m1]), HB, HF1⟩, by simp [intOf]; omega⟩
    by_cases k1 : x.f0 = 1
    · have k0' : (x.f0 == 0) = false := by simpa using k0
      clear k0
      obtain ⟨⟨p, kk⟩, hx⟩ : ∃ y, lookS ms x.f1 = y := ⟨_, rfl⟩
      have hp5 : p.f2.length ≤ 500 := by have := HF.out.look x.f1; rw [hx] at this; exact this
      have HX := Lib.hid hx
      clear hx
      have HF1 : Hid (okN (k + 1) ms) := Lib.hid (HF.out.mono (Nat.le_add_right _ _))
      go_upto_region 15 with (first | ((with_reducible go_at_call 14); (have q_ := HY1; clear q_); go_must (refine (look_a HY1.out (i := 0) rfl x.f1 p kk HX.out HF.out.b6).mono ?_; rintro e w1 ⟨A1, c1, rfl, hc, hb⟩; have HC1 := Lib.hid hc; have hy := Apt.below HY1.out hb; clear HY1 hc; have HY2 : Hid (Apt w.heap.size w1 [netT r ms, refT r2 ms, blk g #[.int .i64 x.f0, .int .i64 x.f1, .int .i64 x.f2, .int .u8 x.f3, .int .i64 x.f4.f0, .int .i64 x.f4.f1, .slice A6 x.f4.f2.length c6] 50]) := Lib.hid hy; clear hy; (try clear v0 v1 v2 v3 v4 v5 v6); obtain ⟨v0, v1, v2, v3, v4, v5, v6⟩ := held7 HY2.out (i := 2) rfl; have hb_ := below_step HB.out hb; clear HB; have HB := Lib.hid hb_; clear hb_ hb)))
      have hP : Apt w.heap.size (w1.alloc (.cells #[.int .i64 p.f0, .int .i64 p.f1, .slice A1 p.f2.length c1] 29)) ([netT r ms, refT r2 ms, blk g #[.int .i64 x.f0, .int .i64 x.f1, .int .i64 x.f2, .int .u8 x.f3, .int .i64 x.f4.f0, .int .i64 x.f4.f1, .slice A6 x.f4.f2.length c6] 50] ++ [blk w1.heap.size #[.int .i64 p.f0, .int .i64 p.f1, .slice A1 p.f2.length c1] 29]) ∧ Below w.heap.size w (w1.alloc (.cells #[.int .i64 p.f0, .int .i64 p.f1, .slice A1 p.f2.length c1] 29)) ∧ p.f2.length ≤ c1 ∧ Kd.C (Kd.int .u8) (w1.alloc (.cells #[.int .i64 p.f0, .int .i64 p.f1, .slice A1 p.f2.length c1] 29)) A1 p.f2.length p.f2 :=
        ⟨Apt.add HY2.out (below_alloc (Below.refl _ _) _) ⟨Nat.le_refl _, blk_new w1 _⟩, below_step HB.out (below_alloc (Below.refl _ _) _), ⟨HC1.out.1, Kd.C_below HC1.out.2 (below_alloc (Below.refl _ _) _)⟩⟩
      obtain ⟨g1, hg⟩ : ∃ g, w1.heap.size = g := ⟨_, rfl⟩
      rw [hg] at hP ⊢
      refine world_gen (P := fun w7 => Apt w.heap.size w7 ([netT r ms, refT r2 ms, blk g #[.int .i64 x.f0, .int .i64 x.f1, .int .i64 x.f2, .int .u8 x.f3, .int .i64 x.f4.f0, .int .i64 x.f4.f1, .slice A6 x.f4.f2.length c6] 50] ++ [blk g1 #[.int .i64 p.f0, .int .i64 p.f1, .slice A1 p.f2.length c1] 29]) ∧ Below w.heap.size w w7 ∧ p.f2.length ≤ c1 ∧ Kd.C (Kd.int .u8) w7 A1 p.f2.length p.f2) hP (fun w7 h7 => ?_)
      have HY3 := Lib.hid h7.1
      have HB_ := Lib.hid h7.2.1
      have HC1_ := Lib.hid h7.2.2
      clear HC1 v0 v1 v2 v3 v4 v5 v6
      have HC1 := HC1_
      clear HC1_
      have v1 := (held7 HY3.out (i := 2) rfl).2.1
      clear hP hg HY2 HB h7
      have HB := HB_
      clear HB_
      go_upto_region 16 with (first | ((with_reducible go_at_call 22); (have q_ := HY3; clear q_); go_must (refine (look_r HY3.out (i := 1) rfl x.f1 p kk HX.out HF.out.b6).mono ?_; rintro e w1 ⟨A2, c2, rfl, hc, hb⟩; have HC2 := Lib.hid hc; have hc1_ := (⟨HC1.out.1, Kd.C_below HC1.out.2 hb⟩ : _ ∧ _); clear HC1; have HC1 := Lib.hid hc1_; clear hc1_; have hy := Apt.below HY3.out hb; clear HY3 hc; have HY4 : Hid (Apt w.heap.size w1 ([netT r ms, refT r2 ms, blk g #[.int .i64 x.f0, .int .i64 x.f1, .int .i64 x.f2, .int .u8 x.f3, .int .i64 x.f4.f0, .int .i64 x.f4.f1, .slice A6 x.f4.f2.length c6] 50] ++ [blk g1 #[.int .i64 p.f0, .int .i64 p.f1, .slice A1 p.f2.length c1] 29])) := Lib.hid hy; clear hy v1; have hb_ := below_step HB.out hb; clear HB; have HB := Lib.hid hb_; clear hb_ hb)))
      have hP : Apt w.heap.size (w1.alloc (.cells #[.int .i64 p.f0, .int .i64 p.f1, .slice A2 p.f2.length c2] 29)) ([netT r ms, refT r2 ms, blk g #[.int .i64 x.f0, .int .i64 x.f1, .int .i64 x.f2, .int .u8 x.f3, .int .i64 x.f4.f0, .int .i64 x.f4.f1, .slice A6 x.f4.f2.length c6] 50] ++ [blk g1 #[.int .i64 p.f0, .int .i64 p.f1, .slice A1 p.f2.length c1] 29] ++ [blk w1.heap.size #[.int .i64 p.f0, .int .i64 p.f1, .slice A2 p.f2.length c2] 29]) ∧ Below w.heap.size w (w1.alloc (.cells #[.int .i64 p.f0, .int .i64 p.f1, .slice A2 p.f2.length c2] 29)) ∧ (p.f2.length ≤ c1 ∧ Kd.C (Kd.int .u8) (w1.alloc (.cells #[.int .i64 p.f0, .int .i64 p.f1, .slice A2 p.f2.length c2] 29)) A1 p.f2.length p.f2) ∧ (p.f2.length ≤ c2 ∧ Kd.C (Kd.int .u8) (w1.alloc (.cells #[.int .i64 p.f0, .int .i64 p.f1, .slice A2 p.f2.length c2] 29)) A2 p.f2.length p.f2) :=
        ⟨Apt.add HY4.out (below_alloc (Below.refl _ _) _) ⟨Nat.le_refl _, blk_new w1 _⟩, below_step HB.out (below_alloc (Below.refl _ _) _), ⟨HC1.out.1, Kd.C_below HC1.out.2 (below_alloc (Below.refl _ _) _)⟩, ⟨HC2.out.1, Kd.C_below HC2.out.2 (below_alloc (Below.refl _ _) _)⟩⟩
      obtain ⟨g2, hg⟩ : ∃ g, w1.heap.size = g := ⟨_, rfl⟩
      rw [hg] at hP ⊢
      refine world_gen (P := fun w7 => Apt w.heap.size w7 ([netT r ms, refT r2 ms, blk g #[.int .i64 x.f0, .int .i64 x.f1, .int .i64 x.f2, .int .u8 x.f3, .int .i64 x.f4.f0, .int .i64 x.f4.f1, .slice A6 x.f4.f2.length c6] 50] ++ [blk g1 #[.int .i64 p.f0, .int .i64 p.f1, .slice A1 p.f2.length c1] 29] ++ [blk g2 #[.int .i64 p.f0, .int .i64 p.f1, .slice A2 p.f2.length c2] 29]) ∧ Below w.heap.size w w7 ∧ (p.f2.length ≤ c1 ∧ Kd.C (Kd.int .u8) w7 A1 p.f2.length p.f2) ∧ (p.f2.length ≤ c2 ∧ Kd.C (Kd.int .u8) w7 A2 p.f2.length p.f2)) hP (fun w7 h7 => ?_)
      have HY5 := Lib.hid h7.1
      have HB_ := Lib.hid h7.2.1
      have HC1_ := Lib.hid h7.2.2.1
      have HC2_ := Lib.hid h7.2.2.2
      clear HC1 HC2
      have HC1 := HC1_
      have HC2 := HC2_
      clear HC1_ HC2_
      obtain ⟨y0, y1, y2⟩ := held3 HY5.out (i := 3) rfl
      obtain ⟨z0, z1, z2⟩ := held3 HY5.out (i := 4) rfl
      clear hP hg HY4 HB h7
      have HB := HB_
      clear HB_
      go_upto_region 25 with (first | ((with_reducible go_at_call 15); (have q_ := HY5; clear q_); go_must (refine (one_z A1 A2 _ _ c1 c2 p.f0 p.f1 p.f2 _ rfl rfl hp5 HC1.out HC2.out).mono ?_; rintro e w1 ⟨rfl, hb⟩; have hy := Apt.below HY5.out hb; clear HY5; have HY5 : Hid (Apt w.heap.size w1 ([netT r ms, refT r2 ms, blk g #[.int .i64 x.f0, .int .i64 x.f1, .int .i64 x.f2, .int .u8 x.f3, .int .i64 x.f4.f0, .int .i64 x.f4.f1, .slice A6 x.f4.f2.length c6] 50] ++ [blk g1 #[.int .i64 p.f0, .int .i64 p.f1, .slice A1 p.f2.length c1] 29] ++ [blk g2 #[.int .i64 p.f0, .int .i64 p.f1, .slice A2 p.f2.length c2] 29])) := Lib.hid hy; clear hy; have hb_ := below_step HB.out hb; clear HB; have HB := Lib.hid hb_; clear hb_ hb)))
      have HY9 := Lib.hid (HY5.out.take 3 : Apt w.heap.size _ [netT r ms, refT r2 ms, blk g #[.int .i64 x.f0, .int .i64 x.f1, .int .i64 x.f2, .int .u8 x.f3, .int .i64 x.f4.f0, .int .i64 x.f4.f1, .slice A6 x.f4.f2.length c6] 50])
      clear HY5
      obtain ⟨A5, c5, h5, _, _⟩ := ref_cell HY9.out (i := 1) rfl
      have H5 := Lib.hid h5
      clear h5
      have hy_ := Apt.below HY9.out (below_drew1 (Below.refl _ _))
      have hb_ := below_drew1 HB.out
      have HSC := Lib.hid ((World.cell?_drew _ _).trans H5.out)
      clear HY9 HB H5
      have HY9 := Lib.hid hy_
      have HB := Lib.hid hb_
      clear hy_ hb_
      go_region_held3 (fun w2 => w2.cell? ⟨r2, 0, none⟩ = some (.slice A5 ms.length c5)) (first | with_reducible exact HSC.out) (first | ((with_reducible go_at_call 11); (have q_ := HY9; clear q_); have q9 := len_a HY9.out (i := 0) rfl; (with_reducible refine q9.mono ?_); clear q9; rintro e w1 ⟨rfl, rfl⟩))
      all_goals
        go_wp2
        exact ⟨⟨k + 1, ms, by go_num, by omega, Lib.hid (HY9.out.take 2 : Apt w.heap.size _ [netT r ms, refT r2 ms]), HB, HF1⟩, by simp [intOf]; omega⟩
    by_cases k2 : x.f0 = 2
    · have k0' : (x.f0 == 0) = false := by simpa using k0
      have k1' : (x.f0 == 1) = false := by simpa using k1
      clear k0 k1
      obtain ⟨⟨p, kk⟩, hx⟩ : ∃ y, lookS ms x.f1 = y := ⟨_, rfl⟩
      have hp5 : p.f2.length ≤ 500 := by have := HF.out.look x.f1; rw [hx] at this; exact this
      have HX := Lib.hid hx
      clear hx
      obtain ⟨m1, hm1⟩ : ∃ y, takeS ms x.f1 = y := ⟨_, rfl⟩
      have HF1 : Hid (okN (k + 1) m1) := Lib.hid (by rw [← hm1]; exact HF.out.take x.f1)
      have HM := Lib.hid hm1
      clear hm1
      go_upto_region 19 with (first | ((with_reducible go_at_call 19); (have q_ := HY1; clear q_); go_must (refine (take_a HY1.out (i := 0) rfl HB.out.size x.f1 p kk HX.out HM.out).mono ?_; rintro e w1 ⟨A1, c1, rfl, hy, hb⟩; have HY2 : Hid (Apt w.heap.size w1 [(netT r m1).both (rowT (.slice A1 p.f2.length c1) p.f2), refT r2 ms, blk g #[.int .i64 x.f0, .int .i64 x.f1, .int .i64 x.f2, .int .u8 x.f3, .int .i64 x.f4.f0, .int .i64 x.f4.f1, .slice A6 x.f4.f2.length c6] 50]) := Lib.hid hy; clear HY1 hy; (try clear v0 v1 v2 v3 v4 v5 v6); have hb_ := HB.out.trans hb; clear HB; have HB := Lib.hid hb_; clear hb_ hb)))
      have hP : Apt w.heap.size (w1.alloc (.cells #[.int .i64 p.f0, .int .i64 p.f1, .slice A1 p.f2.length c1] 29)) ([(netT r m1).both (rowT (.slice A1 p.f2.length c1) p.f2), refT r2 ms, blk g #[.int .i64 x.f0, .int .i64 x.f1, .int .i64 x.f2, .int .u8 x.f3, .int .i64 x.f4.f0, .int .i64 x.f4.f1, .slice A6 x.f4.f2.length c6] 50] ++ [blk w1.heap.size #[.int .i64 p.f0, .int .i64 p.f1, .slice A1 p.f2.length c1] 29]) ∧ Below w.heap.size w (w1.alloc (.cells #[.int .i64 p.f0, .int .i64 p.f1, .slice A1 p.f2.length c1] 29)) :=
        ⟨Apt.add HY2.out (below_alloc (Below.refl _ _) _) ⟨Nat.le_refl _, blk_new w1 _⟩, below_step HB.out (below_alloc (Below.refl _ _) _)⟩
      obtain ⟨g1, hg⟩ : ∃ g, w1.heap.size = g := ⟨_, rfl⟩
      rw [hg] at hP ⊢
      refine world_gen (P := fun w7 => Apt w.heap.size w7 ([(netT r m1).both (rowT (.slice A1 p.f2.length c1) p.f2), refT r2 ms, blk g #[.int .i64 x.f0, .int .i64 x.f1, .int .i64 x.f2, .int .u8 x.f3, .int .i64 x.f4.f0, .int .i64 x.f4.f1, .slice A6 x.f4.f2.length c6] 50] ++ [blk g1 #[.int .i64 p.f0, .int .i64 p.f1, .slice A1 p.f2.length c1] 29]) ∧ Below w.heap.size w w7) hP (fun w7 h7 => ?_)
      have HY3 := Lib.hid h7.1
      have HB_ := Lib.hid h7.2
      have v1 := (held7 HY3.out (i := 2) rfl).2.1
      clear hP hg HY2 HB h7
      have HB := HB_
      clear HB_
      go_upto_region 20 with (first | ((with_reducible go_at_call 23); (have q_ := HY3; clear q_); go_must (refine (take_r HY3.out (i := 1) rfl HB.out.size (by have := HF.out.len; omega) x.f1 p kk HX.out HM.out).mono ?_; rintro e w1 ⟨A2, c2, rfl, hy, hb⟩; have HY4 : Hid (Apt w.heap.size w1 ([(netT r m1).both (rowT (.slice A1 p.f2.length c1) p.f2), (refT r2 m1).both (rowT (.slice A2 p.f2.length c2) p.f2), blk g #[.int .i64 x.f0, .int .i64 x.f1, .int .i64 x.f2, .int .u8 x.f3, .int .i64 x.f4.f0, .int .i64 x.f4.f1, .slice A6 x.f4.f2.length c6] 50] ++ [blk g1 #[.int .i64 p.f0, .int .i64 p.f1, .slice A1 p.f2.length c1] 29])) := Lib.hid hy; clear HY3 hy v1; have hb_ := HB.out.trans hb; clear HB; have HB := Lib.hid hb_; clear hb_ hb)))
      have hP : Apt w.heap.size (w1.alloc (.cells #[.int .i64 p.f0, .int .i64 p.f1, .slice A2 p.f2.length c2] 29)) ([(netT r m1).both (rowT (.slice A1 p.f2.length c1) p.f2), (refT r2 m1).both (rowT (.slice A2 p.f2.length c2) p.f2), blk g #[.int .i64 x.f0, .int .i64 x.f1, .int .i64 x.f2, .int .u8 x.f3, .int .i64 x.f4.f0, .int .i64 x.f4.f1, .slice A6 x.f4.f2.length c6] 50] ++ [blk g1 #[.int .i64 p.f0, .int .i64 p.f1, .slice A1 p.f2.length c1] 29] ++ [blk w1.heap.size #[.int .i64 p.f0, .int .i64 p.f1, .slice A2 p.f2.length c2] 29]) ∧ Below w.heap.size w (w1.alloc (.cells #[.int .i64 p.f0, .int .i64 p.f1, .slice A2 p.f2.length c2] 29)) :=
        ⟨Apt.add HY4.out (below_alloc (Below.refl _ _) _) ⟨Nat.le_refl _, blk_new w1 _⟩, below_step HB.out (below_alloc (Below.refl _ _) _)⟩
      obtain ⟨g2, hg⟩ : ∃ g, w1.heap.size = g := ⟨_, rfl⟩
      rw [hg] at hP ⊢
      refine world_gen (P := fun w7 => Apt w.heap.size w7 ([(netT r m1).both (rowT (.slice A1 p.f2.length c1) p.f2), (refT r2 m1).both (rowT (.slice A2 p.f2.length c2) p.f2), blk g #[.int .i64 x.f0, .int .i64 x.f1, .int .i64 x.f2, .int .u8 x.f3, .int .i64 x.f4.f0, .int .i64 x.f4.f1, .slice A6 x.f4.f2.length c6] 50] ++ [blk g1 #[.int .i64 p.f0, .int .i64 p.f1, .slice A1 p.f2.length c1] 29] ++ [blk g2 #[.int .i64 p.f0, .int .i64 p.f1, .slice A2 p.f2.length c2] 29]) ∧ Below w.heap.size w w7) hP (fun w7 h7 => ?_)
      have HY5 := Lib.hid h7.1
      have HB_ := Lib.hid h7.2
      obtain ⟨y0, y1, y2⟩ := held3 HY5.out (i := 3) rfl
      obtain ⟨z0, z1, z2⟩ := held3 HY5.out (i := 4) rfl
      clear hP hg HY4 HB h7
      have HB := HB_
      clear HB_
      go_upto_region 25 with (first | ((with_reducible go_at_call 15); (have q_ := HY5; clear q_); go_must (refine (one_z A1 A2 _ _ c1 c2 p.f0 p.f1 p.f2 _ rfl rfl hp5 (both_row HY5.out (i := 0) rfl).2 (both_row HY5.out (i := 1) rfl).2).mono ?_; rintro e w1 ⟨rfl, hb⟩; have hy := Apt.below HY5.out hb; clear HY5; have HY5 : Hid (Apt w.heap.size w1 ([(netT r m1).both (rowT (.slice A1 p.f2.length c1) p.f2), (refT r2 m1).both (rowT (.slice A2 p.f2.length c2) p.f2), blk g #[.int .i64 x.f0, .int .i64 x.f1, .int .i64 x.f2, .int .u8 x.f3, .int .i64 x.f4.f0, .int .i64 x.f4.f1, .slice A6 x.f4.f2.length c6] 50] ++ [blk g1 #[.int .i64 p.f0, .int .i64 p.f1, .slice A1 p.f2.length c1] 29] ++ [blk g2 #[.int .i64 p.f0, .int .i64 p.f1, .slice A2 p.f2.length c2] 29])) := Lib.hid hy; clear hy; have hb_ := below_step HB.out hb; clear HB; have HB := Lib.hid hb_; clear hb_ hb)))
      have hy_ := both_drop (both_drop (HY5.out.take 3 : Apt w.heap.size _ [(netT r m1).both (rowT (.slice A1 p.f2.length c1) p.f2), (refT r2 m1).both (rowT (.slice A2 p.f2.length c2) p.f2), blk g #[.int .i64 x.f0, .int .i64 x.f1, .int .i64 x.f2, .int .u8 x.f3, .int .i64 x.f4.f0, .int .i64 x.f4.f1, .slice A6 x.f4.f2.length c6] 50]) (i := 0) rfl rfl) (i := 1) rfl rfl
      have HY9 : Hid (Apt w.heap.size _ [netT r m1, refT r2 m1, blk g #[.int .i64 x.f0, .int .i64 x.f1, .int .i64 x.f2, .int .u8 x.f3, .int .i64 x.f4.f0, .int .i64 x.f4.f1, .slice A6 x.f4.f2.length c6] 50]) := Lib.hid hy_
      clear HY5 hy_
      obtain ⟨A5, c5, h5, _, _⟩ := ref_cell HY9.out (i := 1) rfl
      have H5 := Lib.hid h5
      clear h5
      have hy_ := Apt.below HY9.out (below_drew1 (Below.refl _ _))
      have hb_ := below_drew1 HB.out
      have HSC := Lib.hid ((World.cell?_drew _ _).trans H5.out)
      clear HY9 HB H5
      have HY9 := Lib.hid hy_
      have HB := Lib.hid hb_
      clear hy_ hb_
      go_region_held3 (fun w2 => w2.cell? ⟨r2, 0, none⟩ = some (.slice A5 m1.length c5)) (first | with_reducible exact HSC.out) (first | ((with_reducible go_at_call 11); (have q_ := HY9; clear q_); have q9 := len_a HY9.out (i := 0) rfl; (with_reducible refine q9.mono ?_); clear q9; rintro e w1 ⟨rfl, rfl⟩))
      all_goals
        go_wp2
        exact ⟨⟨k + 1, m1, by go_num, by omega, Lib.hid (HY9.out.take 2 : Apt w.heap.size _ [netT r m1, refT r2 m1]), HB, HF1⟩, by simp [intOf]; omega⟩
    by_cases k3 : x.f0 = 3
    · have k0' : (x.f0 == 0) = false := by simpa using k0
      have k1' : (x.f0 == 1) = false := by simpa using k1
      have k2' : (x.f0 == 2) = false := by simpa using k2
      clear k0 k1 k2
      obtain ⟨⟨kk, m1⟩, hx⟩ : ∃ y, twiceS ms x.f1 = y := ⟨_, rfl⟩
      have HF1 : Hid (okN (k + 1) m1) := Lib.hid (by have := HF.out.twice x.f1; rw [hx] at this; exact this)
      have HX := Lib.hid hx
      clear hx
      go_upto_region 22 with (fail)
      have hy_ := Apt.below HY1.out (below_drew1 (Below.refl w7.heap.size w7))
      have hb_ := below_drew1 HB.out
      have HSC := Lib.hid (show World.cell? (World.drew w7) ⟨g, 1, none⟩ = some (.int .i64 x.f1) from (held7 hy_ (i := 2) rfl).2.1)
      clear HY1 HB v0 v1 v2 v3 v4 v5 v6
      have HY1 := Lib.hid hy_
      have HB := Lib.hid hb_
      clear hy_ hb_
      go_region_held3 (fun w2 => World.cell? w2 ⟨g, 1, none⟩ = some (.int .i64 x.f1)) (first | with_reducible exact HSC.out) (first | ((with_reducible go_at_call 12); (have q_ := HY1; clear q_); have q9 := (twice_a HY1.out (i := 0) rfl x.f1 kk (by have := HF.out.len; omega) HF.out.b6 HX.out rfl); (with_reducible refine q9.mono ?_); clear q9; rintro e w1 ⟨rfl, hy, hb⟩; have hy : Apt w.heap.size w1 [netT r m1, refT r2 ms, blk g #[.int .i64 x.f0, .int .i64 x.f1, .int .i64 x.f2, .int .u8 x.f3, .int .i64 x.f4.f0, .int .i64 x.f4.f1, .slice A6 x.f4.f2.length c6] 50] := hy; have hs_ := (held7 hy (i := 2) rfl).2.1; clear HSC; have HSC := Lib.hid hs_; clear hs_; have HY2 := Lib.hid hy; clear HY1 hy; have hb_ := HB.out.trans hb; clear HB; have HB := Lib.hid hb_; clear hb_ hb) | ((with_reducible go_at_call 24); (have q_ := HY2; clear q_); have q9 := (twice_r HY2.out (i := 1) rfl x.f1 kk (by have := HF.out.len; omega) HF.out.b6 HX.out rfl); (with_reducible refine q9.mono ?_); clear q9; rintro e w1 ⟨rfl, hy, hb⟩; have hy : Apt w.heap.size w1 [netT r m1, refT r2 m1, blk g #[.int .i64 x.f0, .int .i64 x.f1, .int .i64 x.f2, .int .u8 x.f3, .int .i64 x.f4.f0, .int .i64 x.f4.f1, .slice A6 x.f4.f2.length c6] 50] := hy; have hs_ := (held7 hy (i := 2) rfl).2.1; clear HSC; have HSC := Lib.hid hs_; clear hs_; have HY9 := Lib.hid hy; clear HY2 hy; have hb_ := HB.out.trans hb; clear HB; have HB := Lib.hid hb_; clear hb_ hb))
      all_goals
        obtain ⟨A5, c5, h5, _, _⟩ := ref_cell HY9.out (i := 1) rfl
        have H5 := Lib.hid h5
        clear h5
        go_upto_region 25 with (fail)
        have hy_ := Apt.below HY9.out (below_drew1 (Below.refl _ _))
        have hb_ := below_drew1 HB.out
        have HSC := Lib.hid ((World.cell?_drew _ _).trans H5.out)
        clear HY9 HB H5
        have HY9 := Lib.hid hy_
        have HB := Lib.hid hb_
        clear hy_ hb_
        go_region_held3 (fun w2 => w2.cell? ⟨r2, 0, none⟩ = some (.slice A5 m1.length c5)) (first | with_reducible exact HSC.out) (first | ((with_reducible go_at_call 11); (have q_ := HY9; clear q_); have q9 := len_a HY9.out (i := 0) rfl; (with_reducible refine q9.mono ?_); clear q9; rintro e w1 ⟨rfl, rfl⟩))
        all_goals
          go_wp2
          exact ⟨⟨k + 1, m1, by go_num, by omega, Lib.hid (HY9.out.take 2 : Apt w.heap.size _ [netT r m1, refT r2 m1]), HB, HF1⟩, by simp [intOf]; omega⟩
    by_cases k4 : x.f0 = 4
    · have k0' : (x.f0 == 0) = false := by simpa using k0
      have k1' : (x.f0 == 1) = false := by simpa using k1
      have k2' : (x.f0 == 2) = false := by simpa using k2
      have k3' : (x.f0 == 3) = false := by simpa using k3
      clear k0 k1 k2 k3
      obtain ⟨⟨kk, m1⟩, hx⟩ : ∃ y, spoilS ms x.f1 x.f2 x.f3 = y := ⟨_, rfl⟩
      have HF1 : Hid (okN (k + 1) m1) := Lib.hid (by have := HF.out.spoil x.f1 x.f2 x.f3; rw [hx] at this; exact this)
      have HX := Lib.hid hx
      clear hx
      go_upto_region 24 with (fail)
      have hy_ := Apt.below HY1.out (below_drew1 (Below.refl w7.heap.size w7))
      have hb_ := below_drew1 HB.out
      have HSC := Lib.hid (show World.cell? (World.drew w7) ⟨g, 1, none⟩ = some (.int .i64 x.f1) ∧ World.cell? (World.drew w7) ⟨g, 2, none⟩ = some (.int .i64 x.f2) ∧ World.cell? (World.drew w7) ⟨g, 3, none⟩ = some (.int .u8 x.f3) from ⟨(held7 hy_ (i := 2) rfl).2.1, (held7 hy_ (i := 2) rfl).2.2.1, (held7 hy_ (i := 2) rfl).2.2.2.1⟩)
      clear HY1 HB v0 v1 v2 v3 v4 v5 v6
      have HY1 := Lib.hid hy_
      have HB := Lib.hid hb_
      clear hy_ hb_
      go_region_held3 (fun w2 => World.cell? w2 ⟨g, 1, none⟩ = some (.int .i64 x.f1) ∧ World.cell? w2 ⟨g, 2, none⟩ = some (.int .i64 x.f2) ∧ World.cell? w2 ⟨g, 3, none⟩ = some (.int .u8 x.f3)) (first | with_reducible exact HSC.out) (first | ((with_reducible go_at_call 16); (have q_ := HY1; clear q_); have q9 := (spoil_a HY1.out (i := 0) rfl x.f1 x.f2 x.f3 kk HF.out.b6 HX.out rfl); (with_reducible refine q9.mono ?_); clear q9; rintro e w1 ⟨rfl, hy, hb⟩; have hy : Apt w.heap.size w1 [netT r m1, refT r2 ms, blk g #[.int .i64 x.f0, .int .i64 x.f1, .int .i64 x.f2, .int .u8 x.f3, .int .i64 x.f4.f0, .int .i64 x.f4.f1, .slice A6 x.f4.f2.length c6] 50] := hy; have hs_ := (show _ ∧ _ ∧ _ from ⟨(held7 hy (i := 2) rfl).2.1, (held7 hy (i := 2) rfl).2.2.1, (held7 hy (i := 2) rfl).2.2.2.1⟩); clear HSC; have HSC := Lib.hid hs_; clear hs_; have HY2 := Lib.hid hy; clear HY1 hy; have hb_ := HB.out.trans hb; clear HB; have HB := Lib.hid hb_; clear hb_ hb) | ((with_reducible go_at_call 25); (have q_ := HY2; clear q_); have q9 := (spoil_r HY2.out (i := 1) rfl x.f1 x.f2 x.f3 kk HF.out.b6 HX.out rfl); (with_reducible refine q9.mono ?_); clear q9; rintro e w1 ⟨rfl, hy, hb⟩; have hy : Apt w.heap.size w1 [netT r m1, refT r2 m1, blk g #[.int .i64 x.f0, .int .i64 x.f1, .int .i64 x.f2, .int .u8 x.f3, .int .i64 x.f4.f0, .int .i64 x.f4.f1, .slice A6 x.f4.f2.length c6] 50] := hy; have hs_ := (show _ ∧ _ ∧ _ from ⟨(held7 hy (i := 2) rfl).2.1, (held7 hy (i := 2) rfl).2.2.1, (held7 hy (i := 2) rfl).2.2.2.1⟩); clear HSC; have HSC := Lib.hid hs_; clear hs_; have HY9 := Lib.hid hy; clear HY2 hy; have hb_ := HB.out.trans hb; clear HB; have HB := Lib.hid hb_; clear hb_ hb))
      all_goals
        obtain ⟨A5, c5, h5, _, _⟩ := ref_cell HY9.out (i := 1) rfl
        have H5 := Lib.hid h5
        clear h5
        go_upto_region 25 with (fail)
        have hy_ := Apt.below HY9.out (below_drew1 (Below.refl _ _))
        have hb_ := below_drew1 HB.out
        have HSC := Lib.hid ((World.cell?_drew _ _).trans H5.out)
        clear HY9 HB H5
        have HY9 := Lib.hid hy_
        have HB := Lib.hid hb_
        clear hy_ hb_
        go_region_held3 (fun w2 => w2.cell? ⟨r2, 0, none⟩ = some (.slice A5 m1.length c5)) (first | with_reducible exact HSC.out) (first | ((with_reducible go_at_call 11); (have q_ := HY9; clear q_); have q9 := len_a HY9.out (i := 0) rfl; (with_reducible refine q9.mono ?_); clear q9; rintro e w1 ⟨rfl, rfl⟩))
        all_goals
          go_wp2
          exact ⟨⟨k + 1, m1, by go_num, by omega, Lib.hid (HY9.out.take 2 : Apt w.heap.size _ [netT r m1, refT r2 m1]), HB, HF1⟩, by simp [intOf]; omega⟩
    · have k0' : (x.f0 == 0) = false := by simpa using k0
      have k1' : (x.f0 == 1) = false := by simpa using k1
      have k2' : (x.f0 == 2) = false := by simpa using k2
      have k3' : (x.f0 == 3) = false := by simpa using k3
      have k4' : (x.f0 == 4) = false := by simpa using k4
      clear k0 k1 k2 k3 k4
      have HF1 : Hid (okN (k + 1) []) := Lib.hid (okN.nil.mono (Nat.zero_le _))
      go_upto_region 25 with (first | ((with_reducible go_at_call 17); (have q_ := HY1; clear q_); go_must (refine (all_a HY1.out (i := 0) rfl).mono ?_; rintro e w1 ⟨A1, c1, rfl, hy, hb⟩; have HY2 : Hid (Apt w.heap.size w1 [(netT r []).both (listT (.slice A1 ms.length c1) ms), refT r2 ms, blk g #[.int .i64 x.f0, .int .i64 x.f1, .int .i64 x.f2, .int .u8 x.f3, .int .i64 x.f4.f0, .int .i64 x.f4.f1, .slice A6 x.f4.f2.length c6] 50]) := Lib.hid hy; clear HY1 hy; (try clear v0 v1 v2 v3 v4 v5 v6); have hb_ := HB.out.trans hb; clear HB; have HB := Lib.hid hb_; clear hb_ hb)) | ((with_reducible go_at_call 26); (have q_ := HY2; clear q_); go_must (refine (all_r HY2.out (i := 1) rfl).mono ?_; rintro e w1 ⟨A2, c2, rfl, hy, hb⟩; have HY3 : Hid (Apt w.heap.size w1 [(netT r []).both (listT (.slice A1 ms.length c1) ms), (refT r2 []).both (listT (.slice A2 ms.length c2) ms), blk g #[.int .i64 x.f0, .int .i64 x.f1, .int .i64 x.f2, .int .u8 x.f3, .int .i64 x.f4.f0, .int .i64 x.f4.f1, .slice A6 x.f4.f2.length c6] 50]) := Lib.hid hy; clear HY2 hy; have hb_ := HB.out.trans hb; clear HB; have HB := Lib.hid hb_; clear hb_ hb)) | ((with_reducible go_at_call 18); (have q_ := HY3; clear q_); go_must (refine (same_z A1 A2 _ _ c1 c2 ms _ rfl rfl (by have := HF.out.len; omega) HF.out.body (both_list HY3.out (i := 0) rfl).2 (both_list HY3.out (i := 1) rfl).2).mono ?_; rintro e w1 ⟨rfl, hb⟩; have hy := Apt.below HY3.out hb; clear HY3; have HY4 : Hid (Apt w.heap.size w1 [(netT r []).both (listT (.slice A1 ms.length c1) ms), (refT r2 []).both (listT (.slice A2 ms.length c2) ms), blk g #[.int .i64 x.f0, .int .i64 x.f1, .int .i64 x.f2, .int .u8 x.f3, .int .i64 x.f4.f0, .int .i64 x.f4.f1, .slice A6 x.f4.f2.length c6] 50]) := Lib.hid hy; clear hy; have hb_ := below_step HB.out hb; clear HB; have HB := Lib.hid hb_; clear hb_ hb)))
      have hy_ := both_drop (both_drop HY4.out (i := 0) rfl rfl) (i := 1) rfl rfl
      have HY9 : Hid (Apt w.heap.size _ [netT r [], refT r2 [], blk g #[.int .i64 x.f0, .int .i64 x.f1, .int .i64 x.f2, .int .u8 x.f3, .int .i64 x.f4.f0, .int .i64 x.f4.f1, .slice A6 x.f4.f2.length c6] 50]) := Lib.hid hy_
      clear HY4 hy_
      obtain ⟨A5, c5, h5, _, _⟩ := ref_cell HY9.out (i := 1) rfl
      have H5 : Hid (World.cell? _ ⟨r2, 0, none⟩ = some (.slice A5 0 c5)) := Lib.hid h5
      clear h5
      have hy_ := Apt.below HY9.out (below_drew1 (Below.refl _ _))
      have hb_ := below_drew1 HB.out
      have HSC := Lib.hid ((World.cell?_drew _ _).trans H5.out)
      clear HY9 HB H5
      have HY9 := Lib.hid hy_
      have HB := Lib.hid hb_
      clear hy_ hb_
      go_region_held3 (fun w2 => w2.cell? ⟨r2, 0, none⟩ = some (.slice A5 0 c5)) (first | with_reducible exact HSC.out) (first | ((with_reducible go_at_call 11); (have q_ := HY9; clear q_); have q9 := len_a HY9.out (i := 0) rfl; (with_reducible refine q9.mono ?_); clear q9; rintro e w1 ⟨rfl, rfl⟩))
      all_goals
        go_wp2
        exact ⟨⟨k + 1, [], by go_num, by omega, Lib.hid (HY9.out.take 2 : Apt w.heap.size _ [netT r [], refT r2 []]), HB, HF1⟩, by simp [intOf]; omega⟩
  · have hlt' : (l.length : Int) ≤ k := by omega
    obtain ⟨Ar, cr, hv⟩ := ref_open HY1.out (i := 1) rfl
    have HV : Hid (Apt w.heap.size wr [netT r ms, refV r2 (.slice Ar ms.length cr) ms]) := Lib.hid hv
    clear hv HY1
    go_upto_region 27 with (fail)
    have hy_ := Apt.below HV.out (below_drew1 (Below.refl wr.heap.size wr))
    have hb_ := below_drew1 HB.out
    have HSC := Lib.hid (refv_at hy_ (i := 1) rfl).1
    clear HV HB
    have HY1 := Lib.hid hy_
    have HB := Lib.hid hb_
    clear hy_ hb_
    go_region_held3 (fun w2 => w2.cell? ⟨r2, 0, none⟩ = some (.slice Ar ms.length cr)) (first | with_reducible exact HSC.out) (first | ((with_reducible go_at_call 17); (have q_ := HY1; clear q_); have q9 := (all_a HY1.out (i := 0) rfl); (with_reducible refine q9.mono ?_); clear q9; rintro e w1 ⟨A1, c1, rfl, hy, hb⟩; have hy : Apt w.heap.size w1 [(netT r []).both (listT (.slice A1 ms.length c1) ms), refV r2 (.slice Ar ms.length cr) ms] := hy; have hs_ := (refv_at hy (i := 1) rfl).1; clear HSC; have HSC := Lib.hid hs_; clear hs_; have HY2 := Lib.hid hy; clear HY1 hy; have hb_ := HB.out.trans hb; clear HB; have HB := Lib.hid hb_; clear hb_ hb) | ((with_reducible go_at_call 18); (have q_ := HY2; clear q_); have q9 := (same_z A1 Ar _ _ c1 cr ms _ rfl rfl (by have := HF.out.len; omega) HF.out.body (both_list HY2.out (i := 0) rfl).2 (refv_at HY2.out (i := 1) rfl).2); (with_reducible refine q9.mono ?_); clear q9; rintro e w1 ⟨rfl, hb⟩; have hy := Apt.below HY2.out hb; have hy : Apt w.heap.size w1 [(netT r []).both (listT (.slice A1 ms.length c1) ms), refV r2 (.slice Ar ms.length cr) ms] := hy; have hs_ := (refv_at hy (i := 1) rfl).1; clear HSC; have HSC := Lib.hid hs_; clear hs_; have HY3 := Lib.hid hy; clear HY2 hy; have hb_ := below_step HB.out hb; clear HB; have HB := Lib.hid hb_; clear hb_ hb) | ((with_reducible go_at_call 8); (have q_ := HY3; clear q_); (with_reducible refine (awake_a _).mono ?_); rintro e w1 ⟨rfl, hb⟩; have hy := Apt.below HY3.out hb; have hy : Apt w.heap.size w1 [(netT r []).both (listT (.slice A1 ms.length c1) ms), refV r2 (.slice Ar ms.length cr) ms] := hy; have hs_ := (refv_at hy (i := 1) rfl).1; clear HSC; have HSC := Lib.hid hs_; clear hs_; have HY3_ := Lib.hid hy; clear HY3 hy; have hb_ := below_step HB.out hb; clear HB; have HB := Lib.hid hb_; clear hb_ hb))
    all_goals
      go_wp2
      go_ret
      exact ⟨rfl, HB.out⟩
end Go.Proofs.Ytglhojkchpbnkaa.NetPlays
