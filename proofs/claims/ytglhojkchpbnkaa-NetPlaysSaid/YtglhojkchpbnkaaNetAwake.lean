/- PROVED: the example of the document for layer 24 holds, whatever the world; a new net. No condition. -/
import Derived.Test.YtglhojkchpbnkaaNet
import Derived.WalkKit
import Derived.WalkSpells
import Derived.WalkLawsBesides
import Derived.Outline
import Derived.Lib.Hide
import Derived.Deep.LoopGhost
import Derived.Deep.RegionHeld3
import Derived.Deep.DeepCutAuto
import Derived.Deep.RegionLaw
import Derived.BigQuiet
import Derived.Deep.QuietTactic
namespace Go.Proofs.Ytglhojkchpbnkaa.NetAwake
open Go.RowKit Go.Proofs.Ytglhojkchpbnkaa.PNetPlays Go.Proofs.Ytglhojkchpbnkaa.Net Go.Proofs.YtglhojkchpbnkaaW.PrintWords Go.Proofs.YtglhojkchpbnkaaW.PrintLast Go.Proofs.YtglhojkchpbnkaaW.PrintMore
set_option linter.unusedSimpArgs false
set_option linter.unusedVariables false

theorem world_gen {K : World → Prop} {W : World} (P : World → Prop) (h : P W) (hk : ∀ w, P w → K w) : K W := hk W h
theorem new_is (w : World) : Calls Try.prog 9 #[] w fun e w' => ∃ r, e = .returned (.pointer (some ⟨r, 0, none⟩)) ∧ NetIs w.heap.size w' r (.slice none ([] : List S29).length 0) [] ∧ Below w.heap.size w w' := by
  go_enter Try.func9, Try.ntmps9
  go_wp2
  go_ret
  exact ⟨_, rfl, ⟨blk_new _ _, Nat.le_refl _, Kd.R_nil _ _ _ _ _⟩, below_alloc (Below.refl _ _) _⟩
theorem same_ok : Hid (juratref24_SameOne.f 9 0 1 [97] 0 1 [97] = some true) := by unfold Hid; decide +kernel
set_option maxHeartbeats 4000000 in
set_option maxRecDepth 100000 in
theorem awake_ok (w : World) : Calls Try.prog 8 #[] w fun e w' => e = .returned (.bool true) ∧ Below w.heap.size w w' := by
  go_enter Try.func8, Try.ntmps8
  go_upto_region 5 with (first | ((with_reducible go_at_call 9); go_must (refine (new_is _).mono ?_; rintro e w1 ⟨r, rfl, hn, hb⟩; have HN := Lib.hid hn; have HB := Lib.hid hb; clear hn hb)) | ((with_reducible refine gate_dst (N := 6) rfl ?_); (try (refine gate_guard (by rfl) ?_; dsimp only)); refine Kd.R_lit (Kd.int .u8) _ 5 ?hg (N := 6) ?hd (xs := ([97] : List Int)) (inner := [.int .u8 97]) (ok := fun _ => True) (okp := fun _ => True) ?hr ?hp (fun _ hk => hk) trivial (Below.refl _ _) (Nat.le_refl _) (by simp) ?_; (case hd => rfl); (case hg => rfl); (case hr => first | (go_simp; done) | (go_simp; rfl)); (case hp => exact (Reps.one (show Kd.M (Kd.int .u8) _ _ _ 97 [.int .u8 97] from rfl) (Reps.none _ _))); intro vL wL hl hb hg_ hn_; have hn_ := HN.out.kept hb; have hb_ := below_step HB.out hb; clear HN HB; have HN := Lib.hid hn_; have HB := Lib.hid hb_; clear hn_ hb_; (try clear HLC); obtain ⟨A4, c4, rfl⟩ := Kd.R_slice hl; have HLC := Lib.hid (Kd.R_reads' hl); clear hl hb hg_ hn_) | ((with_reducible refine gate_dst (N := 12) rfl ?_); (try (refine gate_guard (by rfl) ?_; dsimp only)); refine Kd.R_lit (Kd.int .u8) _ 5 ?hg (N := 12) ?hd (xs := ([98] : List Int)) (inner := [.int .u8 98]) (ok := fun _ => True) (okp := fun _ => True) ?hr ?hp (fun _ hk => hk) trivial (Below.refl _ _) (Nat.le_refl _) (by simp) ?_; (case hd => rfl); (case hg => rfl); (case hr => first | (go_simp; done) | (go_simp; rfl)); (case hp => exact (Reps.one (show Kd.M (Kd.int .u8) _ _ _ 98 [.int .u8 98] from rfl) (Reps.none _ _))); intro vL wL hl hb hg_ hn_; have hn_ := HN.out.kept hb; have hb_ := below_step HB.out hb; clear HN HB; have HN := Lib.hid hn_; have HB := Lib.hid hb_; clear hn_ hb_; (try clear HLC); obtain ⟨A4, c4, rfl⟩ := Kd.R_slice hl; have HLC := Lib.hid (Kd.R_reads' hl); clear hl hb hg_ hn_) | ((with_reducible go_at_call 10); go_must (refine (send_ok _ _ _ _ _ _ _ _ _ _ _ HN.out (by decide) (by decide) HLC.out.2.2 HLC.out.2.1).mono ?_; rintro e w' ⟨rfl, v', hn, hb, hk⟩; obtain ⟨ao, cp, rfl⟩ := Kd.R_slice hn.2.2; have hb_ := HB.out.trans hb; clear HN HB; have HN := Lib.hid hn; have HB := Lib.hid hb_; clear hn hb_ hb hk)) | ((with_reducible go_at_call 12); go_must (refine (twice_ok _ _ 0 _ _ _ ⟨0, 1, [97]⟩ _ HN.out rfl (by decide) (by decide)).mono ?_; rintro e w' ⟨rfl, v', hn, hb, hk⟩; obtain ⟨ao, cp, rfl⟩ := Kd.R_slice hn.2.2; have hb_ := HB.out.trans hb; clear HN HB; have HN := Lib.hid hn; have HB := Lib.hid hb_; clear hn hb_ hb hk)) | ((with_reducible go_at_call 14); go_must (refine (look_ok _ _ 2 _ _ _ ⟨0, 1, [97]⟩ _ HN.out rfl (by decide)).mono ?_; rintro e w' ⟨vb, rfl, hv, hb⟩; obtain ⟨Av, cv, rfl⟩ := Kd.R_slice hv; have HV := Lib.hid hv; have hn_ := HN.out.kept hb; have hb_ := below_step HB.out hb; clear HN HB; have HN := Lib.hid hn_; have HB := Lib.hid hb_; clear hn_ hb_; clear hv hb)) | ((with_reducible refine gate_dst (N := 2) rfl ?_); refine box_event ?hg (N := 2) ?hd (cs := #[.int .i64 0, .int .i64 0, .slice none 0 0]) (t := 29) ?hr ?_; (case hd => rfl); (case hg => rfl); (case hr => first | (go_simp; done) | (go_simp; rfl)); intro gb hg w1 hbox hb; have HX := Lib.hid hbox; have hY0 : w1.cell? ⟨gb, 0, none⟩ = some (.int .i64 0) := (blk_cell hbox 0).trans rfl; have hY1 : w1.cell? ⟨gb, 1, none⟩ = some (.int .i64 0) := (blk_cell hbox 1).trans rfl; have hY2 : w1.cell? ⟨gb, 2, none⟩ = some (.slice none 0 0) := (blk_cell hbox 2).trans rfl; have hZ0 := blk_frozen hbox 0; have hZ1 := blk_frozen hbox 1; have hZ2 := blk_frozen hbox 2; have hv_ := Kd.R_below HV.out hb; clear HV; have HV := Lib.hid hv_; have hge : w.heap.size ≤ gb := Nat.le_trans HB.out.size (Nat.le_of_eq hg.symm); have HG := Lib.hid (fun k hk => Nat.ne_of_lt (Nat.lt_of_lt_of_le (Kd.R_lt HN.out.2.2 k hk) (Nat.le_of_eq hg.symm))); have hn_ := HN.out.kept hb; have hb_ := below_step HB.out hb; clear HN HB; have HN := Lib.hid hn_; have HB := Lib.hid hb_; clear hn_ hb_; clear hbox hb hg hv_))
  have hrg := blk_ne HN.out.1 HX.out (by decide)
  have hC5 := (blk_cell (blk_far (p := ⟨gb, 2, none⟩) (blk_far (p := ⟨gb, 1, none⟩) (blk_far (p := ⟨gb, 0, none⟩) HN.out.1 hrg (.int .i64 0)) hrg (.int .i64 1)) hrg (.slice Av 1 cv)) 0).trans rfl
  have hX5 := blk_put (blk_put (blk_put HX.out 0 (.int .i64 0) rfl) 1 (.int .i64 1) rfl) 2 (.slice Av 1 cv) rfl
  have hv5 := Kd.R_far (p := ⟨gb, 2, none⟩) (Kd.R_far (p := ⟨gb, 1, none⟩) (Kd.R_far (p := ⟨gb, 0, none⟩) (Kd.R_types HV.out HX.out (by decide)) (fun _ hk => hk.2) (.int .i64 0)) (fun _ hk => hk.2) (.int .i64 1)) (fun _ hk => hk.2) (.slice Av 1 cv)
  have hB5 := below_set (j := 2) (v := .slice Av 1 cv) (below_set (j := 1) (v := .int .i64 1) (below_set (j := 0) (v := .int .i64 0) HB.out hge) hge) hge
  refine world_gen (P := fun w5 => w5.cell? ⟨r, 0, none⟩ = some (.slice ao 3 cp) ∧ (w5.cell? ⟨gb, 0, none⟩ = some (.int .i64 0) ∧ w5.cell? ⟨gb, 1, none⟩ = some (.int .i64 1) ∧ w5.cell? ⟨gb, 2, none⟩ = some (.slice Av 1 cv)) ∧ Kd.C (Kd.int .u8) w5 Av [97].length [97] ∧ Below w.heap.size w w5) ⟨hC5, ⟨(blk_cell hX5 0).trans rfl, (blk_cell hX5 1).trans rfl, (blk_cell hX5 2).trans rfl⟩, (Kd.R_reads' hv5).2.2, hB5⟩ (fun w5 h5 => ?_)
  have HVl := (Kd.R_reads' HV.out).2.1
  clear hrg hC5 hX5 hv5 hB5 HX hY0 hY1 hY2 hZ0 hZ1 hZ2 HV hge HG HN HB HLC
  obtain ⟨hC5, hE5, hv5, hB5⟩ := h5
  have HV5 := Lib.hid hv5
  have HB5 := Lib.hid hB5
  clear hv5 hB5
  go_wp2_with (first | ((with_reducible go_at_call 11); go_must (refine (len_is _ _ _ _ _ hC5).mono ?_; rintro e w' ⟨rfl, rfl⟩)) | ((with_reducible refine gate_dst (N := 36) rfl ?_); (try (refine gate_guard (by rfl) ?_; dsimp only)); refine Kd.R_lit (Kd.int .u8) _ 5 ?hg (N := 36) ?hd (xs := ([97] : List Int)) (inner := [.int .u8 97]) (ok := fun _ => True) (okp := fun _ => True) ?hr ?hp (fun _ hk => hk) trivial (Below.refl _ _) (Nat.le_refl _) (by simp) ?_; (case hd => rfl); (case hg => rfl); (case hr => first | (go_simp; done) | (go_simp; rfl)); (case hp => exact (Reps.one (show Kd.M (Kd.int .u8) _ _ _ 97 [.int .u8 97] from rfl) (Reps.none _ _))); intro vL wL hl hb hg_ hn_; have HV6 := Lib.hid (Kd.C_below HV5.out hb); have HB6 := Lib.hid (below_step HB5.out hb); (try clear HLC); obtain ⟨A4, c4, rfl⟩ := Kd.R_slice hl; have HLC := Lib.hid (Kd.R_reads' hl); clear hl hb hg_ hn_) | ((with_reducible go_at_call 15); go_must (refine (juratref24_SameOne.calls 9 0 1 _ _ [97] 0 1 _ _ [97] true _ HV6.out HVl HLC.out.2.2 HLC.out.2.1 same_ok.out).mono ?_; rintro e w' ⟨rfl, hb⟩; have HB7 := Lib.hid (below_step HB6.out hb); clear hb)))
  go_ret
  exact ⟨rfl, HB7.out⟩
end Go.Proofs.Ytglhojkchpbnkaa.NetAwake
