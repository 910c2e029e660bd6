/- PROVED: lemmas that the row uses (cut copies of my texts and of the printed ones). No condition beyond what each line says. -/
import Derived.Test.YtpgmfjpjjnpiiaaBRLeaseB
import Derived.Test.YtpgmfjpjjnpiiaaBRLeaseA
import Derived.Test.YtpgmfjpjjnpiiaaBLeaseO
import Derived.Test.YtpgmfjpjjnpiiaaBLeaseM
import Derived.Test.YtpgmfjpjjnpiiaaBLeaseN
import Derived.Test.YtpgmfjpjjnpiiaaBXA
import Derived.Test.YtpgmfjpjjnpiiaaBLeaseE
import Derived.Test.YtpgmfjpjjnpiiaaBLeaseK
import Derived.Test.YtpgmfjpjjnpiiaaBWAll
import Derived.WalkKit
import Derived.WalkSpells
import Derived.WalkLawsBesides
import Derived.Outline
import Derived.Lib.Hide
import Derived.Deep.LoopGhost
import Derived.Deep.RegionHeld3
import Derived.Deep.DeepCutAuto
import Derived.Deep.RegionLaw
import Derived.BigQuiet
import Derived.Deep.QuietTactic
namespace Go.Proofs.Ytpgmfjpjjnpiiaa.RLeaseE
open Go.RowKit Go.Proofs.Ytpgmfjpjjnpiiaa.PLeaseWakes Go.Proofs.YtpgmfjpjjnpiiaaW.PrintWords Go.Proofs.YtpgmfjpjjnpiiaaW.PrintLast Go.Proofs.YtpgmfjpjjnpiiaaW.PrintMore
attribute [local go_sem] max2_int min2_int max_two min_two max_three min_three max_four min_four
set_option linter.unusedSimpArgs false
set_option linter.unusedVariables false
open Go.Proofs.Ytpgmfjpjjnpiiaa.LeaseA
open Go.Proofs.Ytpgmfjpjjnpiiaa.LeaseB Go.Proofs.Ytpgmfjpjjnpiiaa.LeaseC Go.Proofs.Ytpgmfjpjjnpiiaa.LeaseD Go.Proofs.Ytpgmfjpjjnpiiaa.LeaseH Go.Proofs.Ytpgmfjpjjnpiiaa.LeaseJ Go.Proofs.Ytpgmfjpjjnpiiaa.LeaseK
open Go.Proofs.Ytpgmfjpjjnpiiaa.LeaseL Go.Proofs.Ytpgmfjpjjnpiiaa.LeaseM Go.Proofs.Ytpgmfjpjjnpiiaa.LeaseN Go.Proofs.Ytpgmfjpjjnpiiaa.LeaseG Go.Proofs.Ytpgmfjpjjnpiiaa.LeaseF Go.Proofs.Ytpgmfjpjjnpiiaa.LeaseI
open Go.Proofs.Ytpgmfjpjjnpiiaa.LeaseO
open Go.Proofs.Ytpgmfjpjjnpiiaa.RLeaseA
open Go.Proofs.Ytpgmfjpjjnpiiaa.RLeaseB
theorem rwon_z (A : Option Addr) (cap : Nat) (l : List S36) (n e s : Int) (b : Bool) (w : World) (hC : Kd.C k36 w A l.length l) (hcap : l.length ≤ cap) (hl : l.length ≤ 1000) (hn : n ≤ 9223372036854775807) (hb : wonB n (seenOf n e s l).length = b) :
    Calls Try.prog 47 #[.slice A l.length cap, .int .i64 n, .int .i64 e, .int .i64 s] w fun r w' => r = .returned (.bool b) ∧ Below w.heap.size w w' := by
  subst hb
  exact refWon_ok A cap l n e s w hC hcap hl hn
/-- What a reply comes to. -/
def RReplyP (base : Nat) (ok : Nat → Prop) (r : Nat) (s' : ES) (w : World) (e : Ending) (w' : World) : Prop :=
  ∃ v', e = .returned (.tuple #[]) ∧ RIs base (fun k => ok k ∨ w.heap.size ≤ k) w' r v' s' ∧ Below base w w' ∧ Kept w w' (fun k => k = r ∨ ok k)
theorem rreplyP_st {base r : Nat} {ok : Nat → Prop} {v : Value} {s : ES} {w w' : World} {e : Ending} (he : e = .returned (.tuple #[])) (H : RIs base ok w' r v s) (S : Stp base r w w') : RReplyP base ok r s w e w' :=
  ⟨v, he, H.mono (fun k hk => .inl hk), S.1, S.2.mono (fun k hk => .inl hk)⟩
/-- The row of replies has grown. -/
theorem RIs.grow {base r : Nat} {ok : Nat → Prop} {v v1 : Value} {s : ES} {p : S36} {w W w1 : World} (h : RIs base ok W r v s) (S : Stp base r w W) (hg : W.grownBy w1 v.ownBlock) (hb : Below base W w1) (ho : Kd.R k36 36 w1 base (fun k => (ok k ∧ k ≠ r) ∨ W.heap.size ≤ k) v1 (s.gr ++ [p])) :
    RIs base (fun k => ok k ∨ w.heap.size ≤ k) (w1.setCell ⟨r, 12, none⟩ v1) r v1 { s with gr := s.gr ++ [p] } ∧ Below base w (w1.setCell ⟨r, 12, none⟩ v1) ∧ Kept w (w1.setCell ⟨r, 12, none⟩ v1) (fun k => k = r ∨ ok k) := by
  have hR := Kd.R_types h.2.2 h.1 k36_t63
  have hne : some r ≠ v.ownBlock := fun e => (hR.1 r e.symm).2 rfl
  have h1 : w1.heap[r]? = some (.cells (cellsR s v) 63 (0, 0)) := blk_grown h.1 hg hne
  have hlt := h.lt
  refine ⟨⟨blk_put h1 12 v1 rfl, h.2.1, ?_⟩, (S.1.trans hb).setCell h.2.1 _, ?_⟩
  · refine Kd.R_mono (Kd.R_far (p := ⟨r, 12, none⟩) ho (fun k hk => ?_) v1) (fun k hk => ?_)
    · rcases hk with hk | hk
      · exact hk.2
      · show k ≠ r; omega
    · rcases hk with hk | hk
      · exact .inl hk.1
      · exact .inr (Nat.le_trans S.2.1 hk)
  · have k1 : Kept w w1 (fun k => k = r ∨ ok k) := Kept.of_grown hg (S.2.mono (fun k hk => .inl hk)) (fun k hk => .inl (.inr (hR.1 k hk).1))
    exact Kept.setCell k1 (.inl (.inl rfl)) v1
theorem rreply_end {base r : Nat} {ok : Nat → Prop} {v : Value} {s : ES} {w W : World} (H : RIs base (fun k => ok k ∨ w.heap.size ≤ k) W r v s) (hb : Below base w W) (hk : Kept w W (fun k => k = r ∨ ok k)) (a u : Int) :
    RReplyP base ok r { s with opn := false, led := a, unt := u } w (.returned (.tuple #[])) (((W.setCell ⟨r, 9, none⟩ (.bool false)).setCell ⟨r, 13, none⟩ (.int .i64 a)).setCell ⟨r, 14, none⟩ (.int .i64 u)).drew := by
  have h1 := H.put (s' := { s with opn := false }) 9 (.bool false) rfl rfl
  have h2 := h1.put (s' := { s with opn := false, led := a }) 13 (.int .i64 a) rfl rfl
  have h3 := h2.put (s' := { s with opn := false, led := a, unt := u }) 14 (.int .i64 u) rfl rfl
  refine ⟨_, rfl, h3.kept (below_drew1 (Below.refl _ _)), (((hb.setCell H.2.1 _).setCell H.2.1 _).setCell H.2.1 _).drew, ?_⟩
  exact (Kept.setCell (Kept.setCell (Kept.setCell hk (.inl (.inl rfl)) _) (.inl (.inl rfl)) _) (.inl (.inl rfl)) _).drew
set_option maxHeartbeats 4000000 in
set_option maxRecDepth 100000 in
theorem rreply_ok (base r : Nat) (ok : Nat → Prop) (v : Value) (s : ES) (t : Int) (p : S36) (w : World) (h : RIs base ok w r v s) (m : Nat) (hf : Fine m s) (hm : m ≤ 900) :
    Calls Try.prog 26 #[.pointer (some ⟨r, 0, none⟩), .int .i64 t, .agg #[.int .i64 p.f0, .bool p.f1, .int .i64 p.f2, .int .i64 p.f3]] w (RReplyP base ok r (replyS s t p) w) := by
  have HB := Lib.hid (Below.refl w.heap.size w)
  have H := Lib.hid h
  have HRW := Lib.hid h.lt
  have HBW := Lib.hid (Nat.le_trans h.2.1 (Nat.le_of_lt h.lt))
  have HF := Lib.hid hf
  clear h hf
  go_enter Try.func26, Try.ntmps26
  go_upto_region 1 with (first | ((with_reducible refine gate_dst (N := 5) rfl ?_); refine box_event ?hg (N := 5) ?hd (cs := #[.int .i64 p.f0, .bool p.f1, .int .i64 p.f2, .int .i64 p.f3]) (t := 36) ?hr ?_; (case hd => rfl); (case hg => rfl); (case hr => first | (go_simp; done) | (go_simp; rfl)); intro ga hg w1 hbox hb; have h_ := H.out.kept hb; clear H; have H := Lib.hid h_; clear h_; have hga := Lib.hid (Nat.le_of_eq hg.symm); have hb_ := below_step HB.out hb; clear HB; have HB := Lib.hid hb_; have HG := Lib.hid hbox; clear hbox hb hb_ hg))
  have HS := Lib.hid (LeaseN.Stp.of_below (r := r) HB.out HBW.out)
  clear HB
  have c1 := H.out.cells.2.1
  have y0 := (blk_cell HG.out 0).trans (rfl : _ = some (Value.int .i64 p.f0))
  have y2 := (blk_cell HG.out 2).trans (rfl : _ = some (Value.int .i64 p.f2))
  by_cases g1 : p.f0 < 0
  · go_quiet (fail)
    go_wp2
    refine bodyPost_ret (results_none rfl _ _ _) rfl ?_
    have hT : replyS s t p = s := by unfold replyS; rw [if_pos (.inl g1)]
    rw [hT]
    exact rreplyP_st rfl (H.out.kept (pw_below_drewN (Below.refl _ _) _)) (H.out.stp HS.out (pw_below_drewN (Below.refl _ _) _))
  by_cases g2 : s.n ≤ p.f0
  · have z1 := decide_eq_true g2
    go_quiet (fail)
    go_wp2
    refine bodyPost_ret (results_none rfl _ _ _) rfl ?_
    have hT : replyS s t p = s := by unfold replyS; rw [if_pos (.inr (.inl g2))]
    rw [hT]
    exact rreplyP_st rfl (H.out.kept (pw_below_drewN (Below.refl _ _) _)) (H.out.stp HS.out (pw_below_drewN (Below.refl _ _) _))
  have z1 := decide_eq_false g2
  by_cases g3 : p.f2 < 0
  · go_quiet (fail)
    go_wp2
    refine bodyPost_ret (results_none rfl _ _ _) rfl ?_
    have hT : replyS s t p = s := by unfold replyS; rw [if_pos (.inr (.inr (.inl g3)))]
    rw [hT]
    exact rreplyP_st rfl (H.out.kept (pw_below_drewN (Below.refl _ _) _)) (H.out.stp HS.out (pw_below_drewN (Below.refl _ _) _))
  by_cases g4 : 1099511627776 < p.f2
  · go_quiet (fail)
    go_wp2
    refine bodyPost_ret (results_none rfl _ _ _) rfl ?_
    have hT : replyS s t p = s := by unfold replyS; rw [if_pos (.inr (.inr (.inr g4)))]
    rw [hT]
    exact rreplyP_st rfl (H.out.kept (pw_below_drewN (Below.refl _ _) _)) (H.out.stp HS.out (pw_below_drewN (Below.refl _ _) _))
  go_quiet (fail)
  refine world_gen (P := fun w5 => RIs base ok w5 r v s ∧ Stp base r w w5 ∧ w5.heap[ga]? = some (.cells #[.int .i64 p.f0, .bool p.f1, .int .i64 p.f2, .int .i64 p.f3] 36 (0, 0))) ⟨H.out.kept (pw_below_drewN (Below.refl _ _) _), H.out.stp HS.out (pw_below_drewN (Below.refl _ _) _), HG.out⟩ (fun w5 h5 => ?_)
  clear H HS HG c1 y0 y2
  have H := Lib.hid h5.1
  have HS := Lib.hid h5.2.1
  have HG := Lib.hid h5.2.2
  clear h5
  obtain ⟨s1, hs1⟩ : ∃ x, toldS s t = x := ⟨_, rfl⟩
  have HS1 := Lib.hid hs1
  clear hs1
  go_upto_region 3 with (first | ((with_reducible go_at_call 42); (have q_ := H; clear q_); go_must (refine (rtold_ok base r ok v s t _ H.out).mono ?_; rintro e w1 ⟨rfl, h, hb, hk⟩; have H1 : Hid (RIs base ok w1 r v s1) := Lib.hid (by rw [← HS1.out]; exact h); have HT1 : Hid (Stp base r w w1) := Lib.hid (HS.out.trans ⟨hb, hk⟩); have HG1 := Lib.hid (kept_blk hk HG.out HRW.out hga.out); clear H HS HG h hb hk)))
  obtain ⟨hd, hhd⟩ : ∃ x, mx s1.heard p.f2 = x := ⟨_, rfl⟩
  have HHD := Lib.hid hhd
  clear hhd
  obtain ⟨s2, hs2⟩ : ∃ x, ({ s1 with heard := hd } : ES) = x := ⟨_, rfl⟩
  have HS2 := Lib.hid hs2
  clear hs2
  go_cut [38] (fun _ wc => RIs base ok wc r v s2 ∧ Stp base r w wc ∧ wc.heap[ga]? = some (.cells #[.int .i64 p.f0, .bool p.f1, .int .i64 p.f2, .int .i64 p.f3] 36 (0, 0)))
  case first =>
    have d16 := H1.out.cells.2.2.2.2.2.2.2.2.2.2.2.2.2.2.2.2
    have f16 := H1.out.free 16
    have y2 := (blk_cell HG1.out 2).trans (rfl : _ = some (Value.int .i64 p.f2))
    go_region_law (first | fail)
    all_goals
      have e1 : (if s1.heard < p.f2 then p.f2 else s1.heard) = hd := by rw [← HHD.out]; unfold mx; (repeat' split) <;> omega
      rw [e1]
      clear e1 d16 f16 y2
      go_wp2
      go_meet
      case rel => exact ⟨by rw [← HS2.out]; exact (H1.out.put (s' := { s1 with heard := hd }) 16 _ rfl rfl).kept (below_drew1 (Below.refl _ _)), (H1.out.put (s' := { s1 with heard := hd }) 16 _ rfl rfl).stp (H1.out.stput HT1.out 16 _) (below_drew1 (Below.refl _ _)), blk_drew (kept_blk (H1.out.keep 16 _).2 HG1.out HRW.out hga.out)⟩
  case rest =>
  clear H1 HT1 HG1
  have H1 := Lib.hid hcut.1
  have HT1 := Lib.hid hcut.2.1
  have HG1 := Lib.hid hcut.2.2
  clear hcut
  have hfin : replyS s t p = (if s2.opn = false then s2 else if wonB s2.n (seenOf s2.n s2.a1 s2.a2 (s2.gr ++ [p])).length = true then { s2 with gr := s2.gr ++ [p], opn := false, led := s2.a1, unt := s2.a2 + s2.safe } else { s2 with gr := s2.gr ++ [p] }) := by
    unfold replyS
    rw [if_neg (by omega), ← HS2.out, ← HHD.out, ← HS1.out]
    rfl
  have FIN := Lib.hid hfin
  clear hfin
  have hF2 : Fine m s2 := by
    have := HF.out
    have h1 := told_fine this t
    rw [HS1.out] at h1
    rw [← HS2.out]
    exact { h1 with d0 := by have := h1.d0; rw [← HHD.out]; show 0 ≤ mx _ _; unfold mx; split <;> omega, d1 := by have := h1.d1; rw [← HHD.out]; show mx _ _ ≤ _; unfold mx; split <;> omega }
  have HF2 := Lib.hid hF2
  clear hF2
  have d12 := H1.out.cells.2.2.2.2.2.2.2.2.2.1
  obtain ⟨o, ho⟩ : ∃ x, s2.opn = x := ⟨_, rfl⟩
  rw [ho] at d12
  have HOP := Lib.hid ho
  clear ho
  rcases o with _ | _
  · go_wp2
    refine bodyPost_ret (results_none rfl _ _ _) rfl ?_
    rw [FIN.out, if_pos HOP.out]
    exact rreplyP_st rfl H1.out HT1.out
  go_upto_region 5 with (fail)
  clear d12
  have d13 := H1.out.cells.2.2.2.2.2.2.2.2.2.2.2.2.1
  have hrl : r < wc.heap.size := H1.out.lt
  have hgal : ga < wc.heap.size := blk_lt HG1.out
  have f13 := H1.out.free 12
  have y0 := (blk_cell HG1.out 0).trans (rfl : _ = some (Value.int .i64 p.f0))
  have y1 := (blk_cell HG1.out 1).trans (rfl : _ = some (Value.bool p.f1))
  have y2 := (blk_cell HG1.out 2).trans (rfl : _ = some (Value.int .i64 p.f2))
  have y3 := (blk_cell HG1.out 3).trans (rfl : _ = some (Value.int .i64 p.f3))
  have hgl : s2.gr.length ≤ 900 := Nat.le_trans HF2.out.gl hm
  have hbs : base ≤ wc.heap.size := by have := H1.out.lt; have := H1.out.2.1; omega
  obtain ⟨l3, hl3⟩ : ∃ x, s2.gr ++ [p] = x := ⟨_, rfl⟩
  have HLL : Hid (s2.gr.length + 1 = l3.length) := Lib.hid (by rw [← hl3, List.length_append]; rfl)
  have HL3E := Lib.hid hl3
  clear hl3
  go_cut [53] (fun _ wc => ∃ A2 c2, RIs base (fun k => ok k ∨ w.heap.size ≤ k) wc r (.slice A2 l3.length c2) { s2 with gr := l3 } ∧ Below base w wc ∧ Kept w wc (fun k => k = r ∨ ok k))
  case first =>
    go_region_law (first | ((try rw [drew_al]); refine Kd.R_append_step k36 (w0 := _) base rfl (.tmp 50) (.tmp 52) 56 36 (.agg #[.int .i64 0, .bool false, .int .i64 0, .int .i64 0]) 32 rfl Try.underlying56 info36 rfl (by decide) (by decide) v s2.gr p [Value.int .i64 p.f0, Value.bool p.f1, Value.int .i64 p.f2, Value.int .i64 p.f3] (fun k => (ok k ∧ k ≠ r) ∨ wc.heap.size ≤ k) (fun _ => False) ?aS ?aX ?aP (fun _ h => h.elim) ?aF ?aR (Below.refl _ _) ?aH ?aL ?_; (case aS => rfl); (case aX => rfl); (case aF => exact (fun k hk => .inr hk)); (case aH => exact hbs); (case aP => exact k36_mkM _ _ _ p); (case aR => exact Kd.R_mono (Kd.R_types (H1.out.kept (below_drew1 (Below.refl _ _))).2.2 (blk_drew H1.out.1) k36_t63) (fun k hk => .inl hk)); (case aL => omega); intro vA wA ho hb hg hat; have hg : wc.grownBy wA v.ownBlock := ⟨hg.os, hg.tape, hg.output, hg.size, hg.block⟩; have hb : Below base wc wA := ⟨hb.os, hb.tape, hb.output, hb.size, hb.block⟩; obtain ⟨AV2, cV2, rfl⟩ := Kd.R_slice ho; have y4 : wA.cell? ⟨r, 12, none⟩ = some v := (blk_cell (blk_grown H1.out.1 hg (fun e => ((Kd.R_types H1.out.2.2 H1.out.1 k36_t63).1 r e.symm).2 rfl)) 12).trans rfl; have z4 := blk_frozen (blk_grown H1.out.1 hg (fun e => ((Kd.R_types H1.out.2.2 H1.out.1 k36_t63).1 r e.symm).2 rfl)) 12; have HO := Lib.hid ho; have HGR := Lib.hid hg; have HBA := Lib.hid hb; clear ho hb hg hat))
    all_goals
      go_wp2
      go_meet
      case rel =>
        refine ⟨AV2, cV2, ?_⟩
        have hg := RIs.grow H1.out HT1.out HGR.out HBA.out HO.out
        rw [HL3E.out] at hg
        rw [HLL.out]
        exact hg
  case rest =>
  clear H1 HT1 HG1 d13 f13 y0 y1 y2 y3 hrl hgal hbs
  obtain ⟨A2, c2, h3, hb3, hk3⟩ := hcut
  have H3 := Lib.hid h3
  have HBK := Lib.hid (And.intro hb3 hk3)
  clear h3 hb3 hk3
  have HL3 : Hid (l3.length ≤ 1000) := Lib.hid (by rw [← HLL.out]; omega)
  have HW3 : Hid (∀ x ∈ l3, -9223372036854775808 ≤ x.f0 ∧ x.f0 ≤ 9223372036854775807) := Lib.hid (by
    intro x hx
    rw [← HL3E.out] at hx
    rcases List.mem_append.1 hx with hx | hx
    · exact HF2.out.gw x hx
    · rw [List.mem_singleton] at hx
      subst hx
      have := HF.out.hn
      omega)
  have HN3 : Hid (s2.n ≤ 9223372036854775807) := Lib.hid (by have := HF2.out.hn; omega)
  obtain ⟨b, hwb⟩ : ∃ x, wonB s2.n (seenOf s2.n s2.a1 s2.a2 l3).length = x := ⟨_, rfl⟩
  have HWB := Lib.hid hwb
  clear hwb
  have e1 : wc.cell? ⟨r, 1, none⟩ = some (.int .i64 s2.n) := H3.out.cells.2.1
  have e10 : wc.cell? ⟨r, 10, none⟩ = some (.int .i64 s2.a1) := H3.out.cells.2.2.2.2.2.2.2.2.2.2.1
  have e11 : wc.cell? ⟨r, 11, none⟩ = some (.int .i64 s2.a2) := H3.out.cells.2.2.2.2.2.2.2.2.2.2.2.1
  have e13 : wc.cell? ⟨r, 12, none⟩ = some (.slice A2 l3.length c2) := H3.out.cells.2.2.2.2.2.2.2.2.2.2.2.2.1
  go_upto_region 6 with (fail)
  go_cut [72] (fun u78 wc => u78 = .bool b ∧ RIs base (fun k => ok k ∨ w.heap.size ≤ k) wc r (.slice A2 l3.length c2) { s2 with gr := l3 } ∧ Below base w wc ∧ Kept w wc (fun k => k = r ∨ ok k))
  case first =>
    go_region_law (first | (go_simp; (with_reducible go_at_call 47); go_must (refine (rwon_z A2 c2 l3 s2.n s2.a1 s2.a2 b _ (Kd.R_reads' (RIs.kept H3.out (below_drew1 (Below.refl _ _))).2.2).2.2 (Kd.R_reads' H3.out.2.2).2.1 HL3.out HN3.out HWB.out).mono ?_; rintro e w5 ⟨rfl, hb⟩; have h4 := H3.out.kept (below_drew1 (Below.refl _ _)); have h5 := h4.kept hb; have hst := (HBK.out.1).trans ((below_drew1 (Below.refl _ _)).trans (hb.mono (by have := H3.out.lt; have := H3.out.2.1; show base ≤ wc.heap.size; omega))); have hkk := Kept.below HBK.out.2 (below_step (below_drew1 (Below.refl _ _)) hb); have H5 := Lib.hid h5; have HB5 := Lib.hid hst; have HK5 := Lib.hid hkk; clear h4 h5 hst hkk hb)))
    all_goals
      go_wp2
      go_meet
      case rel => exact ⟨rfl, H5.out, HB5.out, HK5.out⟩
  case rest =>
  clear H3 HBK e1 e10 e11 e13
  obtain ⟨rfl, h3, hb3, hk3⟩ := hcut
  have H5 := Lib.hid h3
  have HBK := Lib.hid (And.intro hb3 hk3)
  clear h3 hb3 hk3
  rcases b with _ | _
  · go_wp2
    go_end0
    rw [FIN.out, if_neg (by rw [HOP.out]; decide), HL3E.out, if_neg (by rw [HWB.out]; decide)]
    exact ⟨_, rfl, H5.out, HBK.out.1, HBK.out.2⟩
  · have c3 : wc.cell? ⟨r, 3, none⟩ = some (.int .i64 s2.safe) := H5.out.cells.2.2.2.1
    have c10 : wc.cell? ⟨r, 10, none⟩ = some (.int .i64 s2.a1) := H5.out.cells.2.2.2.2.2.2.2.2.2.2.1
    have c11 : wc.cell? ⟨r, 11, none⟩ = some (.int .i64 s2.a2) := H5.out.cells.2.2.2.2.2.2.2.2.2.2.2.1
    have c12 : wc.cell? ⟨r, 9, none⟩ = some (.bool s2.opn) := H5.out.cells.2.2.2.2.2.2.2.2.2.1
    have c14 : wc.cell? ⟨r, 13, none⟩ = some (.int .i64 s2.led) := H5.out.cells.2.2.2.2.2.2.2.2.2.2.2.2.2.1
    have c15 : wc.cell? ⟨r, 14, none⟩ = some (.int .i64 s2.unt) := H5.out.cells.2.2.2.2.2.2.2.2.2.2.2.2.2.2.1
    have f12 := H5.out.free 9
    have f14 := H5.out.free 13
    have f15 := H5.out.free 14
    have ew : IntKind.i64.wrap (s2.a2 + s2.safe) = s2.a2 + s2.safe := by
      have := HF2.out.s0
      have := HF2.out.s1
      have := HF2.out.f0
      have := HF2.out.f1
      rw [i64_w]; unfold wrap64; omega
    go_upto_region 9 with (fail)
    go_region_law (first | fail)
    all_goals
      go_end0
      rw [FIN.out, if_neg (by rw [HOP.out]; decide), HL3E.out, if_pos HWB.out]
      exact rreply_end H5.out HBK.out.1 HBK.out.2 s2.a1 (s2.a2 + s2.safe)
end Go.Proofs.Ytpgmfjpjjnpiiaa.RLeaseE
