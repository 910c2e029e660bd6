/- PROVED: lemmas that the row uses (cut copies of my texts and of the printed ones). No condition beyond what each line says. -/
import Derived.Test.YtpgmfjpjjnpiiaaBRLeaseB
import Derived.Test.YtpgmfjpjjnpiiaaBRLeaseA
import Derived.Test.YtpgmfjpjjnpiiaaBLeaseO
import Derived.Test.YtpgmfjpjjnpiiaaBLeaseM
import Derived.Test.YtpgmfjpjjnpiiaaBLeaseN
import Derived.Test.YtpgmfjpjjnpiiaaBXA
import Derived.Test.YtpgmfjpjjnpiiaaBLeaseE
import Derived.Test.YtpgmfjpjjnpiiaaBLeaseK
import Derived.Test.YtpgmfjpjjnpiiaaBWAll
import Derived.WalkKit
import Derived.WalkSpells
import Derived.WalkLawsBesides
import Derived.Outline
import Derived.Lib.Hide
import Derived.Deep.LoopGhost
import Derived.Deep.RegionHeld3
import Derived.Deep.DeepCutAuto
import Derived.Deep.RegionLaw
import Derived.BigQuiet
import Derived.Deep.QuietTactic
namespace Go.Proofs.Ytpgmfjpjjnpiiaa.RLeaseC
open Go.RowKit Go.Proofs.Ytpgmfjpjjnpiiaa.PLeaseWakes Go.Proofs.YtpgmfjpjjnpiiaaW.PrintWords Go.Proofs.YtpgmfjpjjnpiiaaW.PrintLast Go.Proofs.YtpgmfjpjjnpiiaaW.PrintMore
attribute [local go_sem] max2_int min2_int max_two min_two max_three min_three max_four min_four
set_option linter.unusedSimpArgs false
set_option linter.unusedVariables false
open Go.Proofs.Ytpgmfjpjjnpiiaa.LeaseA
open Go.Proofs.Ytpgmfjpjjnpiiaa.LeaseB Go.Proofs.Ytpgmfjpjjnpiiaa.LeaseC Go.Proofs.Ytpgmfjpjjnpiiaa.LeaseD Go.Proofs.Ytpgmfjpjjnpiiaa.LeaseH Go.Proofs.Ytpgmfjpjjnpiiaa.LeaseJ Go.Proofs.Ytpgmfjpjjnpiiaa.LeaseK
open Go.Proofs.Ytpgmfjpjjnpiiaa.LeaseL Go.Proofs.Ytpgmfjpjjnpiiaa.LeaseM Go.Proofs.Ytpgmfjpjjnpiiaa.LeaseN Go.Proofs.Ytpgmfjpjjnpiiaa.LeaseG Go.Proofs.Ytpgmfjpjjnpiiaa.LeaseF Go.Proofs.Ytpgmfjpjjnpiiaa.LeaseI
open Go.Proofs.Ytpgmfjpjjnpiiaa.LeaseO
open Go.Proofs.Ytpgmfjpjjnpiiaa.RLeaseA
open Go.Proofs.Ytpgmfjpjjnpiiaa.RLeaseB
theorem tickA_leads (s : ES) : leadsB (tickA s) = decide ((tickA s).led ≠ 0) := by
  unfold tickA
  split
  · simp [leadsB, pauseS]
  · rename_i q
    by_cases e : s.led = 0
    · simp [leadsB, e]
    · have : leadsB s = true := by
        cases h : leadsB s
        · exact absurd ⟨e, h⟩ q
        · rfl
      rw [this, decide_eq_true e]
theorem tickB_leads (s : ES) (h : leadsB s = decide (s.led ≠ 0)) : leadsB (tickB s) = decide ((tickB s).led ≠ 0) := by
  unfold tickB
  split
  · exact h
  · exact h
theorem tickA_lease (s : ES) : (tickA s).lease = s.lease := by
  unfold tickA
  split <;> rfl
theorem tickA_me (s : ES) : (tickA s).me = s.me := by
  unfold tickA
  split <;> rfl
set_option maxHeartbeats 4000000 in
set_option maxRecDepth 100000 in
theorem rleads_q (base r : Nat) (ok : Nat → Prop) (v : Value) (s : ES) (w : World) (h : RIs base ok w r v s) :
    Calls Try.prog 43 #[.pointer (some ⟨r, 0, none⟩)] w fun e w' => e = .returned (.bool (leadsB s)) ∧ ∃ m, w' = w.drewN m := by
  obtain ⟨c0, c1, c2, c3, c4, c5, c6, c7, c8, c9, c10, c11, c12, c13, c14, c15, c16⟩ := h.cells
  have H := Lib.hid h
  clear h
  unfold leadsB
  by_cases q : s.led = 0
  · go_enter Try.func43, Try.ntmps43
    go_wp2
    go_quiet (fail)
    go_wp2
    go_ret
    exact ⟨by simp [q], _, rfl⟩
  · have q1 : (s.led == 0) = false := beq_eq_false_iff_ne.mpr q
    have q2 : (s.led != 0) = true := bne_iff_ne.mpr q
    go_enter Try.func43, Try.ntmps43
    go_wp2
    go_quiet (fail)
    go_wp2
    go_ret
    exact ⟨by simp [q], _, rfl⟩
/-- What the reference's tick comes to. -/
def RTickP (base : Nat) (ok : Nat → Prop) (r : Nat) (x : ES × List S38) (w : World) (e : Ending) (w' : World) : Prop := ∃ A c v', e = .returned (.slice A x.2.length c) ∧ RIs base ok w' r v' x.1 ∧ Kd.R k38 38 w' w.heap.size (fun _ => True) (.slice A x.2.length c) x.2 ∧ Stp base r w w'
theorem RTickP.mk {base : Nat} {ok : Nat → Prop} {r : Nat} {s : ES} {l : List S38} {w w' : World} {e : Ending} (A : Option Addr) (c : Nat) (v' : Value) (h1 : e = .returned (.slice A l.length c)) (h2 : RIs base ok w' r v' s) (h3 : Kd.R k38 38 w' w.heap.size (fun _ => True) (.slice A l.length c) l) (h4 : Stp base r w w') : RTickP base ok r (s, l) w e w' := ⟨A, c, v', h1, h2, h3, h4⟩
theorem rst3 {base r B : Nat} {w w1 : World} {ok : Nat → Prop} {v u : Value} {s : ES} {l : List S38} (h : RIs base ok w1 r v s) (k : Stp base r w w1) (g : Kd.R k38 38 w1 B (fun _ => True) u l) (m : Nat) : RIs base ok (w1.drewN m) r v s ∧ Stp base r w (w1.drewN m) ∧ Kd.R k38 38 (w1.drewN m) B (fun _ => True) u l :=
  ⟨h.kept (pw_below_drewN (Below.refl _ _) _), h.stp k (pw_below_drewN (Below.refl _ _) _), Kd.R_drewN g m⟩
set_option maxHeartbeats 4000000 in
set_option maxRecDepth 100000 in
theorem rtick_a (base r : Nat) (ok : Nat → Prop) (v : Value) (s : ES) (t : Int) (w : World) (h : RIs base ok w r v s) (m : Nat) (hf : Fine m s) (ho : ∀ k, ok k → k < w.heap.size) (n : Nat) (hnn : s.n = n) :
    Calls Try.prog 24 #[.pointer (some ⟨r, 0, none⟩), .int .i64 t] w (RTickP base ok r (tickS s t n) w) := by
  obtain ⟨s1, hs1⟩ : ∃ x, toldS s t = x := ⟨_, rfl⟩
  have hF1 : Fine m s1 := by rw [← hs1]; exact told_fine hf t
  have HS := Lib.hid hs1
  have H0 := Lib.hid h
  have HF1 := Lib.hid hF1
  have HO := Lib.hid ho
  have HN := Lib.hid hnn
  have HRW := Lib.hid h.lt
  have HBW := Lib.hid h.ge
  have HN5 : Hid (n ≤ 5) := Lib.hid (by have := hf.hn; omega)
  clear hs1 h hF1 hf ho hnn
  go_enter Try.func24, Try.ntmps24
  go_upto_region 3 with (first | ((with_reducible go_at_call 42); (have q_ := H0; clear q_); go_must (refine (rtold_ok base r ok v s t _ H0.out).mono ?_; rintro e w1 ⟨rfl, h, hb, hk⟩; have H1 : Hid (RIs base ok w1 r v s1) := Lib.hid (by rw [← HS.out]; exact h); have HB1 : Hid (Stp base r w w1) := Lib.hid ⟨hb, hk⟩; clear H0 h hb hk)))
  obtain ⟨pz, hpz⟩ : ∃ x, s1.lease + 16 * (s1.me + 1) = x := ⟨_, rfl⟩
  have HPZ := Lib.hid hpz
  have p0 := HF1.out.l0
  have p1 := HF1.out.l1
  have p2 := HF1.out.me0
  have p3 : s1.me ≤ 5 := by have := HF1.out.me1; have := HF1.out.hn; omega
  have HP3 := Lib.hid p3
  have e1 : IntKind.i64.wrap (s1.me + 1) = s1.me + 1 := by rw [i64_w]; unfold wrap64; omega
  have e2 : IntKind.i64.wrap (16 * (s1.me + 1)) = 16 * (s1.me + 1) := by rw [i64_w]; unfold wrap64; omega
  have e3 : IntKind.i64.wrap (s1.lease + 16 * (s1.me + 1)) = pz := by rw [i64_w, ← hpz]; unfold wrap64; omega
  clear hpz p0 p1 p2 p3
  have d0 := H1.out.cells.1
  have d2 := H1.out.cells.2.2.1
  go_quiet (fail)
  clear e1 e2 e3 d0 d2
  refine world_gen (P := fun w5 => RIs base ok w5 r v s1 ∧ Stp base r w w5) ⟨H1.out.kept (pw_below_drewN (Below.refl _ _) _), H1.out.stp HB1.out (pw_below_drewN (Below.refl _ _) _)⟩ (fun w5 h5 => ?_)
  clear H1 HB1
  have H1 := Lib.hid h5.1
  have HB1 := Lib.hid h5.2
  clear h5
  go_upto_region 4 with (fail)
  have HLT := Lib.hid (H1.out.cells.2.2.2.2.2.2.2.2.2.2.2.2.2.1)
  go_cut [31] (fun u31 wc => u31 = .bool (lostB s1) ∧ Hid (RIs base ok wc r v s1) ∧ Hid (Stp base r w wc))
  case first =>
    have d13 := HLT.out
    by_cases q0 : s1.led = 0
    · have q1 : (s1.led == 0) = true := beq_iff_eq.mpr q0
      have q2 : (s1.led != 0) = false := by simp [q0]
      go_wp2
      go_meet
      case rel => exact ⟨by simp [lostB, q0], H1, HB1⟩
    · have q1 : (s1.led == 0) = false := beq_eq_false_iff_ne.mpr q0
      have q2 : (s1.led != 0) = true := bne_iff_ne.mpr q0
      obtain ⟨b, q⟩ : ∃ x, leadsB s1 = x := ⟨_, rfl⟩
      rcases b with _ | _
      · go_wp2_with (first | ((with_reducible go_at_call 43); (have q_ := H1; clear q_); go_must (refine (rleads_ok base r ok v s1 _ (H1.out)).mono ?_; rintro e w2 ⟨he, h, hb⟩; rw [q] at he; subst he; have H2 := Lib.hid h; have HB2 := Lib.hid (RIs.stp (H1.out) (HB1.out) hb); clear H1 HB1 h hb)))
        go_meet
        case rel => exact ⟨by simp [lostB, q0, q], H2, HB2⟩
      · go_wp2_with (first | ((with_reducible go_at_call 43); (have q_ := H1; clear q_); go_must (refine (rleads_ok base r ok v s1 _ (H1.out)).mono ?_; rintro e w2 ⟨he, h, hb⟩; rw [q] at he; subst he; have H2 := Lib.hid h; have HB2 := Lib.hid (RIs.stp (H1.out) (HB1.out) hb); clear H1 HB1 h hb)))
        go_meet
        case rel => exact ⟨by simp [lostB, q0, q], H2, HB2⟩
  case rest =>
  clear H1 HB1 HLT
  obtain ⟨rfl, H2, HB2⟩ := hcut
  obtain ⟨s2, hs2⟩ : ∃ x, tickA s1 = x := ⟨_, rfl⟩
  have HS2 := Lib.hid hs2
  clear hs2
  obtain ⟨b, hb⟩ : ∃ x, lostB s1 = x := ⟨_, rfl⟩
  rw [hb]
  have HQ := Lib.hid hb
  clear hb
  go_upto_if 31 with (fail)
  go_cut [31] (fun _ wc => Hid (RIs base ok wc r v s2) ∧ Hid (Stp base r w wc))
  case first =>
    rcases b with _ | _
    · go_wp2
      go_meet
      case rel => exact ⟨by rw [← HS2.out, tickA_no HQ.out]; exact H2, HB2⟩
    · have f13 := H2.out.free 13
      have d13 := H2.out.cells.2.2.2.2.2.2.2.2.2.2.2.2.2.1
      have f15 := H2.out.free 15
      have d15 := H2.out.cells.2.2.2.2.2.2.2.2.2.2.2.2.2.2.2.1
      have d4 := H2.out.cells.2.2.2.2.1
      have ew : IntKind.i64.wrap (s1.now + pz) = s1.now + s1.lease + 16 * (s1.me + 1) := by
        have a0 := HF1.out.l0
        have a1 := HF1.out.l1
        have a2 := HF1.out.me0
        have a3 := HP3.out
        have a4 := HF1.out.t0
        have a5 := HF1.out.t1
        rw [i64_w, ← HPZ.out]; unfold wrap64; omega
      go_wp2
      have h1 := H2.out.put (s' := { s1 with led := 0 }) 13 (.int .i64 0) rfl rfl
      have h2 := h1.put (s' := pauseS { s1 with led := 0 }) 15 (.int .i64 (s1.now + s1.lease + 16 * (s1.me + 1))) rfl rfl
      have h3 := h1.stput (H2.out.stput HB2.out 13 (.int .i64 0)) 15 (.int .i64 (s1.now + s1.lease + 16 * (s1.me + 1)))
      go_meet
      case rel => exact ⟨by rw [← HS2.out, tickA_yes HQ.out]; exact Lib.hid h2, Lib.hid h3⟩
  case rest =>
  clear H2 HB2
  obtain ⟨H3, HB3⟩ := hcut
  have hF2 : Fine m s2 := by rw [← HS2.out]; exact tickA_fine HF1.out
  have hn2 : s2.n = n := by rw [← HS2.out, tickA_n, ← HS.out]; exact HN.out
  have hl2 : leadsB s2 = decide (s2.led ≠ 0) := by rw [← HS2.out]; exact tickA_leads s1
  have hz2 : s2.lease + 16 * (s2.me + 1) = pz := by rw [← HS2.out, tickA_lease, tickA_me]; exact HPZ.out
  have ew : IntKind.i64.wrap (s2.now - s2.a2) = s2.now - s2.a2 := by
    have p0 := hF2.t0
    have p1 := hF2.t1
    have p2 := hF2.s0
    have p3 := hF2.s1
    rw [i64_w]; unfold wrap64; omega
  have HF2 := Lib.hid hF2
  have HN2 := Lib.hid hn2
  have HL2 := Lib.hid hl2
  have HZ2 := Lib.hid hz2
  have HEW := Lib.hid ew
  clear hF2 hn2 hl2 hz2 ew
  go_upto_region 7 with (fail)
  have HLT := Lib.hid (H3.out.cells.2.2.2.2.2.2.2.2.2.1)
  go_cut [64] (fun u64 wc => u64 = .bool (freesB s2) ∧ Hid (RIs base ok wc r v s2) ∧ Hid (Stp base r w wc))
  case first =>
    have d9 := HLT.out
    obtain ⟨o, ho⟩ : ∃ x, s2.opn = x := ⟨_, rfl⟩
    rw [ho] at d9
    rcases o with _ | _
    · go_quiet (fail)
      go_wp2
      go_meet
      case rel => exact ⟨by simp [freesB, ho], Lib.hid (H3.out.kept (pw_below_drewN (Below.refl _ _) _)), Lib.hid (H3.out.stp HB3.out (pw_below_drewN (Below.refl _ _) _))⟩
    · have HOP := Lib.hid ho
      clear ho
      have ew := HEW.out
      obtain ⟨b, q⟩ : ∃ x, leadsB s2 = x := ⟨_, rfl⟩
      have d4 := H3.out.cells.2.2.2.2.1
      have d11 := H3.out.cells.2.2.2.2.2.2.2.2.2.2.2.1
      have LQ : Hid (∀ n, Calls Try.prog 43 #[.pointer (some ⟨r, 0, none⟩)] (wc.drewN n) fun e w' => e = .returned (.bool b) ∧ ∃ m, w' = (wc.drewN n).drewN m) := Lib.hid (fun n => by have h9 := rleads_q base r ok v s2 (wc.drewN n) (RIs.kept H3.out (pw_below_drewN (Below.refl _ _) n)); rw [q] at h9; exact h9)
      rcases b with _ | _
      · go_quiet (first | ((with_reducible go_at_call 43); exact Calls.quiet_of (LQ.out _)))
        go_wp2
        go_meet
        case rel => exact ⟨by have h1 := HL2.out; rw [q] at h1; have h2 := of_decide_eq_false h1.symm; have h3 : s2.led = 0 := Classical.not_not.1 h2; simp [freesB, HOP.out, h3], Lib.hid (H3.out.kept (pw_below_drewN (Below.refl _ _) _)), Lib.hid (H3.out.stp HB3.out (pw_below_drewN (Below.refl _ _) _))⟩
      · go_quiet (first | ((with_reducible go_at_call 43); exact Calls.quiet_of (LQ.out _)))
        go_wp2
        go_meet
        case rel => exact ⟨by have h1 := HL2.out; rw [q] at h1; have h2 := of_decide_eq_true h1.symm; simp [freesB, HOP.out, h2], Lib.hid (H3.out.kept (pw_below_drewN (Below.refl _ _) _)), Lib.hid (H3.out.stp HB3.out (pw_below_drewN (Below.refl _ _) _))⟩
  case rest =>
  clear H3 HB3 HLT
  obtain ⟨rfl, H3, HB3⟩ := hcut
  obtain ⟨s3, hs3⟩ : ∃ x, tickB s2 = x := ⟨_, rfl⟩
  have HS3 := Lib.hid hs3
  obtain ⟨ob, hob⟩ : ∃ x, outB s2 n = x := ⟨_, rfl⟩
  have HOB := Lib.hid hob
  obtain ⟨b, hb⟩ : ∃ x, freesB s2 = x := ⟨_, rfl⟩
  rw [hb]
  have HQ2 := Lib.hid hb
  clear hb hob hs3
  go_upto_if 64 with (fail)
  go_cut [64, 5] (fun _ u5 wc => ∃ A c, u5 = .slice A ob.length c ∧ Hid (RIs base ok wc r v s3) ∧ Hid (Stp base r w wc) ∧ Hid (Kd.R k38 38 wc w.heap.size (fun _ => True) (.slice A ob.length c) ob))
  case first =>
    rcases b with _ | _
    · go_wp2
      go_meet
      case rel => exact ⟨none, 0, by rw [← HOB.out, outB_no HQ2.out]; rfl, by rw [← HS3.out, tickB_no HQ2.out]; exact H3, HB3, Lib.hid (by rw [← HOB.out, outB_no HQ2.out]; exact Kd.R_nil _ _ _ _ _)⟩
    · have ew : IntKind.i64.wrap (s2.now + pz) = s2.now + s2.lease + 16 * (s2.me + 1) := by
        have a0 := HF2.out.l0
        have a1 := HF2.out.l1
        have a2 := HF2.out.me0
        have a3 := HF2.out.me1
        have a4 := HF2.out.t0
        have a5 := HF2.out.t1
        have a6 := HF2.out.hn
        rw [i64_w, ← HZ2.out]; unfold wrap64; omega
      have hob2 : ob = [] ++ outK 3 s2.me s2.a1 s2.a2 n := by
        rw [← HOB.out, outB_yes HQ2.out]
        have ha : s2.a0 = s2.me := HF2.out.ak (by
          have := HQ2.out
          unfold freesB at this
          rw [Bool.and_eq_true] at this
          exact this.1)
        show [] ++ outG s2 n = _
        unfold outG outK postG postK
        rw [ha]
      have HOB2 := Lib.hid hob2
      clear hob2
      go_wp2_with (first | ((with_reducible go_at_call 44); (have q_ := H3; clear q_); go_must (refine (rall_ok w.heap.size base r ok v s2 3 none 0 [] _ H3.out HRW.out HO.out HB3.out.2.1 (Kd.R_nil _ _ _ _ _) (by simp) n HN2.out HN5.out).mono ?_; rintro e w3 ⟨A3, c3, rfl, hr, hb⟩; have H4 := Lib.hid (RIs.low H3.out HRW.out HO.out hb); have f9 := H4.out.free 9; have d9 := H4.out.cells.2.2.2.2.2.2.2.2.2.1; have f15 := H4.out.free 15; have d15 := H4.out.cells.2.2.2.2.2.2.2.2.2.2.2.2.2.2.2.1; have d4 := H4.out.cells.2.2.2.2.1; have HB4 := Lib.hid (HB3.out.low hb HBW.out); have HR4 := Lib.hid hr; clear H3 HB3 hr hb)))
      have h1 := H4.out.put (s' := { s2 with opn := false }) 9 (.bool false) rfl rfl
      have h2 := h1.put (s' := pauseS { s2 with opn := false }) 15 (.int .i64 (s2.now + s2.lease + 16 * (s2.me + 1))) rfl rfl
      have k1 := H4.out.keep 9 (.bool false)
      have k2 := h1.keep 15 (.int .i64 (s2.now + s2.lease + 16 * (s2.me + 1)))
      have h3 := h1.stput (H4.out.stput HB4.out 9 (.bool false)) 15 (.int .i64 (s2.now + s2.lease + 16 * (s2.me + 1)))
      have h4 := out_keep HR4.out HRW.out (kept_trans k1.2 k2.2)
      go_meet
      case rel => exact ⟨A3, c3, by rw [HOB2.out]; rfl, by rw [← HS3.out, tickB_yes HQ2.out]; exact Lib.hid h2, Lib.hid h3, Lib.hid (by rw [HOB2.out]; exact h4)⟩
  case rest =>
  clear H3 HB3
  obtain ⟨A, c, rfl, H5, HB5, HR5⟩ := hcut
  have hF3 : Fine m s3 := by rw [← HS3.out]; exact tickB_fine HF2.out
  have hn3 : s3.n = n := by rw [← HS3.out, tickB_n]; exact HN2.out
  have hl3 : leadsB s3 = decide (s3.led ≠ 0) := by rw [← HS3.out]; exact tickB_leads s2 HL2.out
  have hk3 := known_rng hF3
  have fin : tickS s t n = tickC s3 n ob := by unfold tickS; rw [HS.out, HS2.out, HS3.out, HOB.out]
  have FIN := Lib.hid fin
  have HF3 := Lib.hid hF3
  have HN3 := Lib.hid hn3
  have HL3 := Lib.hid hl3
  have HOL : Hid (ob.length ≤ 100) := Lib.hid (by rw [← HOB.out]; exact Nat.le_trans (outB_len _ _) (by have := HN5.out; omega))
  clear hF3 hn3 hl3 fin
  obtain ⟨kn, hkn⟩ : ∃ x, knownS s3 = x := ⟨_, rfl⟩
  rw [hkn] at hk3
  have HK := Lib.hid hkn
  clear hkn
  go_upto_region 11 with (fail)
  go_cut [7] (fun u7 wc => u7 = .int .i64 kn ∧ Hid (RIs base ok wc r v s3) ∧ Hid (Stp base r w wc) ∧ Hid (Kd.R k38 38 wc w.heap.size (fun _ => True) (.slice A ob.length c) ob))
  case first =>
    have d5 := H5.out.cells.2.2.2.2.2.1
    have d16 := H5.out.cells.2.2.2.2.2.2.2.2.2.2.2.2.2.2.2.2
    go_quiet (fail)
    go_wp2
    all_goals
      go_meet
      case rel => exact ⟨by rw [← HK.out]; refine congrArg (Value.int .i64) ?_; unfold knownS mx; (repeat' split) <;> omega, Lib.hid (H5.out.kept (pw_below_drewN (Below.refl _ _) _)), Lib.hid (H5.out.stp HB5.out (pw_below_drewN (Below.refl _ _) _)), Lib.hid (Kd.R_drewN HR5.out _)⟩
  case rest =>
  clear H5 HB5 HR5
  obtain ⟨rfl, H5, HB5, HR5⟩ := hcut
  have ew : IntKind.i64.wrap (s3.now - s3.a2) = s3.now - s3.a2 := by
    have p0 := HF3.out.t0
    have p1 := HF3.out.t1
    have p2 := HF3.out.s0
    have p3 := HF3.out.s1
    rw [i64_w]; unfold wrap64; omega
  have eq : IntKind.i64.wrap (Int.tdiv s3.lease 4) = Int.tdiv s3.lease 4 := by
    have a0 := HF3.out.l0
    have a1 := HF3.out.l1
    have a2 : 0 ≤ Int.tdiv s3.lease 4 := Int.tdiv_nonneg (by omega) (by omega)
    have a3 : Int.tdiv s3.lease 4 ≤ 1000 := by
      rw [Int.tdiv_eq_ediv_of_nonneg (by omega)]
      omega
    rw [i64_w]; unfold wrap64; omega
  obtain ⟨b, q⟩ : ∃ x, leadsB s3 = x := ⟨_, rfl⟩
  go_upto_region 12 with (fail)
  rcases b with _ | _
  rotate_left
  · have hled : s3.led ≠ 0 := by have h1 := HL3.out; rw [q] at h1; exact of_decide_eq_true h1.symm
    have HLD := Lib.hid hled
    clear hled
    go_upto_region 13 with (first | ((with_reducible go_at_call 43); (have q_ := H5; clear q_); go_must (refine (rleads_ok base r ok v s3 _ H5.out).mono ?_; rintro e w2 ⟨he, h, hb⟩; rw [q] at he; subst he; have H6 := Lib.hid h; have HB6 := Lib.hid (RIs.stp H5.out HB5.out hb); have HR6 := Lib.hid (Kd.R_below HR5.out hb); have d2 := H6.out.cells.2.2.1; have d4 := H6.out.cells.2.2.2.2.1; have d11 := H6.out.cells.2.2.2.2.2.2.2.2.2.2.2.1; have d13 := H6.out.cells.2.2.2.2.2.2.2.2.2.2.2.2.2.1; clear H5 HB5 HR5 h hb)))
    by_cases qa : Int.tdiv s3.lease 4 ≤ s3.now - s3.a2
    · go_quiet (fail)
      refine world_gen (P := fun w5 => RIs base ok w5 r v s3 ∧ Stp base r w w5 ∧ Kd.R k38 38 w5 w.heap.size (fun _ => True) (.slice A ob.length c) ob) (rst3 H6.out HB6.out HR6.out _) (fun w5 h5 => ?_)
      clear H6 HB6 HR6 d2 d4 d11 d13
      have H6 := Lib.hid h5.1
      have HB6 := Lib.hid h5.2.1
      have HR6 := Lib.hid h5.2.2
      clear h5
      have d13 := H6.out.cells.2.2.2.2.2.2.2.2.2.2.2.2.2.1
      obtain ⟨eb, he⟩ : ∃ x, ob ++ outA s3.me s3.led s3.now n = x := ⟨_, rfl⟩
      obtain ⟨s4, hs4⟩ : ∃ x, asksS s3 s3.led = x := ⟨_, rfl⟩
      have HT : Hid (tickC s3 n ob = (s4, eb)) := Lib.hid (by unfold tickC; rw [if_pos (by simp [againB, HLD.out, qa]), hs4, he])
      have HS4 := Lib.hid hs4
      have HE := Lib.hid he
      clear he hs4
      go_wp2_with (first | ((with_reducible go_at_call 45); (have q_ := H6; clear q_); go_must (refine (begins_ok base r ok v s3 s3.led _ H6.out).mono ?_; rintro e w6 ⟨rfl, h, hst⟩; have H7 : Hid (RIs base ok w6 r (.slice none 0 0) s4) := Lib.hid (by rw [← HS4.out]; exact h); have HB7 := Lib.hid (HB6.out.trans hst); have HR7 := Lib.hid (out_keep HR6.out HRW.out hst.2); clear H6 HB6 HR6 h hst)) | ((with_reducible go_at_call 44); (have q_ := HB7; clear q_); go_must (refine (rall_ok w.heap.size base r ok (.slice none 0 0) s4 1 A c ob _ H7.out HRW.out HO.out HB7.out.2.1 HR7.out HOL.out n (by rw [← HS4.out]; exact HN3.out) HN5.out).mono ?_; rintro e w7 ⟨A7, c7, rfl, hr, hb⟩; have h_ := Lib.hid (RIs.low H7.out HRW.out HO.out hb); have hb_ := Lib.hid (HB7.out.low hb HBW.out); have ha_ : ob ++ outK 1 s4.me s4.a1 s4.a2 n = eb := (by rw [← HS4.out]; exact HE.out); rw [ha_] at hr ⊢; clear H7 HB7 HR7 ha_; have H7 := h_; have HB7 := hb_; have HR7 := Lib.hid hr; clear hr hb h_ hb_)))
      go_ret
      rw [FIN.out, HT.out]
      exact RTickP.mk A7 c7 _ rfl H7.out HR7.out HB7.out
    · go_quiet (fail)
      go_wp2
      go_ret
      have hT : tickC s3 n ob = (s3, ob) := by unfold tickC; rw [if_neg (by simp [againB, HLD.out, qa]), if_pos (by simp [waitsB, HLD.out])]
      rw [FIN.out, hT]
      obtain ⟨k1, k2, k3⟩ := rst3 H6.out HB6.out HR6.out nq
      exact RTickP.mk A c _ rfl k1 k3 k2
  · have hled : s3.led = 0 := by have h1 := HL3.out; rw [q] at h1; exact Classical.not_not.1 (of_decide_eq_false h1.symm)
    have HLD := Lib.hid hled
    clear hled
    obtain ⟨o, ho⟩ : ∃ x, s3.opn = x := ⟨_, rfl⟩
    have HOP := Lib.hid ho
    clear ho
    go_upto_region 16 with (first | ((with_reducible go_at_call 43); (have q_ := H5; clear q_); go_must (refine (rleads_ok base r ok v s3 _ H5.out).mono ?_; rintro e w2 ⟨he, h, hb⟩; rw [q] at he; subst he; have H6 := Lib.hid h; have HB6 := Lib.hid (RIs.stp H5.out HB5.out hb); have HR6 := Lib.hid (Kd.R_below HR5.out hb); have d4 := H6.out.cells.2.2.2.2.1; have d7 := H6.out.cells.2.2.2.2.2.2.2.1; have d9 := H6.out.cells.2.2.2.2.2.2.2.2.2.1; have d15 := H6.out.cells.2.2.2.2.2.2.2.2.2.2.2.2.2.2.2.1; clear H5 HB5 HR5 h hb)))
    rw [HOP.out] at d9
    rcases o with _ | _
    rotate_left
    · go_quiet (fail)
      go_wp2
      go_ret
      have hT : tickC s3 n ob = (s3, ob) := by unfold tickC; rw [if_neg (by simp [againB, HLD.out]), if_pos (by simp [waitsB, HOP.out])]
      rw [FIN.out, hT]
      obtain ⟨k1, k2, k3⟩ := rst3 H6.out HB6.out HR6.out nq
      exact RTickP.mk A c _ rfl k1 k3 k2
    by_cases q2 : s3.now < s3.next
    · have z2 : decide (s3.next ≤ s3.now) = false := decide_eq_false (by omega)
      go_quiet (fail)
      go_wp2
      go_ret
      have hT : tickC s3 n ob = (s3, ob) := by unfold tickC; rw [if_neg (by simp [againB, HLD.out]), if_pos (by simp [waitsB, q2])]
      rw [FIN.out, hT]
      obtain ⟨k1, k2, k3⟩ := rst3 H6.out HB6.out HR6.out nq
      exact RTickP.mk A c _ rfl k1 k3 k2
    have q2' : s3.next ≤ s3.now := by omega
    by_cases q3 : s3.now < s3.vu
    · have z3 : decide (s3.vu ≤ s3.now) = false := decide_eq_false (by omega)
      go_quiet (fail)
      go_wp2
      go_ret
      have hT : tickC s3 n ob = (s3, ob) := by unfold tickC; rw [if_neg (by simp [againB, HLD.out]), if_pos (by simp [waitsB, q3])]
      rw [FIN.out, hT]
      obtain ⟨k1, k2, k3⟩ := rst3 H6.out HB6.out HR6.out nq
      exact RTickP.mk A c _ rfl k1 k3 k2
    have q3' : s3.vu ≤ s3.now := by omega
    by_cases q4 : 1099511627776 ≤ kn
    · go_quiet (fail)
      go_wp2
      go_ret
      have hT : tickC s3 n ob = (s3, ob) := by unfold tickC; rw [if_neg (by simp [againB, HLD.out]), if_pos (by simp [waitsB, HK.out, q4])]
      rw [FIN.out, hT]
      obtain ⟨k1, k2, k3⟩ := rst3 H6.out HB6.out HR6.out nq
      exact RTickP.mk A c _ rfl k1 k3 k2
    go_quiet (fail)
    refine world_gen (P := fun w5 => RIs base ok w5 r v s3 ∧ Stp base r w w5 ∧ Kd.R k38 38 w5 w.heap.size (fun _ => True) (.slice A ob.length c) ob) (rst3 H6.out HB6.out HR6.out _) (fun w5 h5 => ?_)
    clear H6 HB6 HR6 d4 d7 d9 d15
    have H6 := Lib.hid h5.1
    have HB6 := Lib.hid h5.2.1
    have HR6 := Lib.hid h5.2.2
    clear h5
    have d16 := H6.out.cells.2.2.2.2.2.2.2.2.2.2.2.2.2.2.2.2
    have f16 := H6.out.free 16
    have hkk : IntKind.i64.wrap (kn + 1) = kn + 1 := by rw [i64_w]; unfold wrap64; omega
    obtain ⟨eb, he⟩ : ∃ x, ob ++ outA s3.me (kn + 1) s3.now n = x := ⟨_, rfl⟩
    obtain ⟨s4, hs4⟩ : ∃ x, asksS { s3 with heard := kn + 1 } (kn + 1) = x := ⟨_, rfl⟩
    have HT : Hid (tickC s3 n ob = (s4, eb)) := Lib.hid (by unfold tickC; rw [if_neg (by simp [againB, HLD.out]), if_neg (by simp [waitsB, HLD.out, HOP.out, q2, q3, HK.out, q4]), HK.out, hs4, he])
    have HS4 := Lib.hid hs4
    have HE := Lib.hid he
    clear he hs4
    go_wp2_with (first | ((with_reducible go_at_call 45); (have q_ := H6; clear q_); go_must (refine (begins_ok base r ok v { s3 with heard := kn + 1 } (kn + 1) _ (H6.out.put (s' := { s3 with heard := kn + 1 }) 16 (.int .i64 (kn + 1)) rfl rfl)).mono ?_; rintro e w6 ⟨rfl, h, hst⟩; have H7 : Hid (RIs base ok w6 r (.slice none 0 0) s4) := Lib.hid (by rw [← HS4.out]; exact h); have HB7 := Lib.hid ((H6.out.stput HB6.out 16 (.int .i64 (kn + 1))).trans hst); have HR7 := Lib.hid (out_keep HR6.out HRW.out (kept_trans (H6.out.keep 16 (.int .i64 (kn + 1))).2 hst.2)); clear H6 HB6 HR6 h hst)) | ((with_reducible go_at_call 44); (have q_ := HB7; clear q_); go_must (refine (rall_ok w.heap.size base r ok (.slice none 0 0) s4 1 A c ob _ H7.out HRW.out HO.out HB7.out.2.1 HR7.out HOL.out n (by rw [← HS4.out]; exact HN3.out) HN5.out).mono ?_; rintro e w7 ⟨A7, c7, rfl, hr, hb⟩; have h_ := Lib.hid (RIs.low H7.out HRW.out HO.out hb); have hb_ := Lib.hid (HB7.out.low hb HBW.out); have ha_ : ob ++ outK 1 s4.me s4.a1 s4.a2 n = eb := (by rw [← HS4.out]; exact HE.out); rw [ha_] at hr ⊢; clear H7 HB7 HR7 ha_; have H7 := h_; have HB7 := hb_; have HR7 := Lib.hid hr; clear hr hb h_ hb_)))
    go_ret
    rw [FIN.out, HT.out]
    exact RTickP.mk A7 c7 _ rfl H7.out HR7.out HB7.out
end Go.Proofs.Ytpgmfjpjjnpiiaa.RLeaseC
