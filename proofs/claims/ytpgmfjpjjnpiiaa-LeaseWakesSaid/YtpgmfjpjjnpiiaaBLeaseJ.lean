/- PROVED: lemmas that the row uses (cut copies of my texts and of the printed ones). No condition beyond what each line says. -/
import Derived.Test.YtpgmfjpjjnpiiaaBLeaseD
import Derived.Test.YtpgmfjpjjnpiiaaBXA
import Derived.Test.YtpgmfjpjjnpiiaaBWAll
import Derived.WalkKit
import Derived.WalkSpells
import Derived.WalkLawsBesides
import Derived.Outline
import Derived.Lib.Hide
import Derived.Deep.LoopGhost
import Derived.Deep.RegionHeld3
import Derived.Deep.DeepCutAuto
import Derived.Deep.RegionLaw
import Derived.BigQuiet
import Derived.Deep.QuietTactic
namespace Go.Proofs.Ytpgmfjpjjnpiiaa.LeaseJ
open Go.RowKit Go.Proofs.Ytpgmfjpjjnpiiaa.PLeaseWakes Go.Proofs.YtpgmfjpjjnpiiaaW.PrintWords Go.Proofs.YtpgmfjpjjnpiiaaW.PrintLast Go.Proofs.YtpgmfjpjjnpiiaaW.PrintMore
attribute [local go_sem] max2_int min2_int max_two min_two max_three min_three max_four min_four
set_option linter.unusedSimpArgs false
set_option linter.unusedVariables false
open Go.Proofs.Ytpgmfjpjjnpiiaa.LeaseA
open Go.Proofs.Ytpgmfjpjjnpiiaa.LeaseB Go.Proofs.Ytpgmfjpjjnpiiaa.LeaseC Go.Proofs.Ytpgmfjpjjnpiiaa.LeaseD Go.Proofs.Ytpgmfjpjjnpiiaa.LeaseH
/-- What a tick does: first, where it led and does no longer; second, where what was asked is too old; third. -/
def tickA (s : ES) : ES := if s.led ≠ 0 ∧ leadsB s = false then pauseS { s with led := 0 } else s
def freesB (s : ES) : Bool := s.opn && (decide (s.led = 0) && decide (8 < s.now - s.a2))
def tickB (s : ES) : ES := if freesB s = true then pauseS { s with opn := false } else s
def outB (s : ES) (n : Nat) : List S38 := if freesB s = true then outG s n else []
def knownS (s : ES) : Int := mx s.heard s.ve
def againB (s : ES) : Bool := decide (s.led ≠ 0) && decide (Int.tdiv s.lease 4 ≤ s.now - s.a2)
def waitsB (s : ES) : Bool := decide (s.led ≠ 0) || (s.opn || (decide (s.now < s.next) || (decide (s.now < s.vu) || decide (1099511627776 ≤ knownS s))))
def tickC (s : ES) (n : Nat) (l : List S38) : ES × List S38 :=
  if againB s = true then (asksS s s.led, l ++ outA s.me s.led s.now n)
  else if waitsB s = true then (s, l)
  else (asksS { s with heard := knownS s + 1 } (knownS s + 1), l ++ outA s.me (knownS s + 1) s.now n)
def tickS (s : ES) (t : Int) (n : Nat) : ES × List S38 := tickC (tickB (tickA (toldS s t))) n (outB (tickA (toldS s t)) n)
/-- An elector's numbers are sound. -/
structure Fine (m : Nat) (s : ES) : Prop where
  hn : s.n = 1 ∨ s.n = 3 ∨ s.n = 5
  me0 : 0 ≤ s.me
  me1 : s.me < s.n
  l0 : 40 ≤ s.lease
  l1 : s.lease ≤ 1000
  f0 : 0 ≤ s.safe
  f1 : s.safe ≤ 1000
  t0 : 0 ≤ s.now
  t1 : s.now ≤ 1099511627776
  s0 : 0 ≤ s.a2
  s1 : s.a2 ≤ 1099511627776
  e0 : 0 ≤ s.ve
  e1 : s.ve ≤ 1099511627776
  d0 : 0 ≤ s.heard
  d1 : s.heard ≤ 1099511627776
  gl : s.gr.length ≤ m
  gw : ∀ p ∈ s.gr, -9223372036854775808 ≤ p.f0 ∧ p.f0 ≤ 9223372036854775807
  ak : s.opn = true → s.a0 = s.me
theorem Fine.mono {m k : Nat} {s : ES} (h : Fine m s) (hk : m ≤ k) : Fine k s := { h with gl := Nat.le_trans h.gl hk }
theorem told_fine {m : Nat} {s : ES} (h : Fine m s) (t : Int) : Fine m (toldS s t) := { h with t0 := by have := h.t0; simp only [toldS]; unfold mx; split <;> omega, t1 := by have := h.t1; simp only [toldS]; unfold mx mn; split <;> (try split) <;> omega }
theorem tickA_fine {m : Nat} {s : ES} (h : Fine m s) : Fine m (tickA s) := by
  unfold tickA
  split
  · exact { h with }
  · exact h
theorem tickB_fine {m : Nat} {s : ES} (h : Fine m s) : Fine m (tickB s) := by
  unfold tickB
  split
  · exact { h with ak := fun h => by cases h }
  · exact h
theorem known_rng {m : Nat} {s : ES} (h : Fine m s) : 0 ≤ knownS s ∧ knownS s ≤ 1099511627776 := by
  have := h.d0; have := h.d1; have := h.e0; have := h.e1
  unfold knownS mx
  split <;> omega
theorem asks_fine {m : Nat} {s : ES} (h : Fine m s) (e : Int) : Fine m (asksS s e) := { h with s0 := h.t0, s1 := h.t1, gl := Nat.zero_le _, gw := (fun p hp => by cases hp), ak := fun _ => rfl }
theorem tickC_fine {m : Nat} {s : ES} (h : Fine m s) (n : Nat) (l : List S38) : Fine m (tickC s n l).1 := by
  unfold tickC
  split
  · exact asks_fine h _
  split
  · exact h
  · rename_i q
    have hk := known_rng h
    have : ¬ (1099511627776 ≤ knownS s) := fun hh => q (by simp [waitsB, hh])
    exact asks_fine (s := { s with heard := knownS s + 1 }) { h with d0 := by show 0 ≤ knownS s + 1; omega, d1 := by show knownS s + 1 ≤ _; omega } _
theorem tick_fine {m : Nat} {s : ES} (h : Fine m s) (t : Int) (n : Nat) : Fine m (tickS s t n).1 := tickC_fine (tickB_fine (tickA_fine (told_fine h t))) n _
theorem outB_len (s : ES) (n : Nat) : (outB s n).length ≤ n := by
  unfold outB
  split
  · rw [outG_len]; exact Nat.le_refl _
  · exact Nat.zero_le _
def lostB (s : ES) : Bool := decide (s.led ≠ 0) && !leadsB s
theorem tickA_no {s : ES} (h : lostB s = false) : tickA s = s := by
  unfold tickA
  rw [if_neg]
  rintro ⟨h1, h2⟩
  simp [lostB, h1, h2] at h
theorem tickA_yes {s : ES} (h : lostB s = true) : tickA s = pauseS { s with led := 0 } := by
  unfold tickA
  rw [if_pos]
  simpa [lostB] using h
theorem tickA_n (s : ES) : (tickA s).n = s.n := by
  unfold tickA
  split <;> rfl
theorem tickB_n (s : ES) : (tickB s).n = s.n := by
  unfold tickB
  split <;> rfl
theorem tickB_no {s : ES} (h : freesB s = false) : tickB s = s := by
  unfold tickB
  rw [if_neg (by simp [h])]
theorem tickB_yes {s : ES} (h : freesB s = true) : tickB s = pauseS { s with opn := false } := by
  unfold tickB
  rw [if_pos h]
theorem outB_no {s : ES} {n : Nat} (h : freesB s = false) : outB s n = [] := by
  unfold outB
  rw [if_neg (by simp [h])]
theorem outB_yes {s : ES} {n : Nat} (h : freesB s = true) : outB s n = [] ++ outG s n := by
  unfold outB
  rw [if_pos h]
  rfl
theorem tickB_now (s : ES) : (tickB s).now = s.now := by
  unfold tickB
  split <;> rfl
theorem tickB_a2 (s : ES) : (tickB s).a2 = s.a2 := by
  unfold tickB
  split <;> rfl
/-- A step of the walk: what lies below the base, and all but the elector's own block, is as it was. -/
def Stp (base r : Nat) (w w1 : World) : Prop := Below base w w1 ∧ Kept w w1 (fun k => k = r)
theorem Stp.refl (base r : Nat) (w : World) : Stp base r w w := ⟨Below.refl _ _, Kept.refl _ _⟩
theorem Stp.trans {base r : Nat} {w w1 w2 : World} (h : Stp base r w w1) (k : Stp base r w1 w2) : Stp base r w w2 := ⟨h.1.trans k.1, kept_trans h.2 k.2⟩
theorem Stp.low {base r : Nat} {w w1 w2 : World} (h : Stp base r w w1) (hb : Below w.heap.size w1 w2) (hB : base ≤ w.heap.size) : Stp base r w w2 :=
  ⟨h.1.trans (hb.mono hB), ⟨Nat.le_trans h.2.1 hb.size, fun k hk hn => (hb.block k hk).trans (h.2.2 k hk hn)⟩⟩
theorem Stp.below {base r : Nat} {w w1 w2 : World} {ok : Nat → Prop} {v : Value} {s : ES} (h : Stp base r w w1) (hE : EIs base ok w1 r v s) (hb : Below w1.heap.size w1 w2) : Stp base r w w2 := ⟨below_up h.1 hE hb, Kept.below h.2 hb⟩
theorem Stp.put {base r : Nat} {w w1 : World} {ok : Nat → Prop} {v : Value} {s : ES} (h : Stp base r w w1) (hE : EIs base ok w1 r v s) (j : Nat) (x : Value) : Stp base r w (w1.setCell ⟨r, j, none⟩ x) := h.trans (hE.keep j x)
/-- What was made since is left alone by stores into the elector. -/
theorem out_keep {B r : Nat} {w1 w2 : World} {v : Value} {l : List S38} (h : Kd.R k38 38 w1 B (fun _ => True) v l) (hr : r < B) (hk : Kept w1 w2 (fun k => k = r)) : Kd.R k38 38 w2 B (fun _ => True) v l :=
  Kd.R_mono (Kd.R_step (Kd.R_mono (Kd.R_bound h) (fun k hk => hk.2.1)) (fun k hB hl => hk.2 k hl (by show ¬ k = r; omega))) (fun _ _ => trivial)
theorem st3 {base r B : Nat} {w w1 : World} {ok : Nat → Prop} {v u : Value} {s : ES} {l : List S38} (h : EIs base ok w1 r v s) (k : Stp base r w w1) (g : Kd.R k38 38 w1 B (fun _ => True) u l) (m : Nat) : EIs base ok (w1.drewN m) r v s ∧ Stp base r w (w1.drewN m) ∧ Kd.R k38 38 (w1.drewN m) B (fun _ => True) u l :=
  ⟨h.kept (pw_below_drewN (Below.refl _ _) _), k.below h (pw_below_drewN (Below.refl _ _) _), Kd.R_drewN g m⟩
/-- What a tick comes to. -/
def TickP (base : Nat) (ok : Nat → Prop) (r : Nat) (x : ES × List S38) (w : World) (e : Ending) (w' : World) : Prop := ∃ A c v', e = .returned (.slice A x.2.length c) ∧ EIs base ok w' r v' x.1 ∧ Kd.R k38 38 w' w.heap.size (fun _ => True) (.slice A x.2.length c) x.2 ∧ Stp base r w w'
theorem TickP.mk {base : Nat} {ok : Nat → Prop} {r : Nat} {s : ES} {l : List S38} {w w' : World} {e : Ending} (A : Option Addr) (c : Nat) (v' : Value) (h1 : e = .returned (.slice A l.length c)) (h2 : EIs base ok w' r v' s) (h3 : Kd.R k38 38 w' w.heap.size (fun _ => True) (.slice A l.length c) l) (h4 : Stp base r w w') : TickP base ok r (s, l) w e w' := ⟨A, c, v', h1, h2, h3, h4⟩
set_option maxHeartbeats 4000000 in
set_option maxRecDepth 100000 in
theorem tick_a (base r : Nat) (ok : Nat → Prop) (v : Value) (s : ES) (t : Int) (w : World) (h : EIs base ok w r v s) (m : Nat) (hf : Fine m s) (ho : ∀ k, ok k → k < w.heap.size) (n : Nat) (hnn : s.n = n) :
    Calls Try.prog 14 #[.pointer (some ⟨r, 0, none⟩), .int .i64 t] w (TickP base ok r (tickS s t n) w) := by
  obtain ⟨s1, hs1⟩ : ∃ x, toldS s t = x := ⟨_, rfl⟩
  have hF1 : Fine m s1 := by rw [← hs1]; exact told_fine hf t
  have HS := Lib.hid hs1
  have H0 := Lib.hid h
  have HF : Hid ((0 ≤ s1.now ∧ s1.now ≤ 1099511627776) ∧ (0 ≤ s1.lease ∧ s1.lease ≤ 1000) ∧ (0 ≤ s1.me ∧ s1.me ≤ 5)) := Lib.hid ⟨⟨hF1.t0, hF1.t1⟩, ⟨by have := hF1.l0; omega, hF1.l1⟩, hF1.me0, by have := hF1.me1; have := hF1.hn; omega⟩
  have HF1 := Lib.hid hF1
  have HO := Lib.hid ho
  have HN := Lib.hid hnn
  have HRW := Lib.hid h.lt
  have HBW := Lib.hid (Nat.le_trans h.2.1 (Nat.le_of_lt h.lt))
  have HN5 : Hid (n ≤ 5) := Lib.hid (by have := hf.hn; omega)
  clear hs1 h hF1 hf ho hnn
  go_enter Try.func14, Try.ntmps14
  go_upto_region 5 with (first | ((with_reducible go_at_call 29); (have q_ := H0; clear q_); go_must (refine (told_ok base r ok v s t _ H0.out).mono ?_; rintro e w1 ⟨rfl, h, hb, hk⟩; have H1 : Hid (EIs base ok w1 r v s1) := Lib.hid (by rw [← HS.out]; exact h); have HB1 : Hid (Stp base r w w1) := Lib.hid ⟨hb, hk⟩; clear H0 h hb hk)))
  obtain ⟨s2, hs2⟩ : ∃ x, tickA s1 = x := ⟨_, rfl⟩
  have HS2 := Lib.hid hs2
  clear hs2
  have d14 := H1.out.cells.2.2.2.2.2.2.2.2.2.2.2.2.2.2.1
  have HLT := Lib.hid d14
  clear d14
  go_cut [22] (fun u22 wc => u22 = .bool (lostB s1) ∧ Hid (EIs base ok wc r v s1) ∧ Hid (Stp base r w wc))
  case first =>
    have d14 := HLT.out
    by_cases q0 : s1.led = 0
    · have q1 : (s1.led == 0) = true := beq_iff_eq.mpr q0
      have q2 : (s1.led != 0) = false := by simp [q0]
      go_wp2
      go_meet
      case rel => exact ⟨by simp [lostB, q0], H1, HB1⟩
    · have q1 : (s1.led == 0) = false := beq_eq_false_iff_ne.mpr q0
      have q2 : (s1.led != 0) = true := bne_iff_ne.mpr q0
      obtain ⟨b, q⟩ : ∃ x, leadsB s1 = x := ⟨_, rfl⟩
      rcases b with _ | _
      · go_wp2_with (first | ((with_reducible go_at_call 33); (have q_ := H1; clear q_); go_must (refine (leads_ok base r ok v s1 _ H1.out).mono ?_; rintro e w2 ⟨he, h, hb⟩; rw [q] at he; subst he; have H2 := Lib.hid h; have HB2 := Lib.hid (HB1.out.below H1.out hb); clear H1 HB1 h hb)))
        go_meet
        case rel => exact ⟨by simp [lostB, q0, q], H2, HB2⟩
      · go_wp2_with (first | ((with_reducible go_at_call 33); (have q_ := H1; clear q_); go_must (refine (leads_ok base r ok v s1 _ H1.out).mono ?_; rintro e w2 ⟨he, h, hb⟩; rw [q] at he; subst he; have H2 := Lib.hid h; have HB2 := Lib.hid (HB1.out.below H1.out hb); clear H1 HB1 h hb)))
        go_meet
        case rel => exact ⟨by simp [lostB, q0, q], H2, HB2⟩
  case rest =>
    clear H1 HB1
    obtain ⟨rfl, H2, HB2⟩ := hcut
    obtain ⟨b, hb⟩ : ∃ x, lostB s1 = x := ⟨_, rfl⟩
    rw [hb]
    have HQ := Lib.hid hb
    clear hb
    go_upto_if 22 with (fail)
    go_cut [22] (fun _ wc => Hid (EIs base ok wc r v s2) ∧ Hid (Stp base r w wc))
    case first =>
      rcases b with _ | _
      · go_wp2
        go_meet
        case rel => exact ⟨by rw [← HS2.out, tickA_no HQ.out]; exact H2, HB2⟩
      · have f14 := H2.out.free 14
        have d14 := H2.out.cells.2.2.2.2.2.2.2.2.2.2.2.2.2.2.1
        go_wp2_with (first | ((with_reducible go_at_call 34); (have q_ := H2; clear q_); go_must (refine (pause_ok base r ok v { s1 with led := 0 } _ (H2.out.put 14 (.int .i64 0) rfl rfl) (HF.out.1) (HF.out.2.1) (HF.out.2.2)).mono ?_; rintro e w3 ⟨rfl, h, hb, hk⟩; have H3 := Lib.hid h; have HB3 := Lib.hid ((HB2.out.put H2.out 14 (.int .i64 0)).trans ⟨hb, hk⟩); clear H2 HB2 h hb hk)))
        go_meet
        case rel => exact ⟨by rw [← HS2.out, tickA_yes HQ.out]; exact H3, HB3⟩
    case rest =>
      clear H2 HB2
      obtain ⟨H3, HB3⟩ := hcut
      have hF2 : Fine m s2 := by rw [← HS2.out]; exact tickA_fine HF1.out
      have hn2 : s2.n = n := by rw [← HS2.out, tickA_n, ← HS.out]; exact HN.out
      have p0 := hF2.t0
      have p1 := hF2.t1
      have p2 := hF2.s0
      have p3 := hF2.s1
      have ew : IntKind.i64.wrap (s2.now - s2.a2) = s2.now - s2.a2 := by rw [i64_w]; unfold wrap64; omega
      have HF2 := Lib.hid hF2
      have HN2 := Lib.hid hn2
      clear hF2 hn2 p0 p1 p2 p3
      have d4 := H3.out.cells.2.2.2.2.1
      have d11 := H3.out.cells.2.2.2.2.2.2.2.2.2.2.2.1
      go_upto_region 8 with (fail)
      go_quiet (fail)
      clear ew d4 d11
      refine world_gen (P := fun w5 => EIs base ok w5 r v s2 ∧ Stp base r w w5) ⟨H3.out.kept (pw_below_drewN (Below.refl _ _) _), HB3.out.below H3.out (pw_below_drewN (Below.refl _ _) _)⟩ (fun w5 h5 => ?_)
      clear H3 HB3
      have H3 := Lib.hid h5.1
      have HB3 := Lib.hid h5.2
      clear h5
      obtain ⟨g, hg⟩ : ∃ x, s2.now - s2.a2 = x := ⟨_, rfl⟩
      rw [hg]
      have HG := Lib.hid hg
      clear hg
      go_upto_region 9 with (fail)
      have HLT := Lib.hid (And.intro (H3.out.cells.2.2.2.2.2.2.2.2.2.2.2.2.1) (H3.out.cells.2.2.2.2.2.2.2.2.2.2.2.2.2.2.1))
      go_cut [52, 6] (fun u52 u6 wc => u52 = .bool (freesB s2) ∧ u6 = .int .i64 g ∧ Hid (EIs base ok wc r v s2) ∧ Hid (Stp base r w wc))
      case first =>
        obtain ⟨d12, d14⟩ := HLT.out
        obtain ⟨o, ho⟩ : ∃ x, s2.opn = x := ⟨_, rfl⟩
        rw [ho] at d12
        rcases o with _ | _
        · go_wp2
          go_meet
          case rel => exact ⟨by simp [freesB, ho], rfl, H3, HB3⟩
        · by_cases q0 : s2.led = 0
          · have q1 : (s2.led == 0) = true := beq_iff_eq.mpr q0
            go_wp2
            go_meet
            case rel => exact ⟨by simp [freesB, ho, q0, HG.out], rfl, H3, HB3⟩
          · have q1 : (s2.led == 0) = false := beq_eq_false_iff_ne.mpr q0
            go_wp2
            go_meet
            case rel => exact ⟨by simp [freesB, ho, q0], rfl, H3, HB3⟩
      case rest =>
        clear H3 HB3 HLT
        obtain ⟨rfl, rfl, H3, HB3⟩ := hcut
        obtain ⟨s3, hs3⟩ : ∃ x, tickB s2 = x := ⟨_, rfl⟩
        have HS3 := Lib.hid hs3
        obtain ⟨ob, hob⟩ : ∃ x, outB s2 n = x := ⟨_, rfl⟩
        have HOB := Lib.hid hob
        obtain ⟨b, hb⟩ : ∃ x, freesB s2 = x := ⟨_, rfl⟩
        rw [hb]
        have HQ := Lib.hid hb
        clear hb hob hs3
        go_upto_if 52 with (fail)
        go_cut [52, 5, 6] (fun _ u5 u6 wc => ∃ A c, u5 = .slice A ob.length c ∧ u6 = .int .i64 g ∧ Hid (EIs base ok wc r v s3) ∧ Hid (Stp base r w wc) ∧ Hid (Kd.R k38 38 wc w.heap.size (fun _ => True) (.slice A ob.length c) ob))
        case first =>
          rcases b with _ | _
          · go_wp2
            go_meet
            case rel => exact ⟨none, 0, by rw [← HOB.out, outB_no HQ.out]; rfl, rfl, by rw [← HS3.out, tickB_no HQ.out]; exact H3, HB3, Lib.hid (by rw [← HOB.out, outB_no HQ.out]; exact Kd.R_nil _ _ _ _ _)⟩
          · have f12 := H3.out.free 12
            have d12 := H3.out.cells.2.2.2.2.2.2.2.2.2.2.2.2.1
            go_wp2_with (first | ((with_reducible go_at_call 35); (have q_ := H3; clear q_); go_must (refine (all_give w.heap.size base r ok v s2 none 0 [] _ H3.out HRW.out HO.out HB3.out.2.1 (Kd.R_nil _ _ _ _ _) (by simp) n HN2.out HN5.out).mono ?_; rintro e w3 ⟨A3, c3, rfl, hr, hb⟩; have H4 := Lib.hid (EIs.low H3.out HRW.out HO.out hb); have f12 := H4.out.free 12; have d12 := H4.out.cells.2.2.2.2.2.2.2.2.2.2.2.2.1; have HB4 := Lib.hid (HB3.out.low hb HBW.out); have HR4 := Lib.hid hr; clear H3 HB3 hr hb)) | ((with_reducible go_at_call 34); (have q_ := H4; clear q_); go_must (refine (pause_ok base r ok v { s2 with opn := false } _ (H4.out.put 12 (.bool false) rfl rfl) ⟨HF2.out.t0, HF2.out.t1⟩ ⟨by have := HF2.out.l0; show 0 ≤ s2.lease; omega, HF2.out.l1⟩ ⟨HF2.out.me0, by have := HF2.out.me1; have := HF2.out.hn; show s2.me ≤ 5; omega⟩).mono ?_; rintro e w4 ⟨rfl, h, hb, hk⟩; have H5 := Lib.hid h; have HB5 := Lib.hid ((HB4.out.put H4.out 12 (.bool false)).trans ⟨hb, hk⟩); have HR5 := Lib.hid (out_keep HR4.out HRW.out (kept_trans (H4.out.keep 12 (.bool false)).2 hk)); clear H4 HB4 HR4 h hb hk)))
            go_meet
            case rel => exact ⟨_, _, by rw [← HOB.out, outB_yes HQ.out]; rfl, rfl, by rw [← HS3.out, tickB_yes HQ.out]; exact H5, HB5, Lib.hid (by rw [← HOB.out, outB_yes HQ.out]; exact HR5.out)⟩
        case rest =>
          clear H3 HB3
          obtain ⟨A, c, rfl, rfl, H5, HB5, HR5⟩ := hcut
          have hF3 : Fine m s3 := by rw [← HS3.out]; exact tickB_fine HF2.out
          have hn3 : s3.n = n := by rw [← HS3.out, tickB_n]; exact HN2.out
          have hk3 := known_rng hF3
          have HF3 := Lib.hid hF3
          have HN3 := Lib.hid hn3
          have HOL : Hid (ob.length ≤ 100) := Lib.hid (by rw [← HOB.out]; exact Nat.le_trans (outB_len _ _) (by have := HN5.out; omega))
          clear hF3 hn3
          obtain ⟨kn, hkn⟩ : ∃ x, knownS s3 = x := ⟨_, rfl⟩
          rw [hkn] at hk3
          have HK := Lib.hid hkn
          clear hkn
          go_upto_region 12 with (fail)
          go_cut [7] (fun u7 wc => u7 = .int .i64 kn ∧ Hid (EIs base ok wc r v s3) ∧ Hid (Stp base r w wc) ∧ Hid (Kd.R k38 38 wc w.heap.size (fun _ => True) (.slice A ob.length c) ob))
          case first =>
            have d5 := H5.out.cells.2.2.2.2.2.1
            have d17 := H5.out.cells.2.2.2.2.2.2.2.2.2.2.2.2.2.2.2.2.2
            go_quiet (fail)
            go_wp2
            all_goals
              go_meet
              case rel => exact ⟨by rw [← HK.out]; refine congrArg (Value.int .i64) ?_; unfold knownS mx; (repeat' split) <;> omega, Lib.hid (H5.out.kept (pw_below_drewN (Below.refl _ _) _)), Lib.hid (HB5.out.below H5.out (pw_below_drewN (Below.refl _ _) _)), Lib.hid (Kd.R_drewN HR5.out _)⟩
          case rest =>
          clear H5 HB5 HR5
          obtain ⟨rfl, H5, HB5, HR5⟩ := hcut
          have HLT := Lib.hid (And.intro (H5.out.cells.2.2.1) (H5.out.cells.2.2.2.2.2.2.2.2.2.2.2.2.2.2.1))
          have ew : IntKind.i64.wrap (Int.tdiv s3.lease 4) = Int.tdiv s3.lease 4 := by
            have a0 := HF3.out.l0
            have a1 := HF3.out.l1
            have a2 : 0 ≤ Int.tdiv s3.lease 4 := Int.tdiv_nonneg (by omega) (by omega)
            have a3 : Int.tdiv s3.lease 4 ≤ 1000 := by
              rw [Int.tdiv_eq_ediv_of_nonneg (by omega)]
              omega
            rw [i64_w]; unfold wrap64; omega
          have hg3 : s3.now - s3.a2 = g := by rw [← HS3.out, tickB_now, tickB_a2]; exact HG.out
          have HG3 := Lib.hid hg3
          clear hg3
          go_upto_region 13 with (fail)
          go_cut [73] (fun u73 wc => u73 = .bool (againB s3) ∧ Hid (EIs base ok wc r v s3) ∧ Hid (Stp base r w wc) ∧ Hid (Kd.R k38 38 wc w.heap.size (fun _ => True) (.slice A ob.length c) ob))
          case first =>
            obtain ⟨d2, d14⟩ := HLT.out
            by_cases q0 : s3.led = 0
            · have q1 : (s3.led != 0) = false := by simp [q0]
              go_wp2
              go_meet
              case rel => exact ⟨by simp [againB, q0], H5, HB5, HR5⟩
            · have q1 : (s3.led != 0) = true := bne_iff_ne.mpr q0
              go_wp2
              go_meet
              case rel => exact ⟨by simp [againB, q0, HG3.out], H5, HB5, HR5⟩
          case rest =>
          clear H5 HB5 HR5 ew HLT
          obtain ⟨rfl, H5, HB5, HR5⟩ := hcut
          have fin : tickS s t n = tickC s3 n ob := by unfold tickS; rw [HS.out, HS2.out, HS3.out, HOB.out]
          have FIN := Lib.hid fin
          obtain ⟨b, hb⟩ : ∃ x, againB s3 = x := ⟨_, rfl⟩
          rw [hb]
          have HQA := Lib.hid hb
          clear hb fin
          rcases b with _ | _
          rotate_left
          · have d14 := H5.out.cells.2.2.2.2.2.2.2.2.2.2.2.2.2.2.1
            obtain ⟨eb, he⟩ : ∃ x, ob ++ outA s3.me s3.led s3.now n = x := ⟨_, rfl⟩
            obtain ⟨s4, hs4⟩ : ∃ x, asksS s3 s3.led = x := ⟨_, rfl⟩
            have HT : Hid (tickC s3 n ob = (s4, eb)) := Lib.hid (by unfold tickC; rw [if_pos HQA.out, hs4, he])
            have HS4 := Lib.hid hs4
            have HE := Lib.hid he
            clear he hs4
            go_wp2_with (first | ((with_reducible go_at_call 37); (have q_ := H5; clear q_); go_must (refine (asks_ok base r ok v s3 s3.led _ H5.out).mono ?_; rintro e w6 ⟨aa, rfl, hx, h, hb, hk⟩; have H6 : Hid (EIs base ok w6 r (.slice none 0 0) s4) := Lib.hid (by rw [← HS4.out]; exact h); have HB6 := Lib.hid (HB5.out.trans ⟨hb, hk⟩); have HR6 := Lib.hid (out_keep HR5.out HRW.out hk); have HX6 := Lib.hid hx; clear H5 HB5 HR5 h hb hk hx)) | ((with_reducible go_at_call 35); (have q_ := H6; clear q_); go_must (refine (all_ask w.heap.size base r ok (.slice none 0 0) s4 aa s3.me s3.led s3.now A c ob _ H6.out HRW.out HO.out HB6.out.2.1 HX6.out HR6.out HOL.out n (by rw [← HS4.out]; exact HN3.out) HN5.out).mono ?_; rintro e w7 ⟨A7, c7, rfl, hr, hb⟩; have H7 := Lib.hid (EIs.low H6.out HRW.out HO.out hb); have HB7 := Lib.hid (HB6.out.low hb HBW.out); have HR7 : Hid (Kd.R k38 38 w7 w.heap.size (fun _ => True) (.slice A7 eb.length c7) eb) := Lib.hid (by rw [← HE.out]; exact hr); rw [HE.out]; clear H6 HB6 HR6 HX6 hr hb)))
            go_ret
            rw [FIN.out, HT.out]
            exact TickP.mk A7 c7 _ rfl H7.out HR7.out HB7.out
          · have d12 := H5.out.cells.2.2.2.2.2.2.2.2.2.2.2.2.1
            have d14 := H5.out.cells.2.2.2.2.2.2.2.2.2.2.2.2.2.2.1
            have d4 := H5.out.cells.2.2.2.2.1
            have d7 := H5.out.cells.2.2.2.2.2.2.2.1
            have d16 := H5.out.cells.2.2.2.2.2.2.2.2.2.2.2.2.2.2.2.2.1
            have d17 := H5.out.cells.2.2.2.2.2.2.2.2.2.2.2.2.2.2.2.2.2
            by_cases q0 : s3.led = 0
            rotate_left
            · have q1 : (s3.led != 0) = true := bne_iff_ne.mpr q0
              go_wp2
              go_ret
              have hT : tickC s3 n ob = (s3, ob) := by unfold tickC; rw [if_neg (by rw [HQA.out]; decide), if_pos (by simp [waitsB, q0])]
              rw [FIN.out, hT]
              exact TickP.mk A c _ rfl H5.out HR5.out HB5.out
            have q1 : (s3.led != 0) = false := by simp [q0]
            obtain ⟨o, ho⟩ : ∃ x, s3.opn = x := ⟨_, rfl⟩
            rw [ho] at d12
            have HOP := Lib.hid ho
            clear ho
            rcases o with _ | _
            rotate_left
            · go_wp2
              go_ret
              have hT : tickC s3 n ob = (s3, ob) := by unfold tickC; rw [if_neg (by rw [HQA.out]; decide), if_pos (by simp [waitsB, HOP.out])]
              rw [FIN.out, hT]
              exact TickP.mk A c _ rfl H5.out HR5.out HB5.out
            go_upto_region 17 with (fail)
            clear d12 d14
            by_cases q2 : s3.now < s3.next
            · go_quiet (fail)
              refine world_gen (P := fun w5 => EIs base ok w5 r v s3 ∧ Stp base r w w5 ∧ Kd.R k38 38 w5 w.heap.size (fun _ => True) (.slice A ob.length c) ob) (st3 H5.out HB5.out HR5.out _) (fun w5 h5 => ?_)
              clear H5 HB5 HR5
              have H5 := Lib.hid h5.1
              have HB5 := Lib.hid h5.2.1
              have HR5 := Lib.hid h5.2.2
              clear h5 d4 d7 d16 d17
              have d4 := H5.out.cells.2.2.2.2.1
              have d7 := H5.out.cells.2.2.2.2.2.2.2.1
              have d16 := H5.out.cells.2.2.2.2.2.2.2.2.2.2.2.2.2.2.2.2.1
              have d17 := H5.out.cells.2.2.2.2.2.2.2.2.2.2.2.2.2.2.2.2.2
              go_wp2
              go_ret
              have hT : tickC s3 n ob = (s3, ob) := by unfold tickC; rw [if_neg (by rw [HQA.out]; decide), if_pos (by simp [waitsB, q2])]
              rw [FIN.out, hT]
              exact TickP.mk A c _ rfl H5.out HR5.out HB5.out
            go_quiet (fail)
            refine world_gen (P := fun w5 => EIs base ok w5 r v s3 ∧ Stp base r w w5 ∧ Kd.R k38 38 w5 w.heap.size (fun _ => True) (.slice A ob.length c) ob) (st3 H5.out HB5.out HR5.out _) (fun w5 h5 => ?_)
            clear H5 HB5 HR5
            have H5 := Lib.hid h5.1
            have HB5 := Lib.hid h5.2.1
            have HR5 := Lib.hid h5.2.2
            clear h5 d4 d7 d16 d17
            have d4 := H5.out.cells.2.2.2.2.1
            have d7 := H5.out.cells.2.2.2.2.2.2.2.1
            have d16 := H5.out.cells.2.2.2.2.2.2.2.2.2.2.2.2.2.2.2.2.1
            have d17 := H5.out.cells.2.2.2.2.2.2.2.2.2.2.2.2.2.2.2.2.2
            go_upto_region 18 with (fail)
            by_cases q3 : s3.now < s3.vu
            · go_quiet (fail)
              refine world_gen (P := fun w5 => EIs base ok w5 r v s3 ∧ Stp base r w w5 ∧ Kd.R k38 38 w5 w.heap.size (fun _ => True) (.slice A ob.length c) ob) (st3 H5.out HB5.out HR5.out _) (fun w5 h5 => ?_)
              clear H5 HB5 HR5
              have H5 := Lib.hid h5.1
              have HB5 := Lib.hid h5.2.1
              have HR5 := Lib.hid h5.2.2
              clear h5 d4 d7 d16 d17
              have d4 := H5.out.cells.2.2.2.2.1
              have d7 := H5.out.cells.2.2.2.2.2.2.2.1
              have d16 := H5.out.cells.2.2.2.2.2.2.2.2.2.2.2.2.2.2.2.2.1
              have d17 := H5.out.cells.2.2.2.2.2.2.2.2.2.2.2.2.2.2.2.2.2
              go_wp2
              go_ret
              have hT : tickC s3 n ob = (s3, ob) := by unfold tickC; rw [if_neg (by rw [HQA.out]; decide), if_pos (by simp [waitsB, q3])]
              rw [FIN.out, hT]
              exact TickP.mk A c _ rfl H5.out HR5.out HB5.out
            go_quiet (fail)
            refine world_gen (P := fun w5 => EIs base ok w5 r v s3 ∧ Stp base r w w5 ∧ Kd.R k38 38 w5 w.heap.size (fun _ => True) (.slice A ob.length c) ob) (st3 H5.out HB5.out HR5.out _) (fun w5 h5 => ?_)
            clear H5 HB5 HR5
            have H5 := Lib.hid h5.1
            have HB5 := Lib.hid h5.2.1
            have HR5 := Lib.hid h5.2.2
            clear h5 d4 d7 d16 d17
            have d4 := H5.out.cells.2.2.2.2.1
            have d7 := H5.out.cells.2.2.2.2.2.2.2.1
            have d16 := H5.out.cells.2.2.2.2.2.2.2.2.2.2.2.2.2.2.2.2.1
            have d17 := H5.out.cells.2.2.2.2.2.2.2.2.2.2.2.2.2.2.2.2.2
            by_cases q4 : 1099511627776 ≤ kn
            · go_wp2
              go_ret
              have hT : tickC s3 n ob = (s3, ob) := by unfold tickC; rw [if_neg (by rw [HQA.out]; decide), if_pos (by simp [waitsB, HK.out, q4])]
              rw [FIN.out, hT]
              exact TickP.mk A c _ rfl H5.out HR5.out HB5.out
            have hkk : IntKind.i64.wrap (kn + 1) = kn + 1 := by rw [i64_w]; unfold wrap64; omega
            have f17 := H5.out.free 17
            obtain ⟨eb, he⟩ : ∃ x, ob ++ outA s3.me (kn + 1) s3.now n = x := ⟨_, rfl⟩
            obtain ⟨s4, hs4⟩ : ∃ x, asksS { s3 with heard := kn + 1 } (kn + 1) = x := ⟨_, rfl⟩
            have HT : Hid (tickC s3 n ob = (s4, eb)) := Lib.hid (by unfold tickC; rw [if_neg (by rw [HQA.out]; decide), if_neg (by simp [waitsB, q0, HOP.out, q2, q3, HK.out, q4]), HK.out, hs4, he])
            have HS4 := Lib.hid hs4
            have HE := Lib.hid he
            clear he hs4
            go_wp2_with (first | ((with_reducible go_at_call 37); (have q_ := H5; clear q_); go_must (refine (asks_ok base r ok v { s3 with heard := kn + 1 } (kn + 1) _ (H5.out.put (s' := { s3 with heard := kn + 1 }) 17 (.int .i64 (kn + 1)) rfl rfl)).mono ?_; rintro e w6 ⟨aa, rfl, hx, h, hb, hk⟩; have H6 : Hid (EIs base ok w6 r (.slice none 0 0) s4) := Lib.hid (by rw [← HS4.out]; exact h); have HB6 := Lib.hid ((HB5.out.put H5.out 17 (.int .i64 (kn + 1))).trans ⟨hb, hk⟩); have HR6 := Lib.hid (out_keep HR5.out HRW.out (kept_trans (H5.out.keep 17 (.int .i64 (kn + 1))).2 hk)); have HX6 := Lib.hid hx; clear H5 HB5 HR5 h hb hk hx)) | ((with_reducible go_at_call 35); (have q_ := H6; clear q_); go_must (refine (all_ask w.heap.size base r ok (.slice none 0 0) s4 aa s3.me (kn + 1) s3.now A c ob _ H6.out HRW.out HO.out HB6.out.2.1 HX6.out HR6.out HOL.out n (by rw [← HS4.out]; exact HN3.out) HN5.out).mono ?_; rintro e w7 ⟨A7, c7, rfl, hr, hb⟩; have H7 := Lib.hid (EIs.low H6.out HRW.out HO.out hb); have HB7 := Lib.hid (HB6.out.low hb HBW.out); have HR7 : Hid (Kd.R k38 38 w7 w.heap.size (fun _ => True) (.slice A7 eb.length c7) eb) := Lib.hid (by rw [← HE.out]; exact hr); rw [HE.out]; clear H6 HB6 HR6 HX6 hr hb)))
            go_ret
            rw [FIN.out, HT.out]
            exact TickP.mk A7 c7 _ rfl H7.out HR7.out HB7.out
end Go.Proofs.Ytpgmfjpjjnpiiaa.LeaseJ
