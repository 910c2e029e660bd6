/- PROVED: more contracts of layer 4's reader. No condition beyond what each line says. -/
import Derived.Test.YtnkaalapjlmmiaaWireR2
import Derived.Test.YtnkaalapjlmmiaaWKept
import Derived.Test.YtnkaalapjlmmiaaWApart
import Derived.Test.YtnkaalapjlmmiaaLRead
import Derived.Test.YtnkaalapjlmmiaaWApart
import Derived.WalkKit
import Derived.WalkSpells
import Derived.WalkLawsBesides
import Derived.WalkMore
import Derived.Outline
import Derived.Lib.Hide
import Derived.BigQuiet
import Derived.Deep.QuietTactic
import Derived.Deep.RegionHeld3
import Derived.Deep.RegionLaw
import Derived.Deep.LoopGhost
import Derived.Deep.DeepCutAuto
namespace Go.Proofs.Ytnkaalapjlmmiaa.WireR3
open Go.RowKit Go.Proofs.Ytnkaalapjlmmiaa.PWireWrites Go.Proofs.Ytnkaalapjlmmiaa.WirePure Go.Proofs.YtnkaalapjlmmiaaW.PrintWords Go.Proofs.YtnkaalapjlmmiaaW.PrintLast Go.Proofs.YtnkaalapjlmmiaaW.PrintMore
open Go.Proofs.Ytnkaalapjlmmiaa.WireW (slice_at cell_below num_ok text_ok list_ok)
open Go.Proofs.Ytnkaalapjlmmiaa.WireR Go.Proofs.Ytnkaalapjlmmiaa.WireR2
set_option linter.unusedSimpArgs false
set_option linter.unusedVariables false
abbrev kT : Kd (List Int) := Kd.slice 5 (Kd.int .u8)
theorem info27 : (Try.prog.info? 27).map (fun i => (i.zero, i.size, i.bytes)) = some (some (.slice none 0 0), 1, 24) := by kernel_rfl
theorem cntD_lt (d : List Int) (most : Int) (hb : Byt d) : (cntD d most).1 < 18446744073709551616 := by
  obtain ⟨a, b, c, e⟩ := numD_bd d 18446744073709551615 hb
  have h : (numD d 18446744073709551615).1 < 18446744073709551616 := by
    by_cases q : (numD d 18446744073709551615).2.2 = 0
    · exact (e q).2
    · rw [(c q).1]
      omega
  unfold cntD
  split
  · exact h
  · split
    · exact h
    · exact h
/-- Texts are answered. -/
def ListIs (base : Nat) (ok : Nat → Prop) (r : Nat) (A : Option Addr) (cap : Nat) (l : List Int) (at_ : Nat) (x : List (List Int) × Nat × Int) (w : World) (y : Ending) (w' : World) : Prop :=
  ∃ v, y = .returned v ∧ Kd.S kT 27 w' w.heap.size (fun _ => True) v x.1 ∧ RdIs base ok w' r A cap l (at_ + x.2.1) x.2.2 ∧ w.grownBy w' (some r)
/-- What a round leaves to be read, or the error that was met. -/
def Stage (X : List (List Int) × Nat × Int) (l : List Int) (at_ at' c f : Nat) (each n e : Int) (acc : List (List Int)) : Prop :=
  (e = 0 ∧ at' = at_ + c ∧ at' ≤ l.length ∧ X = textsD f n each (l.drop at') acc c ∧ (l.drop at').length < f ∧ acc.length ≤ at') ∨ (e ≠ 0 ∧ X = ([], 0, e))
theorem stage_next {X : List (List Int) × Nat × Int} {l : List Int} {at_ at' c f : Nat} {each n : Int} {acc : List (List Int)} (hb : Byt l) (h : Stage X l at_ at' c f each n 0 acc) (hn : 0 < n) :
    ∃ f', Stage X l at_ (at' + (textD (l.drop at') each).2.1) (c + (textD (l.drop at') each).2.1) f' each (n - 1) (textD (l.drop at') each).2.2 (acc ++ [(textD (l.drop at') each).1]) := by
  rcases h with ⟨_, h1, h5, h2, h3, h4⟩ | ⟨h1, _⟩
  · obtain ⟨f, rfl⟩ : ∃ g, f = g + 1 := ⟨f - 1, by omega⟩
    obtain ⟨b1, b2, b3, b4⟩ := textD_bd (l.drop at') each (byt_drop hb at')
    rw [textsD, if_neg (by omega)] at h2
    rw [List.length_drop] at b1 h3
    refine ⟨f, ?_⟩
    by_cases q : (textD (l.drop at') each).2.2 = 0
    · rw [if_neg (by simpa using q), List.drop_drop] at h2
      have := (b2 q).1
      exact .inl ⟨q, by omega, by omega, h2, by rw [List.length_drop]; omega, by simp; omega⟩
    · rw [if_pos q] at h2
      exact .inr ⟨q, h2⟩
  · exact absurd rfl h1
theorem stage_end {X : List (List Int) × Nat × Int} {l : List Int} {at_ at' c f : Nat} {each : Int} {acc : List (List Int)} (h : Stage X l at_ at' c f each 0 0 acc) : X = (acc, c, 0) ∧ at' = at_ + c := by
  rcases h with ⟨_, h1, h5, h2, h3, h4⟩ | ⟨h1, _⟩
  · obtain ⟨f, rfl⟩ : ∃ g, f = g + 1 := ⟨f - 1, by omega⟩
    rw [textsD, if_pos (by omega)] at h2
    exact ⟨h2, h1⟩
  · exact absurd rfl h1
theorem stage_bd {X : List (List Int) × Nat × Int} {l : List Int} {at_ at' c f : Nat} {each n : Int} {acc : List (List Int)} (h : Stage X l at_ at' c f each n 0 acc) : acc.length ≤ l.length := by
  rcases h with ⟨_, h1, h5, h2, h3, h4⟩ | ⟨h1, _⟩
  · omega
  · exact absurd rfl h1
theorem rd_old {base : Nat} {ok : Nat → Prop} {w : World} {r : Nat} {A : Option Addr} {cap : Nat} {l : List Int} {at_ : Nat} {e : Int} (h : RdIs base ok w r A cap l at_ e) : RdIs base (fun k => ok k ∧ k < w.heap.size) w r A cap l at_ e :=
  ⟨h.1, h.2.1, h.2.2.1, Kd.R_mono (Kd.R_bound h.2.2.2) (fun k hk => ⟨hk.1, hk.2.2.1⟩)⟩
/-- The texts so far, behind a call that answered one more, ahead of the append. -/
theorem S_ahead {w Wp W0 : World} {r : Nat} {v : Value} {acc : List (List Int)} (hS : Kd.S kT 27 Wp w.heap.size (fun k => w.heap.size ≤ k) v acc) (hg : Wp.grownBy W0 (some r)) (hr : r < w.heap.size) :
    Kd.S kT 27 W0 w.heap.size (fun k => w.heap.size ≤ k ∧ ¬ Wp.heap.size ≤ k) v acc :=
  Kd.S_mono (Kd.S_grown (Kd.S_bound hS) hg (fun k hk e => by have := hk.2.1; simp at e; omega)) (fun k hk => ⟨hk.1, by have := hk.2.2.1; omega⟩)
set_option maxHeartbeats 4000000 in
set_option maxRecDepth 100000 in
theorem list_read (base : Nat) (ok : Nat → Prop) (r : Nat) (A : Option Addr) (cap : Nat) (l : List Int) (at_ : Nat) (most each : Int) (w : World) (h : RdIs base ok w r A cap l at_ 0) (hl : l.length ≤ 1000000000) (hb : Byt l) (hm : most ≤ 9223372036854775807) (he : each ≤ 9223372036854775807) :
    Calls Try.prog 24 #[.pointer (some ⟨r, 0, none⟩), .int .i64 most, .int .i64 each] w (ListIs base ok r A cap l at_ (listD (l.drop at_) most each) w) := by
  have h1 := h.c1
  have h2 := h.c2
  have hat := h.2.2.1
  have hlt := h.lt
  have HR := Lib.hid (rd_old h)
  have HG := Lib.hid (World.grownBy.refl w (some r))
  have HBY := Lib.hid hb
  clear h hb
  have nO := cntD_bd (l.drop at_) most (byt_drop HBY.out at_)
  have nL := cntD_lt (l.drop at_) most (byt_drop HBY.out at_)
  have hcd : listD (l.drop at_) most each = listD (l.drop at_) most each := rfl
  conv at hcd => rhs; unfold listD
  rw [hcd]
  clear hcd
  obtain ⟨⟨v, c, e⟩, hx⟩ : ∃ x, cntD (l.drop at_) most = x := ⟨_, rfl⟩
  rw [hx] at nO nL ⊢
  simp only at nO nL ⊢
  have HX := Lib.hid hx
  clear hx
  obtain ⟨n0, n1, n2, n3⟩ := nO
  rw [List.length_drop] at n1
  obtain ⟨X, hX⟩ : ∃ X, (if e ≠ 0 then ([], 0, e) else textsD ((l.drop at_).length + 1) v each ((l.drop at_).drop c) [] c) = X := ⟨_, rfl⟩
  rw [hX]
  have hst : Hid (Stage X l at_ (at_ + c) c ((l.drop at_).length + 1) each v e []) := Lib.hid (by
    rw [← hX]
    by_cases q : e = 0
    · rw [if_neg (by simpa using q)]
      exact .inl ⟨q, rfl, by omega, by rw [List.drop_drop], by rw [List.length_drop, List.length_drop]; omega, Nat.zero_le _⟩
    · rw [if_pos q]
      exact .inr ⟨q, rfl⟩)
  obtain ⟨f0, hf0⟩ : ∃ f, f = (l.drop at_).length + 1 := ⟨_, rfl⟩
  rw [← hf0] at hst
  clear n1 n2 n3 hX hf0
  go_enter Try.func24, Try.ntmps24
  go_upto_region 6 with (first | ((with_reducible go_at_call 39); go_must (refine (off_is false r 0 _ h2 rfl).mono ?_; rintro e w' ⟨rfl, rfl⟩)) | ((with_reducible go_at_call 43); go_must (refine (cnt_read base _ r A cap l at_ most _ HR.out hl HBY.out hm).mono ?_; rw [HX.out]; rintro y w' ⟨rfl, hr, hg⟩; have hg_ := HG.out.trans hg; clear HR HG; have HR := Lib.hid hr; have HG := Lib.hid hg_; have h3 := True.intro; clear hr hg hg_)))
  clear h1 h2 h3
  go_loopw [8, 9] (fun u8 u9 wr => ∃ (n e : Int) (at' c f : Nat) (v : Value) (acc : List (List Int)), u9 = .int .u64 n ∧ (0 ≤ n ∧ n < 18446744073709551616) ∧ u8 = v ∧ Hid (RdIs base (fun k => ok k ∧ k < w.heap.size) wr r A cap l at' e) ∧ Hid (w.grownBy wr (some r)) ∧ Hid (Kd.S kT 27 wr w.heap.size (fun k => w.heap.size ≤ k) v acc) ∧ Hid (Stage X l at_ at' c f each n e acc)) (fun _ u9 _ => (intOf u9).toNat)
  case atStart => exact ⟨v, e, _, _, _, _, [], rfl, ⟨n0, nL⟩, rfl, HR, HG, Lib.hid (Kd.S_nil _ _ _ _ _), hst⟩
  clear HR HG hst HX n0 nL
  obtain ⟨n, e', at', c', f, u, acc, rfl, ⟨n0, nL⟩, rfl, HR, HG, HS, HT⟩ := hrel
  have h2 := HR.out.c2
  by_cases q1 : e' = 0
  · subst q1
    by_cases q2 : 0 < n
    · have hacc := stage_bd HT.out
      obtain ⟨f', hnx⟩ := stage_next HBY.out HT.out q2
      have HNX := Lib.hid hnx
      clear hnx
      go_wp2_with (first | ((with_reducible go_at_call 39); go_must (refine (off_is false r 0 _ h2 rfl).mono ?_; rintro e w' ⟨rfl, rfl⟩)) | ((with_reducible go_at_call 25); go_must (refine (text_read base _ r A cap l at' each _ HR.out hl HBY.out he).mono ?_; rintro y w' ⟨vT, rfl, ht, hr, hg⟩; obtain ⟨AT, cT, rfl⟩ := Kd.R_slice ht; have hs_ := S_ahead HS.out hg hlt; have hlw := HG.out.size; have hsl_ := Kd.S_lt HS.out; have hg_ := HG.out.trans hg; have HSL := Lib.hid hsl_; clear HR HG HS h2 hsl_; have HR := Lib.hid hr; have HG := Lib.hid hg_; have HS := Lib.hid hs_; have HTX := Lib.hid ht; clear hr hg hg_ hs_ ht)) | ((with_reducible refine gate_builtin (b := .append) (xs := #[.tmp 29, .tmp 33]) rfl ?_); at_builtin; go_must (refine Kd.S_append kT (w0 := _) w.heap.size rfl (.tmp 29) (.tmp 33) 23 27 (.slice none 0 0) 24 rfl Try.underlying23 info27 rfl (by decide) (by omega) _ acc (textD (l.drop at') each).1 [.slice AT (textD (l.drop at') each).1.length cT] (fun k => w.heap.size ≤ k) (fun k => wr.heap.size ≤ k) rfl rfl (Kd.M_row (Kd.R_lower (Kd.R_mono (Kd.R_bound HTX.out) (fun k hk => hk.2.1)) hlw)) (fun k hk => ⟨Nat.le_trans hlw hk, fun e => Nat.lt_irrefl _ (Nat.lt_of_lt_of_le (HSL.out k e.symm) hk)⟩) (fun k hk => Nat.le_trans HG.out.size hk) HS.out (Below.refl _ _) HG.out.size ?aL ?_; (case aL => omega); intro vA wA ho hb hg hat2; have hr_ := HR.out.other hg (fun e => by have := Kd.S_base HS.out r e.symm; omega) (fun k hk e => by have := Kd.S_base HS.out k e.symm; omega); have hg_ := World.grownBy.andThen HG.out hg (fun j hj => .inl (Kd.S_base HS.out j hj)); clear HR HG HS; have HR := Lib.hid hr_; have HG := Lib.hid hg_; have HS := Lib.hid ho; clear hr_ hg_ ho hb hg hat2)))
      exact ⟨⟨n - 1, _, _, _, f', _, _, rfl, ⟨by omega, by omega⟩, rfl, HR, HG, HS, HNX⟩, by simp [intOf]; omega⟩
    · obtain rfl : n = 0 := by omega
      obtain ⟨hX1, hX2⟩ := stage_end HT.out
      have HX1 := Lib.hid hX1
      subst hX2
      clear hX1 q2
      go_wp2_with (first | ((with_reducible go_at_call 39); go_must (refine (off_is false r 0 _ h2 rfl).mono ?_; rintro e w' ⟨rfl, rfl⟩)))
      go_ret
      exact ⟨_, rfl, by rw [HX1.out]; exact Kd.S_mono HS.out (fun _ _ => trivial), by rw [HX1.out]; exact HR.out.mono (fun _ hk => hk.1), HG.out⟩
  · have hXe : Hid (X = ([], 0, e')) := Lib.hid (by rcases HT.out with ⟨h, _⟩ | ⟨_, h⟩; exact absurd h q1; exact h)
    have he' : (e' != 0) = true := by simpa using q1
    have h1 := HR.out.c1
    have f1 := HR.out.f1
    have hlr := HR.out.lt
    by_cases q2 : 0 < n
    · have q2' : decide (0 < n) = true := by simpa using q2
      go_wp2_with (first | ((with_reducible go_at_call 39); go_must (refine (off_is true r e' _ h2 he').mono ?_; rintro e w' ⟨rfl, rfl⟩)))
      go_ret
      exact ⟨_, rfl, by rw [hXe.out]; exact Kd.S_nil _ _ _ _ _, by rw [hXe.out]; exact (HR.out.set1 at_ hat).mono (fun _ hk => hk.1), HG.out.trans (grown_set _ _ _ _)⟩
    · obtain rfl : n = 0 := by omega
      go_wp2_with (first | ((with_reducible go_at_call 39); go_must (refine (off_is true r e' _ h2 he').mono ?_; rintro e w' ⟨rfl, rfl⟩)))
      go_ret
      exact ⟨_, rfl, by rw [hXe.out]; exact Kd.S_nil _ _ _ _ _, by rw [hXe.out]; exact (HR.out.set1 at_ hat).mono (fun _ hk => hk.1), HG.out.trans (grown_set _ _ _ _)⟩
theorem b210 : Byt [2, 1, 0] := by
  intro x hx
  simp at hx
  rcases hx with rfl | rfl | rfl <;> omega
theorem Reps.one3 {base : Nat} {W : World} {ok : Nat → Prop} (a b c : Int) : Reps (Kd.M (Kd.int .u8) W base ok) (Kd.int .u8).sz [a, b, c] [.int .u8 a, .int .u8 b, .int .u8 c] := by
  exact Kd.reps_scalar (enc := Value.int .u8) [a, b, c]
theorem below_q {b : Nat} {w w1 w2 : World} (h : Below b w w1) (hq : ∃ n, w2 = w1.drewN n) : Below b w w2 := by
  obtain ⟨m, rfl⟩ := hq
  exact pw_below_drewN h m
set_option maxHeartbeats 4000000 in
set_option maxRecDepth 100000 in
theorem read_ok (A : Option Addr) (cap : Nat) (b : List Int) (w : World) (hC : Kd.C (Kd.int .u8) w A b.length b) (hcap : b.length ≤ cap) (hl : b.length ≤ 1000000000) :
    Calls Try.prog 21 #[.slice A b.length cap] w fun e w' => ∃ r A' cap', e = .returned (.pointer (some ⟨r, 0, none⟩)) ∧ RdIs w.heap.size (fun _ => True) w' r A' cap' b 0 0 ∧ Below w.heap.size w w' := by
  have HC := Lib.hid hC
  clear hC
  go_enter Try.func21, Try.ntmps21
  go_wp2_with (first | ((with_reducible refine gate_dst (N := 3) rfl ?_); refine Kd.R_lit (Kd.int .u8) _ 5 ?hg (N := 3) ?hd (xs := ([] : List (Int))) (inner := []) (ok := fun _ => True) (okp := fun _ => True) ?hr ?hp (fun _ hk => hk) trivial (Below.refl _ _) (Nat.le_refl _) (by simp) ?_; (case hd => rfl); (case hg => rfl); (case hr => first | (go_simp; done) | (go_simp; rfl)); (case hp => exact (Reps.none _ _)); intro vL wL hl hb hg_ hn_; clear hg_ hn_; have HL := Lib.hid hl; have HBL := Lib.hid hb; clear hl hb) | ((with_reducible refine gate_builtin (b := .append) (xs := #[.tmp 3, .tmp 4]) rfl ?_); at_builtin; go_must (refine Kd.R_append_rows (Kd.int .u8) (w0 := w) (w.heap.size) rfl (.tmp 3) (.tmp 4) 27 5 (.int .u8 0) 1 rfl Try.underlying27 info5 rfl (by decide) (by omega) (vL) ([]) (b) _ _ _ (fun _ => True) (fun _ => False) rfl rfl (HL.out) (Kd.C_below HC.out HBL.out) (fun x cs h => h) (fun _ h => h.elim) (fun _ _ => trivial) HBL.out HBL.out.size ?aL ?_; (case aL => (simp; omega)); intro vA wA ho hb hg hat; rw [List.nil_append] at ho; obtain ⟨At, ct, rfl⟩ := Kd.R_slice ho; have HT := Lib.hid ho; have HBT := Lib.hid hb; clear ho hb hg hat)) | ((with_reducible refine gate_dst (N := 7) rfl ?_); refine box_event ?hg (N := 7) ?hd (cs := #[.slice At b.length ct, .int .i64 0, .int .i64 0]) (t := 60) ?hr ?_; (case hd => rfl); (case hg => rfl); (case hr => first | (go_simp; done) | (go_simp; rfl)); intro gb hg w1 hbox hb; have HX := Lib.hid hbox; have hrg := Lib.hid (Nat.le_trans HBT.out.size (Nat.le_of_eq hg.symm)); have ht_ := Kd.R_below HT.out hb; have hb_ := below_step HBT.out hb; clear HT HBT; have HT := Lib.hid ht_; have HBT := Lib.hid hb_; clear hbox hb hg ht_ hb_))
  go_ret
  exact ⟨_, _, _, rfl, ⟨HX.out, hrg.out, Nat.zero_le _, by have := HT.out; simpa using this⟩, HBT.out⟩
theorem n256 : numB 256 = [2, 1, 0] := by decide +kernel
theorem d256 : numD [2, 1, 0] 999 = (256, 3, 0) := by decide +kernel
theorem e256 : endD [] 0 = 0 := by decide +kernel
set_option maxHeartbeats 4000000 in
set_option maxRecDepth 100000 in
theorem awake_ok (w : World) : Calls Try.prog 11 #[] w fun e w' => e = .returned (.bool true) ∧ Below w.heap.size w w' := by
  have tok1 := True.intro
  go_enter Try.func11, Try.ntmps11
  go_wp2_with (first | ((with_reducible go_at_call 16); have _t1 := tok1; clear _t1; go_must (clear tok1; refine (num_ok 256 _ (by omega) (by omega)).mono ?_; rw [n256]; rintro e w' ⟨v, rfl, hr, hb⟩; obtain ⟨A0, c0, rfl⟩ := Kd.R_slice hr; have H0 := Lib.hid (Kd.R_reads' hr); have HB := Lib.hid hb; clear hr hb)) | ((with_reducible go_at_call 21); go_must (refine (read_ok A0 c0 [2, 1, 0] _ H0.out.2.2 H0.out.2.1 (by decide)).mono ?_; rintro e w' ⟨r, A1, c1, rfl, hr, hb⟩; have hw := HB.out.size; have hb_ := below_step HB.out hb; clear HB; have HR := Lib.hid (show RdIs w.heap.size (fun _ => True) _ r A1 c1 [2, 1, 0] 0 0 from ⟨hr.1, Nat.le_trans hw hr.2.1, hr.2.2.1, Kd.R_lower hr.2.2.2 hw⟩); have HB := Lib.hid hb_; clear hr hb hb_)) | ((with_reducible go_at_call 22); go_must (refine (num_read _ _ r A1 c1 [2, 1, 0] 0 999 _ HR.out (by decide) b210 (by omega) (by omega)).mono ?_; rw [List.drop_zero, d256]; rintro y w' ⟨rfl, hr, hg⟩; have hb_ := Below.grown HB.out hg HB.out.size (fun k hk => by cases hk; exact hr.2.1); clear HR HB; have HR := Lib.hid hr; have HB := Lib.hid hb_; clear hr hg hb_)) | ((with_reducible go_at_call 28); go_must (refine (end_read _ _ r A1 c1 [2, 1, 0] 3 0 _ HR.out (by decide)).mono ?_; rw [show ([2, 1, 0] : List Int).drop 3 = [] from rfl, e256]; rintro y w' ⟨rfl, hr, hg⟩; have hb_ := Below.grown HB.out hg HB.out.size (fun k hk => by cases hk; exact hr.2.1); clear HR HB; have HB := Lib.hid hb_; clear hr hg hb_)) | ((with_reducible go_at_call 16); go_must (refine (num_ok 256 _ (by omega) (by omega)).mono ?_; rw [n256]; rintro e w' ⟨v, rfl, hr, hb⟩; obtain ⟨A2, c2, rfl⟩ := Kd.R_slice hr; have H2 := Lib.hid (Kd.R_reads' hr); have hb_ := below_step HB.out hb; clear HB; have HB := Lib.hid hb_; clear hr hb hb_)) | ((with_reducible refine gate_dst (N := 14) rfl ?_); (try (refine gate_guard (by rfl) ?_; dsimp only)); refine Kd.R_lit (Kd.int .u8) _ 5 ?hg (N := 14) ?hd (xs := ([2, 1, 0] : List (Int))) (inner := [.int .u8 2, .int .u8 1, .int .u8 0]) (ok := fun _ => True) (okp := fun _ => True) ?hr ?hp (fun _ hk => hk) trivial (Below.refl _ _) (Nat.le_refl _) (by simp) ?_; (case hd => rfl); (case hg => rfl); (case hr => first | (go_simp; done) | (go_simp; rfl)); (case hp => exact (Reps.one3 2 1 0)); intro vL wL hl hb hg_ hn_; clear hg_ hn_; have h2_ := Kd.C_below H2.out.2.2 hb; have h2c := H2.out.2.1; have hb_ := below_step HB.out hb; clear H2 HB; have HB := Lib.hid hb_; have H2 := Lib.hid h2_; obtain ⟨A3, c3, rfl⟩ := Kd.R_slice hl; have H3 := Lib.hid (Kd.R_reads' hl); clear hl hb hb_ h2_) | ((with_reducible go_at_call 12); go_must (refine (juratref01_Same.calls 10 A2 c2 [2, 1, 0] A3 c3 [2, 1, 0] true _ H2.out h2c H3.out.2.2 H3.out.2.1 (by decide +kernel)).mono ?_; rintro e w' ⟨rfl, hq⟩; have hb_ := below_q HB.out hq.out; clear HB; have HB := Lib.hid hb_; clear hb_)))
  go_ret
  exact ⟨rfl, HB.out⟩
end Go.Proofs.Ytnkaalapjlmmiaa.WireR3
