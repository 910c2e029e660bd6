/- PROVED: what the statements of layer 4 ask a reader. No condition beyond what each line says. -/
import Derived.Test.YtnkaalapjlmmiaaWireD
import Derived.Test.YtnkaalapjlmmiaaWirePure2
import Derived.Test.YtnkaalapjlmmiaaWKept
import Derived.Test.YtnkaalapjlmmiaaWApart
import Derived.Test.YtnkaalapjlmmiaaLRead
import Derived.Test.YtnkaalapjlmmiaaWApart
import Derived.WalkKit
import Derived.WalkSpells
import Derived.WalkLawsBesides
import Derived.WalkMore
import Derived.Outline
import Derived.Lib.Hide
import Derived.BigQuiet
import Derived.Deep.QuietTactic
import Derived.Deep.RegionHeld3
import Derived.Deep.RegionLaw
import Derived.Deep.LoopGhost
import Derived.Deep.DeepCutAuto
namespace Go.Proofs.Ytnkaalapjlmmiaa.WireT2
open Go.RowKit Go.Proofs.Ytnkaalapjlmmiaa.PWireWrites Go.Proofs.Ytnkaalapjlmmiaa.WirePure Go.Proofs.YtnkaalapjlmmiaaW.PrintWords Go.Proofs.YtnkaalapjlmmiaaW.PrintLast Go.Proofs.YtnkaalapjlmmiaaW.PrintMore
open Go.Proofs.Ytnkaalapjlmmiaa.WireW (slice_at cell_below num_ok text_ok list_ok)
open Go.Proofs.Ytnkaalapjlmmiaa.WireR Go.Proofs.Ytnkaalapjlmmiaa.WireR2 Go.Proofs.Ytnkaalapjlmmiaa.WireR3
open Go.Proofs.Ytnkaalapjlmmiaa.WireT Go.Proofs.Ytnkaalapjlmmiaa.WireD Go.Proofs.Ytnkaalapjlmmiaa.WirePure2
set_option linter.unusedSimpArgs false
set_option linter.unusedVariables false
/-- A reader of a law's own. -/
abbrev Rd (B : Nat) (w : World) (r : Nat) (A : Option Addr) (cap : Nat) (l : List Int) (at_ : Nat) (e : Int) : Prop := RdIs B (fun _ => True) w r A cap l at_ e
theorem below_r {B r : Nat} {w w' : World} (hg : w.grownBy w' (some r)) (hr : B ≤ r) : Below B w w' ∨ True := .inr trivial
theorem below_g {B r : Nat} {w0 w w' : World} (hb : Below B w0 w) (hg : w.grownBy w' (some r)) (hB : B ≤ w.heap.size) (hr : B ≤ r) : Below B w0 w' := Below.grown hb hg hB (fun k hk => by cases hk; exact hr)
theorem read_b (w0 : World) (A : Option Addr) (cap : Nat) (b : List Int) (w : World) (hB : Below w0.heap.size w0 w) (hC : Kd.C (Kd.int .u8) w A b.length b) (hcap : b.length ≤ cap) (hl : b.length ≤ 1000000) :
    Calls Try.prog 21 #[.slice A b.length cap] w fun e w' => ∃ r A' cap', e = .returned (.pointer (some ⟨r, 0, none⟩)) ∧ Rd w0.heap.size w' r A' cap' b 0 0 ∧ Below w.heap.size w w' := by
  refine (read_ok A cap b w hC hcap (by omega)).mono ?_
  rintro e w' ⟨r, A', cap', rfl, hr, hb⟩
  have hw := hB.size
  exact ⟨r, A', cap', rfl, ⟨hr.1, Nat.le_trans hw hr.2.1, hr.2.2.1, Kd.R_lower hr.2.2.2 hw⟩, hb⟩
theorem num_b (B r : Nat) (A : Option Addr) (cap : Nat) (l : List Int) (at_ : Nat) (most v : Int) (k : Nat) (e : Int) (w : World) (h : Rd B w r A cap l at_ 0) (hl : l.length ≤ 1000000) (hb : Byt l) (m0 : 0 ≤ most) (m1 : most < 18446744073709551616) (hx : numD (l.drop at_) most = (v, k, e)) :
    Calls Try.prog 22 #[.pointer (some ⟨r, 0, none⟩), .int .u64 most] w fun y w' => y = .returned (.int .u64 v) ∧ Rd B w' r A cap l (at_ + k) e ∧ w.grownBy w' (some r) := by
  have := num_read B _ r A cap l at_ most w h (by omega) hb m0 m1
  rw [hx] at this
  exact this
theorem text_b (B r : Nat) (A : Option Addr) (cap : Nat) (l : List Int) (at_ : Nat) (most : Int) (t : List Int) (k : Nat) (e : Int) (w : World) (h : Rd B w r A cap l at_ 0) (hl : l.length ≤ 1000000) (hb : Byt l) (m1 : most ≤ 9223372036854775807) (hx : textD (l.drop at_) most = (t, k, e)) :
    Calls Try.prog 25 #[.pointer (some ⟨r, 0, none⟩), .int .i64 most] w fun y w' => ∃ A' c', y = .returned (.slice A' t.length c') ∧ t.length ≤ c' ∧ Kd.C (Kd.int .u8) w' A' t.length t ∧ Rd B w' r A cap l (at_ + k) e ∧ w.grownBy w' (some r) := by
  have := text_read B _ r A cap l at_ most w h (by omega) hb m1
  rw [hx] at this
  refine this.mono ?_
  rintro y w' ⟨v, rfl, hr, h1, h2⟩
  obtain ⟨A', c', rfl⟩ := Kd.R_slice hr
  exact ⟨A', c', rfl, (Kd.R_reads' hr).2.1, (Kd.R_reads' hr).2.2, h1, h2⟩
theorem list_b (B r : Nat) (A : Option Addr) (cap : Nat) (l : List Int) (at_ : Nat) (most each : Int) (t : List (List Int)) (k : Nat) (e : Int) (w : World) (h : Rd B w r A cap l at_ 0) (hl : l.length ≤ 1000000) (hb : Byt l) (m1 : most ≤ 9223372036854775807) (m2 : each ≤ 9223372036854775807) (hx : listD (l.drop at_) most each = (t, k, e)) :
    Calls Try.prog 24 #[.pointer (some ⟨r, 0, none⟩), .int .i64 most, .int .i64 each] w fun y w' => ∃ A' c', y = .returned (.slice A' t.length c') ∧ Kd.S kT 27 w' w.heap.size (fun _ => True) (.slice A' t.length c') t ∧ Rd B w' r A cap l (at_ + k) e ∧ w.grownBy w' (some r) := by
  have := list_read B _ r A cap l at_ most each w h (by omega) hb m1 m2
  rw [hx] at this
  refine this.mono ?_
  rintro y w' ⟨v, rfl, hr, h1, h2⟩
  obtain ⟨A', c', rfl⟩ := Kd.S_slice hr
  exact ⟨A', c', rfl, hr, h1, h2⟩
theorem end_b (B r : Nat) (A : Option Addr) (cap : Nat) (l : List Int) (at_ : Nat) (e e' : Int) (w : World) (h : Rd B w r A cap l at_ e) (hl : l.length ≤ 1000000) (hx : endD (l.drop at_) e = e') :
    Calls Try.prog 28 #[.pointer (some ⟨r, 0, none⟩)] w fun y w' => y = .returned (.int .i64 e') ∧ Rd B w' r A cap l at_ e' ∧ w.grownBy w' (some r) := by
  have := end_read B _ r A cap l at_ e w h (by omega)
  rw [hx] at this
  exact this
theorem same4_t (A0 : Option Addr) (c0 n0 : Nat) (A1 : Option Addr) (c1 n1 : Nat) (l : List (List Int)) (w : World) (h1 : l.length ≤ 1000) (h2 : ∀ t ∈ l, t.length ≤ 1000) (hn0 : n0 = l.length) (hn1 : n1 = l.length) (h0 : Kd.C kT w A0 l.length l) (hc0 : l.length ≤ c0) (h3 : Kd.C kT w A1 l.length l) (hc1 : l.length ≤ c1) :
    Calls Try.prog 23 #[.slice A0 n0 c0, .slice A1 n1 c1] w fun e w' => e = .returned (.bool true) ∧ Below w.heap.size w w' := by
  subst hn0
  subst hn1
  refine (PWireReads.juratref04_Same.calls 3000 A0 c0 l A1 c1 l true w h0 hc0 h3 hc1 (same4 l h1 h2)).mono ?_
  rintro e w' ⟨rfl, hq⟩
  exact ⟨rfl, below_q (Below.refl _ _) hq.out⟩
theorem textB_byt (t : List Int) (h : Byt t) : Byt (textB t) := by
  intro x hx
  unfold textB at hx
  rcases List.mem_append.1 hx with hx | hx
  · exact numB_byt _ x hx
  · exact h x hx
theorem textsB_byt (l : List (List Int)) (h : ∀ t ∈ l, Byt t) : Byt (textsB l) := by
  induction l with
  | nil => intro x hx; simp [textsB] at hx
  | cons t l ih =>
    intro x hx
    simp only [textsB] at hx
    rcases List.mem_append.1 hx with hx | hx
    · exact textB_byt t (h t List.mem_cons_self) x hx
    · exact ih (fun t ht => h t (List.mem_cons_of_mem _ ht)) x hx
theorem listB_byt (l : List (List Int)) (h : ∀ t ∈ l, Byt t) : Byt (listB l) := by
  intro x hx
  unfold listB at hx
  rcases List.mem_append.1 hx with hx | hx
  · exact numB_byt _ x hx
  · exact textsB_byt l h x hx
theorem texts_split (l : List (List Int)) (k : Nat) : textsB l = textsB (l.take k) ++ textsB (l.drop k) := by rw [← textsB_append, List.take_append_drop]
end Go.Proofs.Ytnkaalapjlmmiaa.WireT2
