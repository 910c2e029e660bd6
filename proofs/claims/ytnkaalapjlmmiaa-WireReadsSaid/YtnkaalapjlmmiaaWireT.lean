/- PROVED: what the statements of layer 4 call, told with where the bytes lie. No condition beyond what each line says. -/
import Derived.Test.YtnkaalapjlmmiaaWireR3
import Derived.Test.YtnkaalapjlmmiaaWKept
import Derived.Test.YtnkaalapjlmmiaaWApart
import Derived.Test.YtnkaalapjlmmiaaLRead
import Derived.Test.YtnkaalapjlmmiaaWApart
import Derived.WalkKit
import Derived.WalkSpells
import Derived.WalkLawsBesides
import Derived.WalkMore
import Derived.Outline
import Derived.Lib.Hide
import Derived.BigQuiet
import Derived.Deep.QuietTactic
import Derived.Deep.RegionHeld3
import Derived.Deep.RegionLaw
import Derived.Deep.LoopGhost
import Derived.Deep.DeepCutAuto
namespace Go.Proofs.Ytnkaalapjlmmiaa.WireT
open Go.RowKit Go.Proofs.Ytnkaalapjlmmiaa.PWireWrites Go.Proofs.Ytnkaalapjlmmiaa.WirePure Go.Proofs.YtnkaalapjlmmiaaW.PrintWords Go.Proofs.YtnkaalapjlmmiaaW.PrintLast Go.Proofs.YtnkaalapjlmmiaaW.PrintMore
open Go.Proofs.Ytnkaalapjlmmiaa.WireW (slice_at cell_below num_ok text_ok list_ok)
open Go.Proofs.Ytnkaalapjlmmiaa.WireR Go.Proofs.Ytnkaalapjlmmiaa.WireR2 Go.Proofs.Ytnkaalapjlmmiaa.WireR3
set_option linter.unusedSimpArgs false
set_option linter.unusedVariables false
theorem same_t (l : List Int) (h : l.length ≤ 1000000) : juratref01_Same.f 2000000 l l = some true := same_self 2000000 l (by omega) (by omega)
theorem same_eq (A0 : Option Addr) (c0 n0 : Nat) (A1 : Option Addr) (c1 n1 : Nat) (l : List Int) (w : World) (h : l.length ≤ 1000000) (hn0 : n0 = l.length) (hn1 : n1 = l.length) (h0 : Kd.C (Kd.int .u8) w A0 l.length l) (hc0 : l.length ≤ c0) (h1 : Kd.C (Kd.int .u8) w A1 l.length l) (hc1 : l.length ≤ c1) :
    Calls Try.prog 12 #[.slice A0 n0 c0, .slice A1 n1 c1] w fun e w' => e = .returned (.bool true) ∧ Below w.heap.size w w' := by
  subst hn0
  subst hn1
  refine (juratref01_Same.calls 2000000 A0 c0 l A1 c1 l true w h0 hc0 h1 hc1 (same_t l h)).mono ?_
  rintro e w' ⟨rfl, hq⟩
  exact ⟨rfl, below_q (Below.refl _ _) hq.out⟩
theorem own_t (A : Option Addr) (c : Nat) (l : List Int) (w : World) (h : l.length ≤ 1000000) (hC : Kd.C (Kd.int .u8) w A l.length l) (hc : l.length ≤ c) :
    Calls Try.prog 14 #[.slice A l.length c] w fun e w' => ∃ A' c', e = .returned (.slice A' l.length c') ∧ l.length ≤ c' ∧ Kd.C (Kd.int .u8) w' A' l.length l ∧ Below w.heap.size w w' := by
  refine (juratlaw04_own.calls A c l l w hC hc (own_eq l (by omega))).mono ?_
  rintro e w' ⟨v, rfl, hr, hb⟩
  obtain ⟨A', c', rfl⟩ := Kd.R_slice hr
  exact ⟨A', c', rfl, (Kd.R_reads' hr).2.1, (Kd.R_reads' hr).2.2, hb⟩
theorem text_t (A : Option Addr) (c : Nat) (l : List Int) (w : World) (h : l.length ≤ 1000000) (hC : Kd.C (Kd.int .u8) w A l.length l) (hc : l.length ≤ c) :
    Calls Try.prog 13 #[.slice A l.length c] w fun e w' => ∃ A' c', e = .returned (.slice A' (textB l).length c') ∧ (textB l).length ≤ c' ∧ Kd.C (Kd.int .u8) w' A' (textB l).length (textB l) ∧ Below w.heap.size w w' := by
  refine (text_ok A c l w hC hc h).mono ?_
  rintro e w' ⟨v, rfl, hr, hb⟩
  obtain ⟨A', c', rfl⟩ := Kd.R_slice hr
  exact ⟨A', c', rfl, (Kd.R_reads' hr).2.1, (Kd.R_reads' hr).2.2, hb⟩
theorem rtext_t (A : Option Addr) (c : Nat) (l : List Int) (w : World) (h : l.length ≤ 1000000) (hC : Kd.C (Kd.int .u8) w A l.length l) (hc : l.length ≤ c) :
    Calls Try.prog 15 #[.slice A l.length c] w fun e w' => ∃ A' c', e = .returned (.slice A' (textB l).length c') ∧ (textB l).length ≤ c' ∧ Kd.C (Kd.int .u8) w' A' (textB l).length (textB l) ∧ Below w.heap.size w w' := by
  refine (juratref04_Text.calls 30 A c l (textB l) w hC hc (ref_text 30 (by omega) l h)).mono ?_
  rintro e w' ⟨v, rfl, hr, hb⟩
  obtain ⟨A', c', rfl⟩ := Kd.R_slice hr
  exact ⟨A', c', rfl, (Kd.R_reads' hr).2.1, (Kd.R_reads' hr).2.2, hb⟩
theorem num_t (n : Int) (w : World) (h0 : 0 ≤ n) (h1 : n < 18446744073709551616) : Calls Try.prog 16 #[.int .u64 n] w fun e w' => ∃ A' c', e = .returned (.slice A' (numB n).length c') ∧ (numB n).length ≤ c' ∧ Kd.C (Kd.int .u8) w' A' (numB n).length (numB n) ∧ Below w.heap.size w w' := by
  refine (num_ok n w h0 h1).mono ?_
  rintro e w' ⟨v, rfl, hr, hb⟩
  obtain ⟨A', c', rfl⟩ := Kd.R_slice hr
  exact ⟨A', c', rfl, (Kd.R_reads' hr).2.1, (Kd.R_reads' hr).2.2, hb⟩
theorem rnum_t (n : Int) (w : World) (h0 : 0 ≤ n) (h1 : n < 18446744073709551616) : Calls Try.prog 17 #[.int .u64 n] w fun e w' => ∃ A' c', e = .returned (.slice A' (numB n).length c') ∧ (numB n).length ≤ c' ∧ Kd.C (Kd.int .u8) w' A' (numB n).length (numB n) ∧ Below w.heap.size w w' := by
  refine (juratref04_Num.calls 30 n (numB n) w (ref_num 30 (by omega) n h0 h1)).mono ?_
  rintro e w' ⟨v, rfl, hr, hb⟩
  obtain ⟨A', c', rfl⟩ := Kd.R_slice hr
  exact ⟨A', c', rfl, (Kd.R_reads' hr).2.1, (Kd.R_reads' hr).2.2, hb⟩
theorem copies_t (A : Option Addr) (c : Nat) (l : List (List Int)) (w : World) (h1 : l.length ≤ 1000) (h2 : ∀ t ∈ l, t.length ≤ 1000) (hC : Kd.C kT w A l.length l) (hc : l.length ≤ c) :
    Calls Try.prog 19 #[.slice A l.length c] w fun e w' => ∃ A' c', e = .returned (.slice A' l.length c') ∧ l.length ≤ c' ∧ Kd.C kT w' A' l.length l ∧ Below w.heap.size w w' := by
  refine (juratlaw04_copies.calls 2000 A c l l w hC hc (copies_eq l h1 h2)).mono ?_
  rintro e w' ⟨v, rfl, hr, hb⟩
  obtain ⟨A', c', rfl⟩ := Kd.S_slice hr
  exact ⟨A', c', rfl, (Kd.S_reads' hr).2.1, (Kd.S_reads' hr).2.2, hb⟩
theorem list_t (A : Option Addr) (c : Nat) (l : List (List Int)) (w : World) (h1 : l.length ≤ 1000) (h2 : ∀ t ∈ l, t.length ≤ 1000) (hC : Kd.C kT w A l.length l) (hc : l.length ≤ c) :
    Calls Try.prog 18 #[.slice A l.length c] w fun e w' => ∃ A' c', e = .returned (.slice A' (listB l).length c') ∧ (listB l).length ≤ c' ∧ Kd.C (Kd.int .u8) w' A' (listB l).length (listB l) ∧ Below w.heap.size w w' := by
  refine (list_ok A c l w hC hc (by omega) (fun t ht => Nat.le_trans (h2 t ht) (by omega))).mono ?_
  rintro e w' ⟨v, rfl, hr, hb⟩
  obtain ⟨A', c', rfl⟩ := Kd.R_slice hr
  exact ⟨A', c', rfl, (Kd.R_reads' hr).2.1, (Kd.R_reads' hr).2.2, hb⟩
theorem rlist_t (A : Option Addr) (c : Nat) (l : List (List Int)) (w : World) (h1 : l.length ≤ 1000) (h2 : ∀ t ∈ l, t.length ≤ 1000) (hC : Kd.C kT w A l.length l) (hc : l.length ≤ c) :
    Calls Try.prog 20 #[.slice A l.length c] w fun e w' => ∃ A' c', e = .returned (.slice A' (listB l).length c') ∧ (listB l).length ≤ c' ∧ Kd.C (Kd.int .u8) w' A' (listB l).length (listB l) ∧ Below w.heap.size w w' := by
  refine (juratref04_List.calls 2000 A c l (listB l) w hC hc (ref_list l h1 h2)).mono ?_
  rintro e w' ⟨v, rfl, hr, hb⟩
  obtain ⟨A', c', rfl⟩ := Kd.R_slice hr
  exact ⟨A', c', rfl, (Kd.R_reads' hr).2.1, (Kd.R_reads' hr).2.2, hb⟩
theorem long_t (b : Bool) (A : Option Addr) (c : Nat) (l : List (List Int)) (w : World) (hb : longB l = b) (hC : Kd.C kT w A l.length l) (hc : l.length ≤ c) :
    Calls Try.prog 10 #[.slice A l.length c] w fun e w' => e = .returned (.bool b) ∧ Below w.heap.size w w' := by
  subst hb
  refine (juratlaw04_long.calls 200 A c l (longB l) w hC hc (long_eq l)).mono ?_
  rintro e w' ⟨rfl, hq⟩
  exact ⟨rfl, below_q (Below.refl _ _) hq.out⟩
theorem listB_le (l : List (List Int)) (h1 : l.length ≤ 100) (h2 : ∀ t ∈ l, t.length ≤ 500) : (listB l).length ≤ 60000 := by
  have b1 := numB_le (l.length : Int)
  have b3 := textsB_le l 500 h2
  have b4 : l.length * (500 + 9) ≤ 100 * 509 := Nat.mul_le_mul h1 (Nat.le_refl _)
  unfold listB
  rw [List.length_append]
  omega
end Go.Proofs.Ytnkaalapjlmmiaa.WireT
