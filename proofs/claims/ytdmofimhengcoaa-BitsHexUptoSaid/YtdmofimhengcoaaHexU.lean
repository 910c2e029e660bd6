/- PROVED: what Unhex answers, in plain lists; the reference's Unhex. No condition beyond what each line says. -/
import Derived.Test.YtdmofimhengcoaaHexW
import Derived.Test.YtdmofimhengcoaaShelf
import Derived.Test.YtdmofimhengcoaaLRead
import Derived.Test.YtdmofimhengcoaaWApart
import Derived.Test.YtdmofimhengcoaaWKept
import Derived.Lib.Builder
import Derived.Shelf.Strings.Builder1
import Derived.WalkKit
import Derived.WalkSpells
import Derived.WalkLawsBesides
import Derived.WalkMore
import Derived.Outline
import Derived.Lib.Hide
import Derived.BigQuiet
import Derived.Deep.QuietTactic
import Derived.Deep.RegionHeld3
import Derived.Deep.RegionLaw
import Derived.Deep.LoopGhost
import Derived.Deep.DeepCutAuto
namespace Go.Proofs.Ytdmofimhengcoaa.HexU
open Go.RowKit Go.Proofs.Ytdmofimhengcoaa.PBitsHex Go.Proofs.YtdmofimhengcoaaW.PrintWords Go.Proofs.YtdmofimhengcoaaW.PrintLast Go.Proofs.YtdmofimhengcoaaW.PrintMore
open Go.Proofs.Ytdmofimhengcoaa.HexB Go.Proofs.Ytdmofimhengcoaa.HexQ Go.Proofs.Ytdmofimhengcoaa.HexW
set_option linter.unusedSimpArgs false
set_option linter.unusedVariables false
/-- Where a digit stands; -1: nowhere. -/
def VI (c : Int) : Int := Lib.indexByte (⟨#[48, 49, 50, 51, 52, 53, 54, 55, 56, 57, 97, 98, 99, 100, 101, 102]⟩ : ByteArray).data.toList c.toNat.toUInt8
theorem vi_all : ∀ c : Fin 256, VI c.val = -1 ∨ (0 ≤ VI c.val ∧ VI c.val < 16 ∧ dig (VI c.val).toNat = c.val) := by decide +kernel
theorem vi_dig : ∀ n : Fin 16, VI (dig n.val) = n.val := by decide +kernel
theorem worth_all : ∀ c : Fin 256, juratref01_worth.f 20 (c.val : Int) = some (VI c.val) := by decide +kernel
theorem vi_at {c : Int} (h0 : 0 ≤ c) (h1 : c < 256) : VI c = -1 ∨ (0 ≤ VI c ∧ VI c < 16 ∧ dig (VI c).toNat = c) := by
  have := vi_all ⟨c.toNat, by omega⟩
  rwa [show ((c.toNat : Nat) : Int) = c by omega] at this
theorem worth_at {c : Int} (h0 : 0 ≤ c) (h1 : c < 256) (k : Nat) (hk : 20 ≤ k) : juratref01_worth.f k c = some (VI c) := by
  have := worth_all ⟨c.toNat, by omega⟩
  rw [show ((c.toNat : Nat) : Int) = c by omega] at this
  exact at_rounds (g := fun k => juratref01_worth.f k c) (fun k => juratref01_worth.mono c k) hk this
def VS (s : ByteArray) (j : Nat) : Int := VI (bt s j)
theorem vs_at (s : ByteArray) (j : Nat) : VS s j = -1 ∨ (0 ≤ VS s j ∧ VS s j < 16 ∧ dig (VS s j).toNat = bt s j) := vi_at (bt_range s j).1 (by have := (bt_range s j).2; omega)
def decS (s : ByteArray) (m : Nat) : List Int := (List.range m).map (fun j => 16 * VS s (2 * j) + VS s (2 * j + 1))
def okB (s : ByteArray) (m : Nat) : Prop := ∀ j, j < 2 * m → 0 ≤ VS s j
def okb (s : ByteArray) (m : Nat) : Bool := (List.range (2 * m)).all (fun j => decide (0 ≤ VS s j))
theorem okb_iff (s : ByteArray) (m : Nat) : okb s m = true ↔ okB s m := by
  unfold okb okB
  simp [List.all_eq_true]
theorem decS_len (s : ByteArray) (m : Nat) : (decS s m).length = m := by simp [decS]
theorem decS_succ (s : ByteArray) (m : Nat) : decS s (m + 1) = decS s m ++ [16 * VS s (2 * m) + VS s (2 * m + 1)] := by simp [decS, List.range_succ]
theorem okB_succ {s : ByteArray} {i : Nat} (h : okB s i) (h1 : 0 ≤ VS s (2 * i)) (h2 : 0 ≤ VS s (2 * i + 1)) : okB s (i + 1) := by
  intro j hj
  by_cases q : j < 2 * i
  · exact h j q
  · by_cases q1 : j = 2 * i
    · rw [q1]; exact h1
    · rw [show j = 2 * i + 1 by omega]; exact h2
/-- What Unhex answers. -/
def unhS (s : ByteArray) : List Int × Int := if s.size % 2 = 1 then ([], 1) else if okb s (s.size / 2) = true then (decS s (s.size / 2), 0) else ([], 1)
theorem unhS_odd {s : ByteArray} (h : s.size % 2 = 1) : unhS s = ([], 1) := if_pos h
theorem unhS_ok {s : ByteArray} {m : Nat} (h : s.size = 2 * m) (ho : okB s m) : unhS s = (decS s m, 0) := by
  unfold unhS
  rw [if_neg (by omega), show s.size / 2 = m by omega, if_pos ((okb_iff s m).2 ho)]
theorem unhS_bad {s : ByteArray} {m : Nat} (h : s.size = 2 * m) (ho : ¬ okB s m) : unhS s = ([], 1) := by
  unfold unhS
  rw [if_neg (by omega), show s.size / 2 = m by omega, if_neg (fun q => ho ((okb_iff s m).1 q))]
theorem ref_l (s : ByteArray) (m : Nat) (hs : s.size = 2 * m) (hm : m ≤ 4000000) : ∀ (d i k : Nat), m - i = d → i ≤ m → d + 30 < k → okB s i → juratref01_Unhex.l0 k s (decS s i) ((2 * i : Nat) : Int) = some (unhS s)
  | 0, i, k + 1, hd, hi, hk, ho => by
    have : i = m := by omega
    subst this
    unfold juratref01_Unhex.l0
    rw [if_neg (by omega), unhS_ok hs ho]
  | d + 1, i, k + 1, hd, hi, hk, ho => by
    have b0 := bt_range s ((2 * i : Nat) : Int)
    have b1 := bt_range s ((2 * i + 1 : Nat) : Int)
    unfold juratref01_Unhex.l0
    rw [if_pos (by omega), if_pos (by omega), worth_at b0.1 (by omega) k (by omega), Option.bind_some, show wrap64 (((2 * i : Nat) : Int) + 1) = ((2 * i + 1 : Nat) : Int) by unfold wrap64; omega, if_pos (by omega), if_pos (by omega), worth_at b1.1 (by omega) k (by omega), Option.bind_some]
    show (if VS s (2 * i) < 0 then _ else if VS s (2 * i + 1) < 0 then _ else _) = _
    have v0 := vs_at s (2 * i)
    have v1 := vs_at s (2 * i + 1)
    by_cases q0 : VS s (2 * i) < 0
    · rw [if_pos q0, unhS_bad hs (fun h => by have := h (2 * i) (by omega); omega)]
    · rw [if_neg q0]
      by_cases q1 : VS s (2 * i + 1) < 0
      · rw [if_pos q1, unhS_bad hs (fun h => by have := h (2 * i + 1) (by omega); omega)]
      · rw [if_neg q1, if_pos (by rw [decS_len]; omega)]
        have e : (wrap64 ((wrap64 (16 * VS s (2 * i))) + VS s (2 * i + 1))) % 256 = 16 * VS s (2 * i) + VS s (2 * i + 1) := by
          have w1 : wrap64 (16 * VS s (2 * i)) = 16 * VS s (2 * i) := by unfold wrap64; omega
          have w2 : wrap64 (16 * VS s (2 * i) + VS s (2 * i + 1)) = 16 * VS s (2 * i) + VS s (2 * i + 1) := by unfold wrap64; omega
          rw [w1, w2]; omega
        show juratref01_Unhex.l0 k s (decS s i ++ [(wrap64 ((wrap64 (16 * VS s (2 * i))) + VS s (2 * i + 1))) % 256]) _ = _
        rw [e, ← decS_succ, show wrap64 (((2 * i : Nat) : Int) + 2) = ((2 * (i + 1) : Nat) : Int) by unfold wrap64; omega]
        exact ref_l s m hs hm d (i + 1) k (by omega) (by omega) (by omega) (okB_succ ho (by omega) (by omega))
  | _, _, 0, _, _, hk, _ => by omega
theorem ref_f (s : ByteArray) (hm : s.size ≤ 4000000) : juratref01_Unhex.f (s.size + 40) s = some (unhS s) := by
  unfold juratref01_Unhex.f
  by_cases q : s.size % 2 = 1
  · rw [if_neg (by omega), unhS_odd q]
  · rw [if_pos (by omega)]
    exact ref_l s (s.size / 2) (by omega) (by omega) (s.size / 2) 0 (s.size + 40) (by omega) (by omega) (by omega) (fun j hj => by omega)
theorem runhex_ok (s : ByteArray) (hm : s.size ≤ 4000000) (w : World) : Calls Try.prog 22 #[.string s] w fun e w' => ∃ A c, e = .returned (.tuple #[.slice A (unhS s).1.length c, .int .i64 (unhS s).2]) ∧ Kd.R (Kd.int .u8) 5 w' w.heap.size (fun _ => True) (.slice A (unhS s).1.length c) (unhS s).1 ∧ Below w.heap.size w w' := by
  refine (juratref01_Unhex.calls (s.size + 40) s (unhS s).1 (unhS s).2 w (ref_f s hm)).mono fun e w' hp => ?_
  obtain ⟨v, he, hR, hB⟩ := hp
  obtain ⟨A, c, rfl⟩ := Kd.R_slice hR
  exact ⟨A, c, he, hR, hB⟩
end Go.Proofs.Ytdmofimhengcoaa.HexU
