/- PROVED: Hex of the program. No condition beyond what each line says. -/
import Derived.Test.YtdmofimhengcoaaHexQ
import Derived.Test.YtdmofimhengcoaaShelf
import Derived.Test.YtdmofimhengcoaaLRead
import Derived.Test.YtdmofimhengcoaaWApart
import Derived.Test.YtdmofimhengcoaaWKept
import Derived.Lib.Builder
import Derived.Shelf.Strings.Builder1
import Derived.WalkKit
import Derived.WalkSpells
import Derived.WalkLawsBesides
import Derived.WalkMore
import Derived.Outline
import Derived.Lib.Hide
import Derived.BigQuiet
import Derived.Deep.QuietTactic
import Derived.Deep.RegionHeld3
import Derived.Deep.RegionLaw
import Derived.Deep.LoopGhost
import Derived.Deep.DeepCutAuto
namespace Go.Proofs.Ytdmofimhengcoaa.HexW
open Go.RowKit Go.Proofs.Ytdmofimhengcoaa.PBitsHex Go.Proofs.YtdmofimhengcoaaW.PrintWords Go.Proofs.YtdmofimhengcoaaW.PrintLast Go.Proofs.YtdmofimhengcoaaW.PrintMore
open Go.Proofs.Ytdmofimhengcoaa.HexB Go.Proofs.Ytdmofimhengcoaa.HexQ
set_option linter.unusedSimpArgs false
set_option linter.unusedVariables false
set_option maxHeartbeats 4000000 in
set_option maxRecDepth 100000 in
theorem hex_ok (A : Option Addr) (c : Nat) (l : List Int) (w : World) (hC : Kd.C (Kd.int .u8) w A l.length l) (hcap : l.length ≤ c) (hby : ∀ x ∈ l, 0 ≤ x ∧ x < 256) (hl : l.length ≤ 10000000) :
    Calls Try.prog 20 #[.slice A l.length c] w fun e w' => e = .returned (.string ⟨(u8s (hexL l)).toArray⟩) ∧ Below w.heap.size w w' := by
  have HC := Lib.hid hC
  have HBY := Lib.hid hby
  clear hC hby
  go_enter Try.func20, Try.ntmps20
  go_upto_region 3 with (fail)
  refine world_gen (P := fun w1 => Lib.IsBuilder 56 5 w.heap.size w.heap.size (encs (Value.int .u8) (hexL [])) w1 ∧ Below w.heap.size w w1) ⟨new_builder w, below_alloc (Below.refl _ _) _⟩ (fun w1 h1 => ?_)
  obtain ⟨h1, h2⟩ := h1
  have HI := Lib.hid h1
  have HB := Lib.hid h2
  clear h1 h2
  obtain ⟨g, hg⟩ : ∃ g, w.heap.size = g := ⟨_, rfl⟩
  have HGS := Lib.hid hg
  rw [hg] at HI ⊢
  clear hg
  go_loopw [5, 8] (fun u5 u8 wr => ∃ (k : Nat) (tv : Value), u8 = .int .i64 k ∧ k ≤ l.length ∧ u5 = tv ∧ Hid (Lib.IsBuilder 56 5 g g (encs (Value.int .u8) (hexL (l.take k))) wr) ∧ Hid (Below w.heap.size w wr)) (fun _ u8 _ => l.length - (intOf u8).toNat)
  case atStart => exact ⟨0, _, rfl, Nat.zero_le _, rfl, HI, HB⟩
  clear HI HB
  obtain ⟨k, tv, rfl, hk, rfl, HI, HB⟩ := hrel
  by_cases hlt : k < l.length
  · have hlt' : (k : Int) < l.length := by omega
    obtain ⟨x, hx⟩ : ∃ x, l[k]? = some x := ⟨_, List.getElem?_eq_getElem hlt⟩
    obtain ⟨bb, off, rfl, x0⟩ := byte_in HC.out hx
    have x0 := cell_b HB.out x0
    have hx8 := HBY.out x (List.mem_of_getElem? hx)
    obtain ⟨n, rfl⟩ := Int.eq_ofNat_of_zero_le hx8.1
    have hn : n < 256 := by omega
    have HD1 : Hid (∀ h, (((⟨#[48, 49, 50, 51, 52, 53, 54, 55, 56, 57, 97, 98, 99, 100, 101, 102]⟩ : ByteArray)[n / 16]'h).toNat : Int) = dig (n / 16)) := Lib.hid (fun h => dig_at ⟨n / 16, by omega⟩)
    have HD2 : Hid (∀ h, (((⟨#[48, 49, 50, 51, 52, 53, 54, 55, 56, 57, 97, 98, 99, 100, 101, 102]⟩ : ByteArray)[n % 16]'h).toNat : Int) = dig (n % 16)) := Lib.hid (fun h => dig_at ⟨n % 16, by omega⟩)
    have HE : Hid (encs (Value.int .u8) (hexL (l.take (k + 1))) = encs (Value.int .u8) (hexL (l.take k)) ++ [.int .u8 (dig (n / 16))] ++ [.int .u8 (dig (n % 16))]) := Lib.hid (by rw [List.take_add_one, hx, hexL_app]; simp [encs, hexL])
    have HL : Hid ((encs (Value.int .u8) (hexL (l.take k))).length ≤ 20000000) := Lib.hid (by rw [encs_length, hexL_len, List.length_take]; omega)
    have hgw : g ≤ wr.heap.size := by rw [← HGS.out]; exact HB.out.size
    clear hx8 hx
    go_wp2_with (first | ((with_reducible go_at_call 24); (have q_ := HI; clear q_); go_must (refine (wb_ok g g _ _ _ HI.out (by have := HL.out; omega) hgw).mono ?_; rintro e w1 ⟨rfl, hi, hb⟩; rw [HD1.out] at hi; have HI2 := Lib.hid hi; have hgw2 := Nat.le_trans hgw hb.size; clear hgw; have hgw := hgw2; clear hgw2 HI hi; have hb_ := HB.out.trans (by rw [HGS.out]; exact hb); clear HB; have HB := Lib.hid hb_; clear hb_; clear hb)) | ((with_reducible go_at_call 24); (have q_ := HI2; clear q_); go_must (refine (wb_ok g g _ _ _ HI2.out (by have := HL.out; rw [List.length_append]; simp; omega) hgw).mono ?_; rintro e w1 ⟨rfl, hi, hb⟩; rw [HD2.out] at hi; have HI3 := Lib.hid hi; have hgw2 := Nat.le_trans hgw hb.size; clear hgw; have hgw := hgw2; clear hgw2 HI2 hi; have hb_ := HB.out.trans (by rw [HGS.out]; exact hb); clear HB; have HB := Lib.hid hb_; clear hb_; clear hb)))
    exact ⟨⟨k + 1, _, by go_num, by omega, rfl, Lib.hid (by rw [HE.out]; exact HI3.out), HB⟩, by simp [intOf]; omega⟩
  · have hlt' : (l.length : Int) ≤ k := by omega
    have hT : l.take k = l := List.take_of_length_le (by omega)
    have hi := HI.out
    rw [hT, ← u8s_cells (hexL l) (hexL_rng l HBY.out)] at hi
    have HI2 := Lib.hid hi
    have hgw : g ≤ wr.heap.size := by rw [← HGS.out]; exact HB.out.size
    clear hi hT HI
    go_wp2_with (first | ((with_reducible go_at_call 25); go_must (refine (Try.Builder_String_any g g (u8s (hexL l)) _ HI2.out hgw).mono ?_; rintro e w1 ⟨rfl, hb⟩; have hb_ := HB.out.trans (by rw [HGS.out]; exact hb); clear HB; have HB := Lib.hid hb_; clear hb_; clear hb)))
    go_ret
    exact ⟨rfl, HB.out⟩
end Go.Proofs.Ytdmofimhengcoaa.HexW
