/- PROVED: digits of bytes, in plain lists. No condition beyond what each line says. -/
import Derived.Test.YtdmofimhengcoaaHexB
import Derived.Test.YtdmofimhengcoaaShelf
import Derived.Test.YtdmofimhengcoaaLRead
import Derived.Test.YtdmofimhengcoaaWApart
import Derived.Test.YtdmofimhengcoaaWKept
import Derived.Lib.Builder
import Derived.Shelf.Strings.Builder1
import Derived.WalkKit
import Derived.WalkSpells
import Derived.WalkLawsBesides
import Derived.WalkMore
import Derived.Outline
import Derived.Lib.Hide
import Derived.BigQuiet
import Derived.Deep.QuietTactic
import Derived.Deep.RegionHeld3
import Derived.Deep.RegionLaw
import Derived.Deep.LoopGhost
import Derived.Deep.DeepCutAuto
namespace Go.Proofs.Ytdmofimhengcoaa.HexQ
open Go.RowKit Go.Proofs.Ytdmofimhengcoaa.PBitsHex Go.Proofs.YtdmofimhengcoaaW.PrintWords Go.Proofs.YtdmofimhengcoaaW.PrintLast Go.Proofs.YtdmofimhengcoaaW.PrintMore
open Go.Proofs.Ytdmofimhengcoaa.HexB
set_option linter.unusedSimpArgs false
set_option linter.unusedVariables false
/-- A digit, and the digits of bytes. -/
def dig (n : Nat) : Int := (([48, 49, 50, 51, 52, 53, 54, 55, 56, 57, 97, 98, 99, 100, 101, 102] : List Int)).getD n 0
def hexL : List Int → List Int
  | [] => []
  | x :: l => dig (x.toNat / 16) :: dig (x.toNat % 16) :: hexL l
theorem hexL_app : ∀ (l m : List Int), hexL (l ++ m) = hexL l ++ hexL m
  | [], _ => rfl
  | x :: l, m => by simp [hexL, hexL_app l m]
theorem hexL_len : ∀ l : List Int, (hexL l).length = 2 * l.length
  | [] => rfl
  | x :: l => by simp [hexL, hexL_len l]; omega
theorem dig_at : ∀ n : Fin 16, (((⟨#[48, 49, 50, 51, 52, 53, 54, 55, 56, 57, 97, 98, 99, 100, 101, 102]⟩ : ByteArray)[n.val]'n.isLt).toNat : Int) = dig n.val := by decide
theorem dig_rng : ∀ n : Fin 16, 0 ≤ dig n.val ∧ dig n.val < 256 := by decide
theorem hexL_rng : ∀ (l : List Int), (∀ x ∈ l, 0 ≤ x ∧ x < 256) → ∀ y ∈ hexL l, 0 ≤ y ∧ y < 256
  | [], _, y, hy => by simp [hexL] at hy
  | x :: l, h, y, hy => by
    have hx := h x (by simp)
    simp only [hexL, List.mem_cons] at hy
    rcases hy with rfl | rfl | hy
    · exact dig_rng ⟨x.toNat / 16, by omega⟩
    · exact dig_rng ⟨x.toNat % 16, by omega⟩
    · exact hexL_rng l (fun z hz => h z (by simp [hz])) y hy
theorem byte_in {w : World} {A : Option Addr} {l : List Int} (h : Kd.C (Kd.int .u8) w A l.length l) {k : Nat} {x : Int} (hx : l[k]? = some x) : ∃ b off, A = some ⟨b, off, none⟩ ∧ w.cell? ⟨b, off + k, none⟩ = some (.int .u8 x) := by
  have hk : k < l.length := (List.getElem?_eq_some_iff.1 hx).1
  obtain ⟨b, off, rfl, hb, hel⟩ := LRead.C_addr h (by decide) (by omega)
  obtain ⟨c, hc, hK, hcell⟩ := hel k x hx
  have hK2 : c = [.int .u8 x] := hK
  subst hK2
  refine ⟨b, off, rfl, ?_⟩
  have := hcell 0 _ rfl
  rw [show off + k * (Kd.int .u8).sz + 0 = off + k from by show off + k * 1 + 0 = off + k; omega] at this
  exact this
theorem cell_b {w w1 : World} (h : Below w.heap.size w w1) {a : Addr} {v : Value} (hc : w.cell? a = some v) : w1.cell? a = some v := (World.cell?_of_block (h.block _ (World.block_lt_of_cell? w a hc))).trans hc
/-- Numbers as bytes. -/
def u8s (l : List Int) : List UInt8 := l.map (fun x => x.toNat.toUInt8)
theorem u8s_cells : ∀ (l : List Int), (∀ x ∈ l, 0 ≤ x ∧ x < 256) → Lib.byteCells (u8s l) = encs (Value.int .u8) l
  | [], _ => rfl
  | x :: l, h => by
    have hx := h x (by simp)
    have ih := u8s_cells l (fun z hz => h z (by simp [hz]))
    show Value.int .u8 ((x.toNat.toUInt8).toNat : Int) :: Lib.byteCells (u8s l) = Value.int .u8 x :: encs (Value.int .u8) l
    rw [ih]
    congr 2
    have : (x.toNat.toUInt8).toNat = x.toNat := by
      show (UInt8.ofNat x.toNat).toNat = x.toNat
      rw [UInt8.toNat_ofNat']
      omega
    rw [this]
    omega
theorem world_gen {K : World → Prop} {W : World} (P : World → Prop) (h : P W) (hk : ∀ w, P w → K w) : K W := hk W h
theorem new_builder (w : World) : Lib.IsBuilder 56 5 w.heap.size w.heap.size (encs (Value.int .u8) (hexL [])) (w.alloc (.cells #[.pointer none, .slice none 0 0] 56)) :=
  .inl ⟨Nat.le_refl _, .slice none 0 0, blk_new w _, own_nil _ _ _ _, by simp [Value.ownBlock]⟩
end Go.Proofs.Ytdmofimhengcoaa.HexQ
