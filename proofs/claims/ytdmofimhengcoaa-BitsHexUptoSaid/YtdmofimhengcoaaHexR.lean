/- PROVED: the reference's Hex. No condition beyond what each line says. -/
import Derived.Test.YtdmofimhengcoaaHexV
import Derived.Test.YtdmofimhengcoaaShelf
import Derived.Test.YtdmofimhengcoaaLRead
import Derived.Test.YtdmofimhengcoaaWApart
import Derived.Test.YtdmofimhengcoaaWKept
import Derived.Lib.Builder
import Derived.Shelf.Strings.Builder1
import Derived.WalkKit
import Derived.WalkSpells
import Derived.WalkLawsBesides
import Derived.WalkMore
import Derived.Outline
import Derived.Lib.Hide
import Derived.BigQuiet
import Derived.Deep.QuietTactic
import Derived.Deep.RegionHeld3
import Derived.Deep.RegionLaw
import Derived.Deep.LoopGhost
import Derived.Deep.DeepCutAuto
namespace Go.Proofs.Ytdmofimhengcoaa.HexR
open Go.RowKit Go.Proofs.Ytdmofimhengcoaa.PBitsHex Go.Proofs.YtdmofimhengcoaaW.PrintWords Go.Proofs.YtdmofimhengcoaaW.PrintLast Go.Proofs.YtdmofimhengcoaaW.PrintMore
open Go.Proofs.Ytdmofimhengcoaa.HexB Go.Proofs.Ytdmofimhengcoaa.HexQ Go.Proofs.Ytdmofimhengcoaa.HexW Go.Proofs.Ytdmofimhengcoaa.HexU Go.Proofs.Ytdmofimhengcoaa.HexV
set_option linter.unusedSimpArgs false
set_option linter.unusedVariables false
theorem C_two (w : World) (a b : Int) : Kd.C (Kd.int .u8) (w.alloc (.cells #[.int .u8 a, .int .u8 b] 5)) (some ⟨w.heap.size, 0, none⟩) 2 [a, b] := by
  refine ⟨rfl, by decide, fun _ => ⟨⟨w.heap.size, 0, none⟩, rfl, fun j p hj => ⟨[.int .u8 p], rfl, rfl, fun i u hu => ?_⟩⟩⟩
  cases i with
  | zero =>
    have hp : Value.int .u8 p = u := by simpa using hu
    subst hp
    match j, hj with
    | 0, hj => simp at hj; subst hj; exact (blk_cell (blk_new w _) 0).trans rfl
    | 1, hj => simp at hj; subst hj; exact (blk_cell (blk_new w _) 1).trans rfl
  | succ i => simp at hu
set_option maxHeartbeats 4000000 in
set_option maxRecDepth 100000 in
theorem rhex_ok (A : Option Addr) (c : Nat) (l : List Int) (w : World) (hC : Kd.C (Kd.int .u8) w A l.length l) (hcap : l.length ≤ c) (hby : ∀ x ∈ l, 0 ≤ x ∧ x < 256) (hl : l.length ≤ 10000000) :
    Calls Try.prog 23 #[.slice A l.length c] w fun e w' => e = .returned (.string (strOfNums (hexL l))) ∧ Below w.heap.size w w' := by
  have HC := Lib.hid hC
  have HBY := Lib.hid hby
  have HB := Lib.hid (Below.refl w.heap.size w)
  clear hC hby
  go_enter Try.func23, Try.ntmps23
  go_upto_region 3 with (fail)
  go_loopw [3, 4] (fun u3 u4 wr => ∃ (k : Nat) (Ao : Option Addr) (co : Nat) (hl : List Int), u4 = .int .i64 k ∧ k ≤ l.length ∧ u3 = .slice Ao hl.length co ∧ Hid (hl = hexL (l.take k)) ∧ Hid (Kd.R (Kd.int .u8) 5 wr w.heap.size (fun _ => True) (.slice Ao hl.length co) hl) ∧ Hid (Below w.heap.size w wr)) (fun _ u4 _ => l.length - (intOf u4).toNat)
  case atStart => exact ⟨0, none, 0, [], rfl, Nat.zero_le _, rfl, Lib.hid rfl, Lib.hid (Kd.R_nil _ _ _ _ _), HB⟩
  clear HB
  obtain ⟨k, Ao, co, hs, rfl, hk, rfl, HH, HL, HB⟩ := hrel
  have hln : hs.length ≤ 20000000 := by rw [HH.out, hexL_len, List.length_take]; omega
  by_cases hlt : k < l.length
  · have hlt' : (k : Int) < l.length := by omega
    obtain ⟨x, hx⟩ : ∃ x, l[k]? = some x := ⟨_, List.getElem?_eq_getElem hlt⟩
    obtain ⟨bb, off, rfl, x0⟩ := byte_in HC.out hx
    have x0 := cell_b HB.out x0
    have hx8 := HBY.out x (List.mem_of_getElem? hx)
    obtain ⟨n, rfl⟩ := Int.eq_ofNat_of_zero_le hx8.1
    have hn : n < 256 := by omega
    have HE : Hid (hexL (l.take (k + 1)) = hs ++ [dig (n / 16), dig (n % 16)]) := Lib.hid (by rw [List.take_add_one, hx, hexL_app, ← HH.out]; simp [hexL])
    have d1 : ∀ h, (((⟨#[48, 49, 50, 51, 52, 53, 54, 55, 56, 57, 97, 98, 99, 100, 101, 102]⟩ : ByteArray)[n / 16]'h).toNat : Int) = dig (n / 16) := fun h => dig_at ⟨n / 16, by omega⟩
    have d2 : ∀ h, (((⟨#[48, 49, 50, 51, 52, 53, 54, 55, 56, 57, 97, 98, 99, 100, 101, 102]⟩ : ByteArray)[n % 16]'h).toNat : Int) = dig (n % 16) := fun h => dig_at ⟨n % 16, by omega⟩
    have n16 : n / 16 < 16 := by omega
    have m16 : n % 16 < 16 := by omega
    have hbl := HB.out.size
    have T1 : IntKind.u8.wrap ((n : Int) / 16) = (n : Int) / 16 := by simp [IntKind.wrap, IntKind.bits, IntKind.signed]; omega
    have T2 : IntKind.u8.wrap ((n : Int) % 16) = (n : Int) % 16 := by simp [IntKind.wrap, IntKind.bits, IntKind.signed]; omega
    have T3 : ((n : Int) / 16).toNat = n / 16 := by omega
    have T4 : ((n : Int) % 16).toNat = n % 16 := by omega
    have em : (n : Int).tmod 16 = (n : Int) % 16 := Int.tmod_eq_emod_of_nonneg (by omega)
    have M1 : 0 ≤ (n : Int).tmod 16 := by rw [em]; omega
    have M2 : (n : Int).tmod 16 < 16 := by rw [em]; omega
    have M3 : ((n : Int).tmod 16).toNat = n % 16 := by rw [em]; omega
    clear em
    have T5 : (n : Int) / 16 < 16 := by omega
    have T6 : (n : Int) % 16 < 16 := by omega
    have T7 : 0 ≤ (n : Int) / 16 := by omega
    have T8 : 0 ≤ (n : Int) % 16 := by omega
    clear hx8 hx
    go_upto_region 5 with (fail)
    go_region_law (first | ((refine Kd.R_append_rows_step (Kd.int .u8) (w0 := wr) w.heap.size ?q1 (.tmp 11) (.tmp 24) 26 5 (.int .u8 0) 1 ?q2 Try.underlying26 info5 rfl (by decide) (by decide) (.slice Ao hs.length co) hs [dig (n / 16), dig (n % 16)] (some ⟨wr.heap.size, 0, none⟩) 2 2 (fun _ => True) (fun _ => False) ?aX ?aY ?aO ?aR (fun x cs h => h) (fun _ h => h.elim) ?aF ?aB ?aS ?aL ?_); (case q1 => rfl); (case q2 => rfl); (case aX => rfl); (case aY => rfl); (case aO => exact Kd.R_below HL.out (below_drew1 (below_alloc (Below.refl _ _) _))); (case aR => exact Kd.C_below (C_two wr _ _) (below_drew1 (Below.refl _ _))); (case aF => exact fun _ _ => trivial); (case aB => exact Below.mono (below_drew1 (below_alloc (Below.refl _ _) _)) HB.out.size); (case aS => exact Nat.le_trans HB.out.size (below_drew1 (below_alloc (Below.refl wr.heap.size wr) _)).size); (case aL => omega); intro vA wA ho hb hg hat; obtain ⟨AV, cV, rfl⟩ := Kd.R_slice ho; have HO := Lib.hid ho; have HBA := Lib.hid (HB.out.trans hb); clear ho hb hg hat))
    all_goals
      go_wp2
      exact ⟨⟨k + 1, AV, cV, hs ++ [dig (n / 16), dig (n % 16)], by go_num, by omega, by simp, Lib.hid HE.out.symm, Lib.hid (by have := HO.out; simpa using this), HBA⟩, by simp [intOf]; omega⟩
  · have hlt' : (l.length : Int) ≤ k := by omega
    have hT : l.take k = l := List.take_of_length_le (by omega)
    rw [hT] at HH
    clear hT
    have hcv : (convert 26 9 (.slice Ao hs.length co)).run Try.prog wr = .ok (.string (strOfNums hs)) wr := Kd.C_string Try.underlying26 Try.underlying5 Try.underlying9 (Kd.R_reads' HL.out).2.2
    go_wp2
    go_ret
    rw [← HH.out]
    exact ⟨rfl, HB.out⟩
end Go.Proofs.Ytdmofimhengcoaa.HexR
